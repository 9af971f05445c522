/-
  No cell of these rows narrows 'for every input' (looked for: loops, veiled, ifaces, maps, wideKeys, modest, calm, conditions, laid).
  DERIVED. THE GIVEN ROWS OF THIS SEAT. 8 by the template 'for every input the law returns true; each argument reads behind the call as it read before'; 0 by the template 'total and deterministic' (their statements: YtinpinjjdkilpaaTotals.lean).
  GIVEN WITH THE SEED: the statements are not yours to turn. If you find one false, say at which input.
  Laid BY PROGRAM, IN A SANDBOX (cutbox-rows.mjs): the forced cells as the released guide's own fill.sh prints them over the translation 394735e790698ed6… (all of the seat's roots in one cut). By AI agents, Wed Nov 11 2026. No macro, syntax, notation, axiom, sorry.
-/
import Derived.Test.YtinpinjjdkilpaaChecked
import GoSem.Claim
import GoSem.ClaimJoined
import GoSem.ClaimMapViews
import Derived.JoinedTies
import Derived.KernelRfl
namespace Go.Proofs.Ytinpinjjdkilpaa
/- THE CELL 'sum', in the pinned program and in every row, IS THE sha256 OF THE DUMP (.gsa) THAT YtinpinjjdkilpaaProg.lean LOADS. Nothing in Lean hashes anything: it is a label: what it is worth is what the hold of that sum in a sandbox is worth. -/
noncomputable def Try.pinned : Pinned := { name := "ytinpinjjdkilpaa", sum := "394735e790698ed61e5d1d6675a668b66e1fa606ba616d6d03db672e39bbac0e", checked := Try.checked }
namespace Rows
def none {H : Type} : Left H := { results := [], args := [] }

/-- 'sheavelaw48.NetworkNew': WHATEVER THE INPUT: true; the input reads as it did. -/
def networkNewSpec : ChangeSpec := { name := "networkNew", fn := fun _ => fun
  | [d] => { results := [.lit (.bool true)], args := [d] }
  | _ => none }
def networkNewRow : OpenClaim := { program := "ytinpinjjdkilpaa", sum := "394735e790698ed61e5d1d6675a668b66e1fa606ba616d6d03db672e39bbac0e", func := "sheave/sheavelaw48.NetworkNew", spec := "networkNew", unfollowed := true, recurses := true, plainKeys := false, apart := false }
def NetworkNewSaid : Prop := networkNewRow.holds Try.pinned (OpenSpec.ofChange networkNewSpec)

/-- ITS FALSE NEIGHBOUR: 'it returns false'. Refute it at one input. -/
def networkNewWrong : ChangeSpec := { name := "networkNew", fn := fun _ => fun
  | [d] => { results := [.lit (.bool false)], args := [d] }
  | _ => none }
def NetworkNewWrongFalsely : Prop := networkNewRow.holds Try.pinned (OpenSpec.ofChange networkNewWrong)

/-- 'sheavelaw48.NetworkScript': WHATEVER THE INPUT: true; the input reads as it did. -/
def networkScriptSpec : ChangeSpec := { name := "networkScript", fn := fun _ => fun
  | [d1, d2] => { results := [.lit (.bool true)], args := [d1, d2] }
  | _ => none }
def networkScriptRow : OpenClaim := { program := "ytinpinjjdkilpaa", sum := "394735e790698ed61e5d1d6675a668b66e1fa606ba616d6d03db672e39bbac0e", func := "sheave/sheavelaw48.NetworkScript", spec := "networkScript", unfollowed := true, recurses := true, plainKeys := false, apart := false }
def NetworkScriptSaid : Prop := networkScriptRow.holds Try.pinned (OpenSpec.ofChange networkScriptSpec)

/-- ITS FALSE NEIGHBOUR: 'it returns false'. Refute it at one input. -/
def networkScriptWrong : ChangeSpec := { name := "networkScript", fn := fun _ => fun
  | [d1, d2] => { results := [.lit (.bool false)], args := [d1, d2] }
  | _ => none }
def NetworkScriptWrongFalsely : Prop := networkScriptRow.holds Try.pinned (OpenSpec.ofChange networkScriptWrong)

/-- 'sheavelaw48.NetworkFull': WHATEVER THE INPUT: true; the input reads as it did. -/
def networkFullSpec : ChangeSpec := { name := "networkFull", fn := fun _ => fun
  | [d1, d2] => { results := [.lit (.bool true)], args := [d1, d2] }
  | _ => none }
def networkFullRow : OpenClaim := { program := "ytinpinjjdkilpaa", sum := "394735e790698ed61e5d1d6675a668b66e1fa606ba616d6d03db672e39bbac0e", func := "sheave/sheavelaw48.NetworkFull", spec := "networkFull", unfollowed := true, recurses := true, plainKeys := false, apart := false }
def NetworkFullSaid : Prop := networkFullRow.holds Try.pinned (OpenSpec.ofChange networkFullSpec)

/-- ITS FALSE NEIGHBOUR: 'it returns false'. Refute it at one input. -/
def networkFullWrong : ChangeSpec := { name := "networkFull", fn := fun _ => fun
  | [d1, d2] => { results := [.lit (.bool false)], args := [d1, d2] }
  | _ => none }
def NetworkFullWrongFalsely : Prop := networkFullRow.holds Try.pinned (OpenSpec.ofChange networkFullWrong)

/-- 'sheavelaw48.NetworkConserved': WHATEVER THE INPUT: true; the input reads as it did. -/
def networkConservedSpec : ChangeSpec := { name := "networkConserved", fn := fun _ => fun
  | [d1, d2] => { results := [.lit (.bool true)], args := [d1, d2] }
  | _ => none }
def networkConservedRow : OpenClaim := { program := "ytinpinjjdkilpaa", sum := "394735e790698ed61e5d1d6675a668b66e1fa606ba616d6d03db672e39bbac0e", func := "sheave/sheavelaw48.NetworkConserved", spec := "networkConserved", unfollowed := true, recurses := true, plainKeys := false, apart := false }
def NetworkConservedSaid : Prop := networkConservedRow.holds Try.pinned (OpenSpec.ofChange networkConservedSpec)

/-- ITS FALSE NEIGHBOUR: 'it returns false'. Refute it at one input. -/
def networkConservedWrong : ChangeSpec := { name := "networkConserved", fn := fun _ => fun
  | [d1, d2] => { results := [.lit (.bool false)], args := [d1, d2] }
  | _ => none }
def NetworkConservedWrongFalsely : Prop := networkConservedRow.holds Try.pinned (OpenSpec.ofChange networkConservedWrong)

/-- 'sheavelaw48.NetworkIDs': WHATEVER THE INPUT: true; the input reads as it did. -/
def networkIDsSpec : ChangeSpec := { name := "networkIDs", fn := fun _ => fun
  | [d1, d2] => { results := [.lit (.bool true)], args := [d1, d2] }
  | _ => none }
def networkIDsRow : OpenClaim := { program := "ytinpinjjdkilpaa", sum := "394735e790698ed61e5d1d6675a668b66e1fa606ba616d6d03db672e39bbac0e", func := "sheave/sheavelaw48.NetworkIDs", spec := "networkIDs", unfollowed := true, recurses := true, plainKeys := false, apart := false }
def NetworkIDsSaid : Prop := networkIDsRow.holds Try.pinned (OpenSpec.ofChange networkIDsSpec)

/-- ITS FALSE NEIGHBOUR: 'it returns false'. Refute it at one input. -/
def networkIDsWrong : ChangeSpec := { name := "networkIDs", fn := fun _ => fun
  | [d1, d2] => { results := [.lit (.bool false)], args := [d1, d2] }
  | _ => none }
def NetworkIDsWrongFalsely : Prop := networkIDsRow.holds Try.pinned (OpenSpec.ofChange networkIDsWrong)

/-- 'sheavelaw48.NetworkHealed': WHATEVER THE INPUT: true; the input reads as it did. -/
def networkHealedSpec : ChangeSpec := { name := "networkHealed", fn := fun _ => fun
  | [d1, d2, d3] => { results := [.lit (.bool true)], args := [d1, d2, d3] }
  | _ => none }
def networkHealedRow : OpenClaim := { program := "ytinpinjjdkilpaa", sum := "394735e790698ed61e5d1d6675a668b66e1fa606ba616d6d03db672e39bbac0e", func := "sheave/sheavelaw48.NetworkHealed", spec := "networkHealed", unfollowed := true, recurses := true, plainKeys := false, apart := false }
def NetworkHealedSaid : Prop := networkHealedRow.holds Try.pinned (OpenSpec.ofChange networkHealedSpec)

/-- ITS FALSE NEIGHBOUR: 'it returns false'. Refute it at one input. -/
def networkHealedWrong : ChangeSpec := { name := "networkHealed", fn := fun _ => fun
  | [d1, d2, d3] => { results := [.lit (.bool false)], args := [d1, d2, d3] }
  | _ => none }
def NetworkHealedWrongFalsely : Prop := networkHealedRow.holds Try.pinned (OpenSpec.ofChange networkHealedWrong)

/-- 'sheavelaw48.NetworkOwn': WHATEVER THE INPUT: true; the input reads as it did. -/
def networkOwnSpec : ChangeSpec := { name := "networkOwn", fn := fun _ => fun
  | [d1, d2] => { results := [.lit (.bool true)], args := [d1, d2] }
  | _ => none }
def networkOwnRow : OpenClaim := { program := "ytinpinjjdkilpaa", sum := "394735e790698ed61e5d1d6675a668b66e1fa606ba616d6d03db672e39bbac0e", func := "sheave/sheavelaw48.NetworkOwn", spec := "networkOwn", unfollowed := true, recurses := true, plainKeys := false, apart := false }
def NetworkOwnSaid : Prop := networkOwnRow.holds Try.pinned (OpenSpec.ofChange networkOwnSpec)

/-- ITS FALSE NEIGHBOUR: 'it returns false'. Refute it at one input. -/
def networkOwnWrong : ChangeSpec := { name := "networkOwn", fn := fun _ => fun
  | [d1, d2] => { results := [.lit (.bool false)], args := [d1, d2] }
  | _ => none }
def NetworkOwnWrongFalsely : Prop := networkOwnRow.holds Try.pinned (OpenSpec.ofChange networkOwnWrong)

/-- 'sheavelaw48.NetworkErrors': WHATEVER THE INPUT: true; the input reads as it did. -/
def networkErrorsSpec : ChangeSpec := { name := "networkErrors", fn := fun _ => fun
  | [d1, d2, d3] => { results := [.lit (.bool true)], args := [d1, d2, d3] }
  | _ => none }
def networkErrorsRow : OpenClaim := { program := "ytinpinjjdkilpaa", sum := "394735e790698ed61e5d1d6675a668b66e1fa606ba616d6d03db672e39bbac0e", func := "sheave/sheavelaw48.NetworkErrors", spec := "networkErrors", unfollowed := true, recurses := true, plainKeys := false, apart := false }
def NetworkErrorsSaid : Prop := networkErrorsRow.holds Try.pinned (OpenSpec.ofChange networkErrorsSpec)

/-- ITS FALSE NEIGHBOUR: 'it returns false'. Refute it at one input. -/
def networkErrorsWrong : ChangeSpec := { name := "networkErrors", fn := fun _ => fun
  | [d1, d2, d3] => { results := [.lit (.bool false)], args := [d1, d2, d3] }
  | _ => none }
def NetworkErrorsWrongFalsely : Prop := networkErrorsRow.holds Try.pinned (OpenSpec.ofChange networkErrorsWrong)

/- THE SECOND FORM. 'bulk': how many values and letters a reading holds, each counted each time it is reached (what is shared counts as often as it is met; a slice's spare places count too). A statement '..UptoSaid' is the law's where the arguments, and the package variables that the reading takes, are together of bulk at most 1048576: NARROWER than '..Said'. Prove '..Said' where nothing that the law and all that it calls make is longer than what came in: it says more and counts as full. Else prove '..UptoSaid'. A law counts once. -/
mutual
def uptoBulk {H : Type} : DataW H → Nat
  | .lit (.string bytes) => bytes.length + 1
  | .lit _ => 1
  | .nil => 1
  | .ptr d => uptoBulk d + 1
  | .slice elems spare => uptoBulkAll elems + uptoBulkAll spare + 1
  | .agg parts => uptoBulkAll parts + 1
  | .iface _ d => uptoBulk d + 1
  | .map entries => uptoBulkEntries entries + 1
  | .held _ => 1
def uptoBulkAll {H : Type} : List (DataW H) → Nat
  | [] => 0
  | d :: r => uptoBulk d + uptoBulkAll r
def uptoBulkEntries {H : Type} : List (Lit × DataW H) → Nat
  | [] => 0
  | x :: r => uptoBulkEntry x + uptoBulkEntries r
def uptoBulkEntry {H : Type} : Lit × DataW H → Nat
  | (.string bytes, d) => bytes.length + uptoBulk d + 1
  | (_, d) => uptoBulk d + 1
 end
def uptoSmall : (H : Type) → List (DataW H) → Bool := fun _ ds => decide (uptoBulkAll ds ≤ 1048576)
def OpenSpec.upto (s : _root_.Go.ChangeSpec) : _root_.Go.OpenSpec := { _root_.Go.OpenSpec.ofChange s with cond := some uptoSmall }

/-- 'sheavelaw48.NetworkNew', WHERE WHAT IT READS IS OF BULK AT MOST 1048576: true; the input reads as it did. -/
def networkNewUptoRow : OpenClaim := { program := "ytinpinjjdkilpaa", sum := "394735e790698ed61e5d1d6675a668b66e1fa606ba616d6d03db672e39bbac0e", func := "sheave/sheavelaw48.NetworkNew", spec := "networkNew", unfollowed := true, recurses := true, plainKeys := false, apart := false, narrowed := true }
def NetworkNewUptoSaid : Prop := networkNewUptoRow.holds Try.pinned (OpenSpec.upto networkNewSpec)

/-- 'sheavelaw48.NetworkScript', WHERE WHAT IT READS IS OF BULK AT MOST 1048576: true; the input reads as it did. -/
def networkScriptUptoRow : OpenClaim := { program := "ytinpinjjdkilpaa", sum := "394735e790698ed61e5d1d6675a668b66e1fa606ba616d6d03db672e39bbac0e", func := "sheave/sheavelaw48.NetworkScript", spec := "networkScript", unfollowed := true, recurses := true, plainKeys := false, apart := false, narrowed := true }
def NetworkScriptUptoSaid : Prop := networkScriptUptoRow.holds Try.pinned (OpenSpec.upto networkScriptSpec)

/-- 'sheavelaw48.NetworkFull', WHERE WHAT IT READS IS OF BULK AT MOST 1048576: true; the input reads as it did. -/
def networkFullUptoRow : OpenClaim := { program := "ytinpinjjdkilpaa", sum := "394735e790698ed61e5d1d6675a668b66e1fa606ba616d6d03db672e39bbac0e", func := "sheave/sheavelaw48.NetworkFull", spec := "networkFull", unfollowed := true, recurses := true, plainKeys := false, apart := false, narrowed := true }
def NetworkFullUptoSaid : Prop := networkFullUptoRow.holds Try.pinned (OpenSpec.upto networkFullSpec)

/-- 'sheavelaw48.NetworkConserved', WHERE WHAT IT READS IS OF BULK AT MOST 1048576: true; the input reads as it did. -/
def networkConservedUptoRow : OpenClaim := { program := "ytinpinjjdkilpaa", sum := "394735e790698ed61e5d1d6675a668b66e1fa606ba616d6d03db672e39bbac0e", func := "sheave/sheavelaw48.NetworkConserved", spec := "networkConserved", unfollowed := true, recurses := true, plainKeys := false, apart := false, narrowed := true }
def NetworkConservedUptoSaid : Prop := networkConservedUptoRow.holds Try.pinned (OpenSpec.upto networkConservedSpec)

/-- 'sheavelaw48.NetworkIDs', WHERE WHAT IT READS IS OF BULK AT MOST 1048576: true; the input reads as it did. -/
def networkIDsUptoRow : OpenClaim := { program := "ytinpinjjdkilpaa", sum := "394735e790698ed61e5d1d6675a668b66e1fa606ba616d6d03db672e39bbac0e", func := "sheave/sheavelaw48.NetworkIDs", spec := "networkIDs", unfollowed := true, recurses := true, plainKeys := false, apart := false, narrowed := true }
def NetworkIDsUptoSaid : Prop := networkIDsUptoRow.holds Try.pinned (OpenSpec.upto networkIDsSpec)

/-- 'sheavelaw48.NetworkHealed', WHERE WHAT IT READS IS OF BULK AT MOST 1048576: true; the input reads as it did. -/
def networkHealedUptoRow : OpenClaim := { program := "ytinpinjjdkilpaa", sum := "394735e790698ed61e5d1d6675a668b66e1fa606ba616d6d03db672e39bbac0e", func := "sheave/sheavelaw48.NetworkHealed", spec := "networkHealed", unfollowed := true, recurses := true, plainKeys := false, apart := false, narrowed := true }
def NetworkHealedUptoSaid : Prop := networkHealedUptoRow.holds Try.pinned (OpenSpec.upto networkHealedSpec)

/-- 'sheavelaw48.NetworkOwn', WHERE WHAT IT READS IS OF BULK AT MOST 1048576: true; the input reads as it did. -/
def networkOwnUptoRow : OpenClaim := { program := "ytinpinjjdkilpaa", sum := "394735e790698ed61e5d1d6675a668b66e1fa606ba616d6d03db672e39bbac0e", func := "sheave/sheavelaw48.NetworkOwn", spec := "networkOwn", unfollowed := true, recurses := true, plainKeys := false, apart := false, narrowed := true }
def NetworkOwnUptoSaid : Prop := networkOwnUptoRow.holds Try.pinned (OpenSpec.upto networkOwnSpec)

/-- 'sheavelaw48.NetworkErrors', WHERE WHAT IT READS IS OF BULK AT MOST 1048576: true; the input reads as it did. -/
def networkErrorsUptoRow : OpenClaim := { program := "ytinpinjjdkilpaa", sum := "394735e790698ed61e5d1d6675a668b66e1fa606ba616d6d03db672e39bbac0e", func := "sheave/sheavelaw48.NetworkErrors", spec := "networkErrors", unfollowed := true, recurses := true, plainKeys := false, apart := false, narrowed := true }
def NetworkErrorsUptoSaid : Prop := networkErrorsUptoRow.holds Try.pinned (OpenSpec.upto networkErrorsSpec)

end Rows
end Go.Proofs.Ytinpinjjdkilpaa
