/-
  NARROWER THAN 'FOR EVERY INPUT', by the rows' own cells (each row's printed sentence says how): SampleErrors: loops.
  DERIVED. THE GIVEN ROWS OF THIS SEAT. 2 by the template 'for every input the law returns true; each argument reads behind the call as it read before'; 0 by the template 'total and deterministic' (their statements: YthnefkpplcmjdaaGreatTotals.lean).
  GIVEN WITH THE SEED: the statements are not yours to turn. If you find one false, say at which input.
  Laid BY PROGRAM, IN A SANDBOX (cutbox-rows.mjs): the forced cells as the released guide's own fill.sh prints them over the translation a74b21a5bc6ce9b0… (all of the seat's roots in one cut). By AI agents, Wed Nov 11 2026. No macro, syntax, notation, axiom, sorry.
-/
import Derived.Test.YthnefkpplcmjdaaGreatChecked
import GoSem.Claim
import GoSem.ClaimJoined
import GoSem.ClaimMapViews
import Derived.JoinedTies
import Derived.KernelRfl
namespace Go.Proofs.YthnefkpplcmjdaaGreat
/- THE CELL 'sum', in the pinned program and in every row, IS THE sha256 OF THE DUMP (.gsa) THAT YthnefkpplcmjdaaGreatProg.lean LOADS. Nothing in Lean hashes anything: it is a label: what it is worth is what the hold of that sum in a sandbox is worth. -/
noncomputable def Tryz.pinned : Pinned := { name := "ythnefkpplcmjdaagreat", sum := "a74b21a5bc6ce9b0fbebdbbc05c718e20157b06517c513df7aff84412edaa1c2", checked := Tryz.checked }
namespace Rows
def none {H : Type} : Left H := { results := [], args := [] }

/-- 'sheavelaw15.SampleGreat': WHATEVER THE INPUT: true; the input reads as it did. -/
def sampleGreatSpec : ChangeSpec := { name := "sampleGreat", fn := fun _ => fun
  | [d1, d2, d3] => { results := [.lit (.bool true)], args := [d1, d2, d3] }
  | _ => none }
def sampleGreatRow : OpenClaim := { program := "ythnefkpplcmjdaagreat", sum := "a74b21a5bc6ce9b0fbebdbbc05c718e20157b06517c513df7aff84412edaa1c2", func := "sheave/sheavelaw15.SampleGreat", spec := "sampleGreat", inPlace := ["internal/abi.NoEscape", "slices.overlaps[sheave/api.Value]"], unfollowed := true, recurses := true, named := ["math/bits.divideError", "math/bits.overflowError"], plainKeys := false, apart := false }
def SampleGreatSaid : Prop := sampleGreatRow.holds Tryz.pinned (OpenSpec.ofChange sampleGreatSpec)

/-- ITS FALSE NEIGHBOUR: 'it returns false'. Refute it at one input. -/
def sampleGreatWrong : ChangeSpec := { name := "sampleGreat", fn := fun _ => fun
  | [d1, d2, d3] => { results := [.lit (.bool false)], args := [d1, d2, d3] }
  | _ => none }
def SampleGreatWrongFalsely : Prop := sampleGreatRow.holds Tryz.pinned (OpenSpec.ofChange sampleGreatWrong)

/-- 'sheavelaw15.SampleErrors': WHATEVER THE INPUT: true; the input reads as it did. -/
def sampleErrorsSpec : ChangeSpec := { name := "sampleErrors", fn := fun _ => fun
  | [d1, d2, d3] => { results := [.lit (.bool true)], args := [d1, d2, d3] }
  | _ => none }
def sampleErrorsRow : OpenClaim := { program := "ythnefkpplcmjdaagreat", sum := "a74b21a5bc6ce9b0fbebdbbc05c718e20157b06517c513df7aff84412edaa1c2", func := "sheave/sheavelaw15.SampleErrors", spec := "sampleErrors", inPlace := ["internal/abi.NoEscape", "slices.overlaps[sheave/api.Value]"], unfollowed := true, recurses := true, named := ["math/bits.divideError", "math/bits.overflowError"], loops := true, plainKeys := false, apart := false }
def SampleErrorsSaid : Prop := sampleErrorsRow.holds Tryz.pinned (OpenSpec.ofChange sampleErrorsSpec)

/-- ITS FALSE NEIGHBOUR: 'it returns false'. Refute it at one input. -/
def sampleErrorsWrong : ChangeSpec := { name := "sampleErrors", fn := fun _ => fun
  | [d1, d2, d3] => { results := [.lit (.bool false)], args := [d1, d2, d3] }
  | _ => none }
def SampleErrorsWrongFalsely : Prop := sampleErrorsRow.holds Tryz.pinned (OpenSpec.ofChange sampleErrorsWrong)

/- THE SECOND FORM. 'bulk': how many values and letters a reading holds, each counted each time it is reached (what is shared counts as often as it is met; a slice's spare places count too). A statement '..UptoSaid' is the law's where the arguments, and the package variables that the reading takes, are together of bulk at most 1048576: NARROWER than '..Said'. Prove '..Said' where nothing that the law and all that it calls make is longer than what came in: it says more and counts as full. Else prove '..UptoSaid'. A law counts once. -/
mutual
def uptoBulk {H : Type} : DataW H → Nat
  | .lit (.string bytes) => bytes.length + 1
  | .lit _ => 1
  | .nil => 1
  | .ptr d => uptoBulk d + 1
  | .slice elems spare => uptoBulkAll elems + uptoBulkAll spare + 1
  | .agg parts => uptoBulkAll parts + 1
  | .iface _ d => uptoBulk d + 1
  | .map entries => uptoBulkEntries entries + 1
  | .held _ => 1
def uptoBulkAll {H : Type} : List (DataW H) → Nat
  | [] => 0
  | d :: r => uptoBulk d + uptoBulkAll r
def uptoBulkEntries {H : Type} : List (Lit × DataW H) → Nat
  | [] => 0
  | x :: r => uptoBulkEntry x + uptoBulkEntries r
def uptoBulkEntry {H : Type} : Lit × DataW H → Nat
  | (.string bytes, d) => bytes.length + uptoBulk d + 1
  | (_, d) => uptoBulk d + 1
 end
def uptoSmall : (H : Type) → List (DataW H) → Bool := fun _ ds => decide (uptoBulkAll ds ≤ 1048576)
def OpenSpec.upto (s : _root_.Go.ChangeSpec) : _root_.Go.OpenSpec := { _root_.Go.OpenSpec.ofChange s with cond := some uptoSmall }

/-- 'sheavelaw15.SampleGreat', WHERE WHAT IT READS IS OF BULK AT MOST 1048576: true; the input reads as it did. -/
def sampleGreatUptoRow : OpenClaim := { program := "ythnefkpplcmjdaagreat", sum := "a74b21a5bc6ce9b0fbebdbbc05c718e20157b06517c513df7aff84412edaa1c2", func := "sheave/sheavelaw15.SampleGreat", spec := "sampleGreat", inPlace := ["internal/abi.NoEscape", "slices.overlaps[sheave/api.Value]"], unfollowed := true, recurses := true, named := ["math/bits.divideError", "math/bits.overflowError"], plainKeys := false, apart := false, narrowed := true }
def SampleGreatUptoSaid : Prop := sampleGreatUptoRow.holds Tryz.pinned (OpenSpec.upto sampleGreatSpec)

/-- 'sheavelaw15.SampleErrors', WHERE WHAT IT READS IS OF BULK AT MOST 1048576: true; the input reads as it did. -/
def sampleErrorsUptoRow : OpenClaim := { program := "ythnefkpplcmjdaagreat", sum := "a74b21a5bc6ce9b0fbebdbbc05c718e20157b06517c513df7aff84412edaa1c2", func := "sheave/sheavelaw15.SampleErrors", spec := "sampleErrors", inPlace := ["internal/abi.NoEscape", "slices.overlaps[sheave/api.Value]"], unfollowed := true, recurses := true, named := ["math/bits.divideError", "math/bits.overflowError"], loops := true, plainKeys := false, apart := false, narrowed := true }
def SampleErrorsUptoSaid : Prop := sampleErrorsUptoRow.holds Tryz.pinned (OpenSpec.upto sampleErrorsSpec)

end Rows
end Go.Proofs.YthnefkpplcmjdaaGreat
