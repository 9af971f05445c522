/-
  NARROWER THAN 'FOR EVERY INPUT', by the rows' own cells (each row's printed sentence says how): InhabitErrors: loops · SimulateErrors: loops.
  DERIVED. THE GIVEN ROWS OF THIS SEAT. 4 by the template 'for every input the law returns true; each argument reads behind the call as it read before'; 0 by the template 'total and deterministic' (their statements: YtbhbeakhognieaaGreatTotals.lean).
  GIVEN WITH THE SEED: the statements are not yours to turn. If you find one false, say at which input.
  Laid BY PROGRAM, IN A SANDBOX (cutbox-rows.mjs): the forced cells as the released guide's own fill.sh prints them over the translation 10487bbe4cc8f870… (all of the seat's roots in one cut). By AI agents, Wed Nov 11 2026. No macro, syntax, notation, axiom, sorry.
-/
import Derived.Test.YtbhbeakhognieaaGreatChecked
import GoSem.Claim
import GoSem.ClaimJoined
import GoSem.ClaimMapViews
import Derived.JoinedTies
import Derived.KernelRfl
namespace Go.Proofs.YtbhbeakhognieaaGreat
/- THE CELL 'sum', in the pinned program and in every row, IS THE sha256 OF THE DUMP (.gsa) THAT YtbhbeakhognieaaGreatProg.lean LOADS. Nothing in Lean hashes anything: it is a label: what it is worth is what the hold of that sum in a sandbox is worth. -/
noncomputable def Tryz.pinned : Pinned := { name := "ytbhbeakhognieaagreat", sum := "10487bbe4cc8f870d507f5bde640cb45b1b908f4d65298bad0609b83f513ea32", checked := Tryz.checked }
namespace Rows
def none {H : Type} : Left H := { results := [], args := [] }

/-- 'sheavelaw11.InhabitErrors': WHATEVER THE INPUT: true; the input reads as it did. -/
def inhabitErrorsSpec : ChangeSpec := { name := "inhabitErrors", fn := fun _ => fun
  | [d1, d2] => { results := [.lit (.bool true)], args := [d1, d2] }
  | _ => none }
def inhabitErrorsRow : OpenClaim := { program := "ytbhbeakhognieaagreat", sum := "10487bbe4cc8f870d507f5bde640cb45b1b908f4d65298bad0609b83f513ea32", func := "sheave/sheavelaw11.InhabitErrors", spec := "inhabitErrors", inPlace := ["internal/abi.NoEscape"], unfollowed := true, recurses := true, loops := true, plainKeys := false, apart := false }
def InhabitErrorsSaid : Prop := inhabitErrorsRow.holds Tryz.pinned (OpenSpec.ofChange inhabitErrorsSpec)

/-- ITS FALSE NEIGHBOUR: 'it returns false'. Refute it at one input. -/
def inhabitErrorsWrong : ChangeSpec := { name := "inhabitErrors", fn := fun _ => fun
  | [d1, d2] => { results := [.lit (.bool false)], args := [d1, d2] }
  | _ => none }
def InhabitErrorsWrongFalsely : Prop := inhabitErrorsRow.holds Tryz.pinned (OpenSpec.ofChange inhabitErrorsWrong)

/-- 'sheavelaw11.InhabitLeast': WHATEVER THE INPUT: true; the input reads as it did. -/
def inhabitLeastSpec : ChangeSpec := { name := "inhabitLeast", fn := fun _ => fun
  | [d1, d2] => { results := [.lit (.bool true)], args := [d1, d2] }
  | _ => none }
def inhabitLeastRow : OpenClaim := { program := "ytbhbeakhognieaagreat", sum := "10487bbe4cc8f870d507f5bde640cb45b1b908f4d65298bad0609b83f513ea32", func := "sheave/sheavelaw11.InhabitLeast", spec := "inhabitLeast", inPlace := ["internal/abi.NoEscape"], unfollowed := true, recurses := true, plainKeys := false, apart := false }
def InhabitLeastSaid : Prop := inhabitLeastRow.holds Tryz.pinned (OpenSpec.ofChange inhabitLeastSpec)

/-- ITS FALSE NEIGHBOUR: 'it returns false'. Refute it at one input. -/
def inhabitLeastWrong : ChangeSpec := { name := "inhabitLeast", fn := fun _ => fun
  | [d1, d2] => { results := [.lit (.bool false)], args := [d1, d2] }
  | _ => none }
def InhabitLeastWrongFalsely : Prop := inhabitLeastRow.holds Tryz.pinned (OpenSpec.ofChange inhabitLeastWrong)

/-- 'sheavelaw20.SimulateReads': WHATEVER THE INPUT: true; the input reads as it did. -/
def simulateReadsSpec : ChangeSpec := { name := "simulateReads", fn := fun _ => fun
  | [d1, d2] => { results := [.lit (.bool true)], args := [d1, d2] }
  | _ => none }
def simulateReadsRow : OpenClaim := { program := "ytbhbeakhognieaagreat", sum := "10487bbe4cc8f870d507f5bde640cb45b1b908f4d65298bad0609b83f513ea32", func := "sheave/sheavelaw20.SimulateReads", spec := "simulateReads", inPlace := ["internal/abi.NoEscape"], unfollowed := true, recurses := true, plainKeys := false, apart := false }
def SimulateReadsSaid : Prop := simulateReadsRow.holds Tryz.pinned (OpenSpec.ofChange simulateReadsSpec)

/-- ITS FALSE NEIGHBOUR: 'it returns false'. Refute it at one input. -/
def simulateReadsWrong : ChangeSpec := { name := "simulateReads", fn := fun _ => fun
  | [d1, d2] => { results := [.lit (.bool false)], args := [d1, d2] }
  | _ => none }
def SimulateReadsWrongFalsely : Prop := simulateReadsRow.holds Tryz.pinned (OpenSpec.ofChange simulateReadsWrong)

/-- 'sheavelaw20.SimulateErrors': WHATEVER THE INPUT: true; the input reads as it did. -/
def simulateErrorsSpec : ChangeSpec := { name := "simulateErrors", fn := fun _ => fun
  | [d1, d2] => { results := [.lit (.bool true)], args := [d1, d2] }
  | _ => none }
def simulateErrorsRow : OpenClaim := { program := "ytbhbeakhognieaagreat", sum := "10487bbe4cc8f870d507f5bde640cb45b1b908f4d65298bad0609b83f513ea32", func := "sheave/sheavelaw20.SimulateErrors", spec := "simulateErrors", inPlace := ["internal/abi.NoEscape"], unfollowed := true, recurses := true, loops := true, plainKeys := false, apart := false }
def SimulateErrorsSaid : Prop := simulateErrorsRow.holds Tryz.pinned (OpenSpec.ofChange simulateErrorsSpec)

/-- ITS FALSE NEIGHBOUR: 'it returns false'. Refute it at one input. -/
def simulateErrorsWrong : ChangeSpec := { name := "simulateErrors", fn := fun _ => fun
  | [d1, d2] => { results := [.lit (.bool false)], args := [d1, d2] }
  | _ => none }
def SimulateErrorsWrongFalsely : Prop := simulateErrorsRow.holds Tryz.pinned (OpenSpec.ofChange simulateErrorsWrong)

/- THE SECOND FORM. 'bulk': how many values and letters a reading holds, each counted each time it is reached (what is shared counts as often as it is met; a slice's spare places count too). A statement '..UptoSaid' is the law's where the arguments, and the package variables that the reading takes, are together of bulk at most 1048576: NARROWER than '..Said'. Prove '..Said' where nothing that the law and all that it calls make is longer than what came in: it says more and counts as full. Else prove '..UptoSaid'. A law counts once. -/
mutual
def uptoBulk {H : Type} : DataW H → Nat
  | .lit (.string bytes) => bytes.length + 1
  | .lit _ => 1
  | .nil => 1
  | .ptr d => uptoBulk d + 1
  | .slice elems spare => uptoBulkAll elems + uptoBulkAll spare + 1
  | .agg parts => uptoBulkAll parts + 1
  | .iface _ d => uptoBulk d + 1
  | .map entries => uptoBulkEntries entries + 1
  | .held _ => 1
def uptoBulkAll {H : Type} : List (DataW H) → Nat
  | [] => 0
  | d :: r => uptoBulk d + uptoBulkAll r
def uptoBulkEntries {H : Type} : List (Lit × DataW H) → Nat
  | [] => 0
  | x :: r => uptoBulkEntry x + uptoBulkEntries r
def uptoBulkEntry {H : Type} : Lit × DataW H → Nat
  | (.string bytes, d) => bytes.length + uptoBulk d + 1
  | (_, d) => uptoBulk d + 1
 end
def uptoSmall : (H : Type) → List (DataW H) → Bool := fun _ ds => decide (uptoBulkAll ds ≤ 1048576)
def OpenSpec.upto (s : _root_.Go.ChangeSpec) : _root_.Go.OpenSpec := { _root_.Go.OpenSpec.ofChange s with cond := some uptoSmall }

/-- 'sheavelaw11.InhabitErrors', WHERE WHAT IT READS IS OF BULK AT MOST 1048576: true; the input reads as it did. -/
def inhabitErrorsUptoRow : OpenClaim := { program := "ytbhbeakhognieaagreat", sum := "10487bbe4cc8f870d507f5bde640cb45b1b908f4d65298bad0609b83f513ea32", func := "sheave/sheavelaw11.InhabitErrors", spec := "inhabitErrors", inPlace := ["internal/abi.NoEscape"], unfollowed := true, recurses := true, loops := true, plainKeys := false, apart := false, narrowed := true }
def InhabitErrorsUptoSaid : Prop := inhabitErrorsUptoRow.holds Tryz.pinned (OpenSpec.upto inhabitErrorsSpec)

/-- 'sheavelaw11.InhabitLeast', WHERE WHAT IT READS IS OF BULK AT MOST 1048576: true; the input reads as it did. -/
def inhabitLeastUptoRow : OpenClaim := { program := "ytbhbeakhognieaagreat", sum := "10487bbe4cc8f870d507f5bde640cb45b1b908f4d65298bad0609b83f513ea32", func := "sheave/sheavelaw11.InhabitLeast", spec := "inhabitLeast", inPlace := ["internal/abi.NoEscape"], unfollowed := true, recurses := true, plainKeys := false, apart := false, narrowed := true }
def InhabitLeastUptoSaid : Prop := inhabitLeastUptoRow.holds Tryz.pinned (OpenSpec.upto inhabitLeastSpec)

/-- 'sheavelaw20.SimulateReads', WHERE WHAT IT READS IS OF BULK AT MOST 1048576: true; the input reads as it did. -/
def simulateReadsUptoRow : OpenClaim := { program := "ytbhbeakhognieaagreat", sum := "10487bbe4cc8f870d507f5bde640cb45b1b908f4d65298bad0609b83f513ea32", func := "sheave/sheavelaw20.SimulateReads", spec := "simulateReads", inPlace := ["internal/abi.NoEscape"], unfollowed := true, recurses := true, plainKeys := false, apart := false, narrowed := true }
def SimulateReadsUptoSaid : Prop := simulateReadsUptoRow.holds Tryz.pinned (OpenSpec.upto simulateReadsSpec)

/-- 'sheavelaw20.SimulateErrors', WHERE WHAT IT READS IS OF BULK AT MOST 1048576: true; the input reads as it did. -/
def simulateErrorsUptoRow : OpenClaim := { program := "ytbhbeakhognieaagreat", sum := "10487bbe4cc8f870d507f5bde640cb45b1b908f4d65298bad0609b83f513ea32", func := "sheave/sheavelaw20.SimulateErrors", spec := "simulateErrors", inPlace := ["internal/abi.NoEscape"], unfollowed := true, recurses := true, loops := true, plainKeys := false, apart := false, narrowed := true }
def SimulateErrorsUptoSaid : Prop := simulateErrorsUptoRow.holds Tryz.pinned (OpenSpec.upto simulateErrorsSpec)

end Rows
end Go.Proofs.YtbhbeakhognieaaGreat
