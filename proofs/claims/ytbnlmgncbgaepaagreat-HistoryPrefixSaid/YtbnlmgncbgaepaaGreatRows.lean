/-
  NARROWER THAN 'FOR EVERY INPUT', by the rows' own cells (each row's printed sentence says how): SimulateErrors: loops · HistoryErrors: loops.
  DERIVED. THE GIVEN ROWS OF THIS SEAT. 15 by the template 'for every input the law returns true; each argument reads behind the call as it read before'; 0 by the template 'total and deterministic' (their statements: YtbnlmgncbgaepaaGreatTotals.lean).
  GIVEN WITH THE SEED: the statements are not yours to turn. If you find one false, say at which input.
  Laid BY PROGRAM, IN A SANDBOX (cutbox-rows.mjs): the forced cells as the released guide's own fill.sh prints them over the translation 0ab3afb333f4d509… (all of the seat's roots in one cut). By AI agents, Wed Nov 11 2026. No macro, syntax, notation, axiom, sorry.
-/
import Derived.Test.YtbnlmgncbgaepaaGreatChecked
import GoSem.Claim
import GoSem.ClaimJoined
import GoSem.ClaimMapViews
import Derived.JoinedTies
import Derived.KernelRfl
namespace Go.Proofs.YtbnlmgncbgaepaaGreat
/- THE CELL 'sum', in the pinned program and in every row, IS THE sha256 OF THE DUMP (.gsa) THAT YtbnlmgncbgaepaaGreatProg.lean LOADS. Nothing in Lean hashes anything: it is a label: what it is worth is what the hold of that sum in a sandbox is worth. -/
noncomputable def Tryz.pinned : Pinned := { name := "ytbnlmgncbgaepaagreat", sum := "0ab3afb333f4d509233115cdad0c5698d93854209abb9080dd5ceef7a71db702", checked := Tryz.checked }
namespace Rows
def none {H : Type} : Left H := { results := [], args := [] }

/-- 'sheavelaw20.SimulateReads': WHATEVER THE INPUT: true; the input reads as it did. -/
def simulateReadsSpec : ChangeSpec := { name := "simulateReads", fn := fun _ => fun
  | [d1, d2] => { results := [.lit (.bool true)], args := [d1, d2] }
  | _ => none }
def simulateReadsRow : OpenClaim := { program := "ytbnlmgncbgaepaagreat", sum := "0ab3afb333f4d509233115cdad0c5698d93854209abb9080dd5ceef7a71db702", func := "sheave/sheavelaw20.SimulateReads", spec := "simulateReads", inPlace := ["internal/abi.NoEscape"], unfollowed := true, recurses := true, plainKeys := false, apart := false }
def SimulateReadsSaid : Prop := simulateReadsRow.holds Tryz.pinned (OpenSpec.ofChange simulateReadsSpec)

/-- ITS FALSE NEIGHBOUR: 'it returns false'. Refute it at one input. -/
def simulateReadsWrong : ChangeSpec := { name := "simulateReads", fn := fun _ => fun
  | [d1, d2] => { results := [.lit (.bool false)], args := [d1, d2] }
  | _ => none }
def SimulateReadsWrongFalsely : Prop := simulateReadsRow.holds Tryz.pinned (OpenSpec.ofChange simulateReadsWrong)

/-- 'sheavelaw20.SimulateLocal': WHATEVER THE INPUT: true; the input reads as it did. -/
def simulateLocalSpec : ChangeSpec := { name := "simulateLocal", fn := fun _ => fun
  | [d1, d2, d3] => { results := [.lit (.bool true)], args := [d1, d2, d3] }
  | _ => none }
def simulateLocalRow : OpenClaim := { program := "ytbnlmgncbgaepaagreat", sum := "0ab3afb333f4d509233115cdad0c5698d93854209abb9080dd5ceef7a71db702", func := "sheave/sheavelaw20.SimulateLocal", spec := "simulateLocal", inPlace := ["internal/abi.NoEscape"], unfollowed := true, recurses := true, plainKeys := false, apart := false }
def SimulateLocalSaid : Prop := simulateLocalRow.holds Tryz.pinned (OpenSpec.ofChange simulateLocalSpec)

/-- ITS FALSE NEIGHBOUR: 'it returns false'. Refute it at one input. -/
def simulateLocalWrong : ChangeSpec := { name := "simulateLocal", fn := fun _ => fun
  | [d1, d2, d3] => { results := [.lit (.bool false)], args := [d1, d2, d3] }
  | _ => none }
def SimulateLocalWrongFalsely : Prop := simulateLocalRow.holds Tryz.pinned (OpenSpec.ofChange simulateLocalWrong)

/-- 'sheavelaw20.SimulateCompatible': WHATEVER THE INPUT: true; the input reads as it did. -/
def simulateCompatibleSpec : ChangeSpec := { name := "simulateCompatible", fn := fun _ => fun
  | [d] => { results := [.lit (.bool true)], args := [d] }
  | _ => none }
def simulateCompatibleRow : OpenClaim := { program := "ytbnlmgncbgaepaagreat", sum := "0ab3afb333f4d509233115cdad0c5698d93854209abb9080dd5ceef7a71db702", func := "sheave/sheavelaw20.SimulateCompatible", spec := "simulateCompatible", inPlace := ["internal/abi.NoEscape"], unfollowed := true, recurses := true, plainKeys := false, apart := false }
def SimulateCompatibleSaid : Prop := simulateCompatibleRow.holds Tryz.pinned (OpenSpec.ofChange simulateCompatibleSpec)

/-- ITS FALSE NEIGHBOUR: 'it returns false'. Refute it at one input. -/
def simulateCompatibleWrong : ChangeSpec := { name := "simulateCompatible", fn := fun _ => fun
  | [d] => { results := [.lit (.bool false)], args := [d] }
  | _ => none }
def SimulateCompatibleWrongFalsely : Prop := simulateCompatibleRow.holds Tryz.pinned (OpenSpec.ofChange simulateCompatibleWrong)

/-- 'sheavelaw20.SimulateSelf': WHATEVER THE INPUT: true; the input reads as it did. -/
def simulateSelfSpec : ChangeSpec := { name := "simulateSelf", fn := fun _ => fun
  | [d1, d2] => { results := [.lit (.bool true)], args := [d1, d2] }
  | _ => none }
def simulateSelfRow : OpenClaim := { program := "ytbnlmgncbgaepaagreat", sum := "0ab3afb333f4d509233115cdad0c5698d93854209abb9080dd5ceef7a71db702", func := "sheave/sheavelaw20.SimulateSelf", spec := "simulateSelf", inPlace := ["internal/abi.NoEscape"], unfollowed := true, recurses := true, plainKeys := false, apart := false }
def SimulateSelfSaid : Prop := simulateSelfRow.holds Tryz.pinned (OpenSpec.ofChange simulateSelfSpec)

/-- ITS FALSE NEIGHBOUR: 'it returns false'. Refute it at one input. -/
def simulateSelfWrong : ChangeSpec := { name := "simulateSelf", fn := fun _ => fun
  | [d1, d2] => { results := [.lit (.bool false)], args := [d1, d2] }
  | _ => none }
def SimulateSelfWrongFalsely : Prop := simulateSelfRow.holds Tryz.pinned (OpenSpec.ofChange simulateSelfWrong)

/-- 'sheavelaw20.SimulateGreatest': WHATEVER THE INPUT: true; the input reads as it did. -/
def simulateGreatestSpec : ChangeSpec := { name := "simulateGreatest", fn := fun _ => fun
  | [d] => { results := [.lit (.bool true)], args := [d] }
  | _ => none }
def simulateGreatestRow : OpenClaim := { program := "ytbnlmgncbgaepaagreat", sum := "0ab3afb333f4d509233115cdad0c5698d93854209abb9080dd5ceef7a71db702", func := "sheave/sheavelaw20.SimulateGreatest", spec := "simulateGreatest", inPlace := ["internal/abi.NoEscape"], unfollowed := true, recurses := true, plainKeys := false, apart := false }
def SimulateGreatestSaid : Prop := simulateGreatestRow.holds Tryz.pinned (OpenSpec.ofChange simulateGreatestSpec)

/-- ITS FALSE NEIGHBOUR: 'it returns false'. Refute it at one input. -/
def simulateGreatestWrong : ChangeSpec := { name := "simulateGreatest", fn := fun _ => fun
  | [d] => { results := [.lit (.bool false)], args := [d] }
  | _ => none }
def SimulateGreatestWrongFalsely : Prop := simulateGreatestRow.holds Tryz.pinned (OpenSpec.ofChange simulateGreatestWrong)

/-- 'sheavelaw20.SimulateBlamed': WHATEVER THE INPUT: true; the input reads as it did. -/
def simulateBlamedSpec : ChangeSpec := { name := "simulateBlamed", fn := fun _ => fun
  | [d] => { results := [.lit (.bool true)], args := [d] }
  | _ => none }
def simulateBlamedRow : OpenClaim := { program := "ytbnlmgncbgaepaagreat", sum := "0ab3afb333f4d509233115cdad0c5698d93854209abb9080dd5ceef7a71db702", func := "sheave/sheavelaw20.SimulateBlamed", spec := "simulateBlamed", inPlace := ["internal/abi.NoEscape"], unfollowed := true, recurses := true, plainKeys := false, apart := false }
def SimulateBlamedSaid : Prop := simulateBlamedRow.holds Tryz.pinned (OpenSpec.ofChange simulateBlamedSpec)

/-- ITS FALSE NEIGHBOUR: 'it returns false'. Refute it at one input. -/
def simulateBlamedWrong : ChangeSpec := { name := "simulateBlamed", fn := fun _ => fun
  | [d] => { results := [.lit (.bool false)], args := [d] }
  | _ => none }
def SimulateBlamedWrongFalsely : Prop := simulateBlamedRow.holds Tryz.pinned (OpenSpec.ofChange simulateBlamedWrong)

/-- 'sheavelaw20.SimulateClosed': WHATEVER THE INPUT: true; the input reads as it did. -/
def simulateClosedSpec : ChangeSpec := { name := "simulateClosed", fn := fun _ => fun
  | [d] => { results := [.lit (.bool true)], args := [d] }
  | _ => none }
def simulateClosedRow : OpenClaim := { program := "ytbnlmgncbgaepaagreat", sum := "0ab3afb333f4d509233115cdad0c5698d93854209abb9080dd5ceef7a71db702", func := "sheave/sheavelaw20.SimulateClosed", spec := "simulateClosed", inPlace := ["internal/abi.NoEscape"], unfollowed := true, recurses := true, plainKeys := false, apart := false }
def SimulateClosedSaid : Prop := simulateClosedRow.holds Tryz.pinned (OpenSpec.ofChange simulateClosedSpec)

/-- ITS FALSE NEIGHBOUR: 'it returns false'. Refute it at one input. -/
def simulateClosedWrong : ChangeSpec := { name := "simulateClosed", fn := fun _ => fun
  | [d] => { results := [.lit (.bool false)], args := [d] }
  | _ => none }
def SimulateClosedWrongFalsely : Prop := simulateClosedRow.holds Tryz.pinned (OpenSpec.ofChange simulateClosedWrong)

/-- 'sheavelaw20.SimulateErrors': WHATEVER THE INPUT: true; the input reads as it did. -/
def simulateErrorsSpec : ChangeSpec := { name := "simulateErrors", fn := fun _ => fun
  | [d1, d2] => { results := [.lit (.bool true)], args := [d1, d2] }
  | _ => none }
def simulateErrorsRow : OpenClaim := { program := "ytbnlmgncbgaepaagreat", sum := "0ab3afb333f4d509233115cdad0c5698d93854209abb9080dd5ceef7a71db702", func := "sheave/sheavelaw20.SimulateErrors", spec := "simulateErrors", inPlace := ["internal/abi.NoEscape"], unfollowed := true, recurses := true, loops := true, plainKeys := false, apart := false }
def SimulateErrorsSaid : Prop := simulateErrorsRow.holds Tryz.pinned (OpenSpec.ofChange simulateErrorsSpec)

/-- ITS FALSE NEIGHBOUR: 'it returns false'. Refute it at one input. -/
def simulateErrorsWrong : ChangeSpec := { name := "simulateErrors", fn := fun _ => fun
  | [d1, d2] => { results := [.lit (.bool false)], args := [d1, d2] }
  | _ => none }
def SimulateErrorsWrongFalsely : Prop := simulateErrorsRow.holds Tryz.pinned (OpenSpec.ofChange simulateErrorsWrong)

/-- 'sheavelaw24.HistoryMatrix': WHATEVER THE INPUT: true; the input reads as it did. -/
def historyMatrixSpec : ChangeSpec := { name := "historyMatrix", fn := fun _ => fun
  | [d] => { results := [.lit (.bool true)], args := [d] }
  | _ => none }
def historyMatrixRow : OpenClaim := { program := "ytbnlmgncbgaepaagreat", sum := "0ab3afb333f4d509233115cdad0c5698d93854209abb9080dd5ceef7a71db702", func := "sheave/sheavelaw24.HistoryMatrix", spec := "historyMatrix", inPlace := ["internal/abi.NoEscape"], unfollowed := true, recurses := true, plainKeys := false, apart := false }
def HistoryMatrixSaid : Prop := historyMatrixRow.holds Tryz.pinned (OpenSpec.ofChange historyMatrixSpec)

/-- ITS FALSE NEIGHBOUR: 'it returns false'. Refute it at one input. -/
def historyMatrixWrong : ChangeSpec := { name := "historyMatrix", fn := fun _ => fun
  | [d] => { results := [.lit (.bool false)], args := [d] }
  | _ => none }
def HistoryMatrixWrongFalsely : Prop := historyMatrixRow.holds Tryz.pinned (OpenSpec.ofChange historyMatrixWrong)

/-- 'sheavelaw24.HistoryReused': WHATEVER THE INPUT: true; the input reads as it did. -/
def historyReusedSpec : ChangeSpec := { name := "historyReused", fn := fun _ => fun
  | [d] => { results := [.lit (.bool true)], args := [d] }
  | _ => none }
def historyReusedRow : OpenClaim := { program := "ytbnlmgncbgaepaagreat", sum := "0ab3afb333f4d509233115cdad0c5698d93854209abb9080dd5ceef7a71db702", func := "sheave/sheavelaw24.HistoryReused", spec := "historyReused", inPlace := ["internal/abi.NoEscape"], unfollowed := true, recurses := true, plainKeys := false, apart := false }
def HistoryReusedSaid : Prop := historyReusedRow.holds Tryz.pinned (OpenSpec.ofChange historyReusedSpec)

/-- ITS FALSE NEIGHBOUR: 'it returns false'. Refute it at one input. -/
def historyReusedWrong : ChangeSpec := { name := "historyReused", fn := fun _ => fun
  | [d] => { results := [.lit (.bool false)], args := [d] }
  | _ => none }
def HistoryReusedWrongFalsely : Prop := historyReusedRow.holds Tryz.pinned (OpenSpec.ofChange historyReusedWrong)

/-- 'sheavelaw24.HistoryWays': WHATEVER THE INPUT: true; the input reads as it did. -/
def historyWaysSpec : ChangeSpec := { name := "historyWays", fn := fun _ => fun
  | [d] => { results := [.lit (.bool true)], args := [d] }
  | _ => none }
def historyWaysRow : OpenClaim := { program := "ytbnlmgncbgaepaagreat", sum := "0ab3afb333f4d509233115cdad0c5698d93854209abb9080dd5ceef7a71db702", func := "sheave/sheavelaw24.HistoryWays", spec := "historyWays", inPlace := ["internal/abi.NoEscape"], unfollowed := true, recurses := true, plainKeys := false, apart := false }
def HistoryWaysSaid : Prop := historyWaysRow.holds Tryz.pinned (OpenSpec.ofChange historyWaysSpec)

/-- ITS FALSE NEIGHBOUR: 'it returns false'. Refute it at one input. -/
def historyWaysWrong : ChangeSpec := { name := "historyWays", fn := fun _ => fun
  | [d] => { results := [.lit (.bool false)], args := [d] }
  | _ => none }
def HistoryWaysWrongFalsely : Prop := historyWaysRow.holds Tryz.pinned (OpenSpec.ofChange historyWaysWrong)

/-- 'sheavelaw24.HistoryErrors': WHATEVER THE INPUT: true; the input reads as it did. -/
def historyErrorsSpec : ChangeSpec := { name := "historyErrors", fn := fun _ => fun
  | [d] => { results := [.lit (.bool true)], args := [d] }
  | _ => none }
def historyErrorsRow : OpenClaim := { program := "ytbnlmgncbgaepaagreat", sum := "0ab3afb333f4d509233115cdad0c5698d93854209abb9080dd5ceef7a71db702", func := "sheave/sheavelaw24.HistoryErrors", spec := "historyErrors", inPlace := ["internal/abi.NoEscape"], unfollowed := true, recurses := true, loops := true, plainKeys := false, apart := false }
def HistoryErrorsSaid : Prop := historyErrorsRow.holds Tryz.pinned (OpenSpec.ofChange historyErrorsSpec)

/-- ITS FALSE NEIGHBOUR: 'it returns false'. Refute it at one input. -/
def historyErrorsWrong : ChangeSpec := { name := "historyErrors", fn := fun _ => fun
  | [d] => { results := [.lit (.bool false)], args := [d] }
  | _ => none }
def HistoryErrorsWrongFalsely : Prop := historyErrorsRow.holds Tryz.pinned (OpenSpec.ofChange historyErrorsWrong)

/-- 'sheavelaw24.HistorySets': WHATEVER THE INPUT: true; the input reads as it did. -/
def historySetsSpec : ChangeSpec := { name := "historySets", fn := fun _ => fun
  | [d1, d2] => { results := [.lit (.bool true)], args := [d1, d2] }
  | _ => none }
def historySetsRow : OpenClaim := { program := "ytbnlmgncbgaepaagreat", sum := "0ab3afb333f4d509233115cdad0c5698d93854209abb9080dd5ceef7a71db702", func := "sheave/sheavelaw24.HistorySets", spec := "historySets", inPlace := ["internal/abi.NoEscape"], unfollowed := true, recurses := true, plainKeys := false, apart := false }
def HistorySetsSaid : Prop := historySetsRow.holds Tryz.pinned (OpenSpec.ofChange historySetsSpec)

/-- ITS FALSE NEIGHBOUR: 'it returns false'. Refute it at one input. -/
def historySetsWrong : ChangeSpec := { name := "historySets", fn := fun _ => fun
  | [d1, d2] => { results := [.lit (.bool false)], args := [d1, d2] }
  | _ => none }
def HistorySetsWrongFalsely : Prop := historySetsRow.holds Tryz.pinned (OpenSpec.ofChange historySetsWrong)

/-- 'sheavelaw24.HistoryGalois': WHATEVER THE INPUT: true; the input reads as it did. -/
def historyGaloisSpec : ChangeSpec := { name := "historyGalois", fn := fun _ => fun
  | [d1, d2, d3] => { results := [.lit (.bool true)], args := [d1, d2, d3] }
  | _ => none }
def historyGaloisRow : OpenClaim := { program := "ytbnlmgncbgaepaagreat", sum := "0ab3afb333f4d509233115cdad0c5698d93854209abb9080dd5ceef7a71db702", func := "sheave/sheavelaw24.HistoryGalois", spec := "historyGalois", inPlace := ["internal/abi.NoEscape"], unfollowed := true, recurses := true, plainKeys := false, apart := false }
def HistoryGaloisSaid : Prop := historyGaloisRow.holds Tryz.pinned (OpenSpec.ofChange historyGaloisSpec)

/-- ITS FALSE NEIGHBOUR: 'it returns false'. Refute it at one input. -/
def historyGaloisWrong : ChangeSpec := { name := "historyGalois", fn := fun _ => fun
  | [d1, d2, d3] => { results := [.lit (.bool false)], args := [d1, d2, d3] }
  | _ => none }
def HistoryGaloisWrongFalsely : Prop := historyGaloisRow.holds Tryz.pinned (OpenSpec.ofChange historyGaloisWrong)

/-- 'sheavelaw24.HistoryPrefix': WHATEVER THE INPUT: true; the input reads as it did. -/
def historyPrefixSpec : ChangeSpec := { name := "historyPrefix", fn := fun _ => fun
  | [d1, d2] => { results := [.lit (.bool true)], args := [d1, d2] }
  | _ => none }
def historyPrefixRow : OpenClaim := { program := "ytbnlmgncbgaepaagreat", sum := "0ab3afb333f4d509233115cdad0c5698d93854209abb9080dd5ceef7a71db702", func := "sheave/sheavelaw24.HistoryPrefix", spec := "historyPrefix", inPlace := ["internal/abi.NoEscape"], unfollowed := true, recurses := true, plainKeys := false, apart := false }
def HistoryPrefixSaid : Prop := historyPrefixRow.holds Tryz.pinned (OpenSpec.ofChange historyPrefixSpec)

/-- ITS FALSE NEIGHBOUR: 'it returns false'. Refute it at one input. -/
def historyPrefixWrong : ChangeSpec := { name := "historyPrefix", fn := fun _ => fun
  | [d1, d2] => { results := [.lit (.bool false)], args := [d1, d2] }
  | _ => none }
def HistoryPrefixWrongFalsely : Prop := historyPrefixRow.holds Tryz.pinned (OpenSpec.ofChange historyPrefixWrong)

/- THE SECOND FORM. 'bulk': how many values and letters a reading holds, each counted each time it is reached (what is shared counts as often as it is met; a slice's spare places count too). A statement '..UptoSaid' is the law's where the arguments, and the package variables that the reading takes, are together of bulk at most 1048576: NARROWER than '..Said'. Prove '..Said' where nothing that the law and all that it calls make is longer than what came in: it says more and counts as full. Else prove '..UptoSaid'. A law counts once. -/
mutual
def uptoBulk {H : Type} : DataW H → Nat
  | .lit (.string bytes) => bytes.length + 1
  | .lit _ => 1
  | .nil => 1
  | .ptr d => uptoBulk d + 1
  | .slice elems spare => uptoBulkAll elems + uptoBulkAll spare + 1
  | .agg parts => uptoBulkAll parts + 1
  | .iface _ d => uptoBulk d + 1
  | .map entries => uptoBulkEntries entries + 1
  | .held _ => 1
def uptoBulkAll {H : Type} : List (DataW H) → Nat
  | [] => 0
  | d :: r => uptoBulk d + uptoBulkAll r
def uptoBulkEntries {H : Type} : List (Lit × DataW H) → Nat
  | [] => 0
  | x :: r => uptoBulkEntry x + uptoBulkEntries r
def uptoBulkEntry {H : Type} : Lit × DataW H → Nat
  | (.string bytes, d) => bytes.length + uptoBulk d + 1
  | (_, d) => uptoBulk d + 1
 end
def uptoSmall : (H : Type) → List (DataW H) → Bool := fun _ ds => decide (uptoBulkAll ds ≤ 1048576)
def OpenSpec.upto (s : _root_.Go.ChangeSpec) : _root_.Go.OpenSpec := { _root_.Go.OpenSpec.ofChange s with cond := some uptoSmall }

/-- 'sheavelaw20.SimulateReads', WHERE WHAT IT READS IS OF BULK AT MOST 1048576: true; the input reads as it did. -/
def simulateReadsUptoRow : OpenClaim := { program := "ytbnlmgncbgaepaagreat", sum := "0ab3afb333f4d509233115cdad0c5698d93854209abb9080dd5ceef7a71db702", func := "sheave/sheavelaw20.SimulateReads", spec := "simulateReads", inPlace := ["internal/abi.NoEscape"], unfollowed := true, recurses := true, plainKeys := false, apart := false, narrowed := true }
def SimulateReadsUptoSaid : Prop := simulateReadsUptoRow.holds Tryz.pinned (OpenSpec.upto simulateReadsSpec)

/-- 'sheavelaw20.SimulateLocal', WHERE WHAT IT READS IS OF BULK AT MOST 1048576: true; the input reads as it did. -/
def simulateLocalUptoRow : OpenClaim := { program := "ytbnlmgncbgaepaagreat", sum := "0ab3afb333f4d509233115cdad0c5698d93854209abb9080dd5ceef7a71db702", func := "sheave/sheavelaw20.SimulateLocal", spec := "simulateLocal", inPlace := ["internal/abi.NoEscape"], unfollowed := true, recurses := true, plainKeys := false, apart := false, narrowed := true }
def SimulateLocalUptoSaid : Prop := simulateLocalUptoRow.holds Tryz.pinned (OpenSpec.upto simulateLocalSpec)

/-- 'sheavelaw20.SimulateCompatible', WHERE WHAT IT READS IS OF BULK AT MOST 1048576: true; the input reads as it did. -/
def simulateCompatibleUptoRow : OpenClaim := { program := "ytbnlmgncbgaepaagreat", sum := "0ab3afb333f4d509233115cdad0c5698d93854209abb9080dd5ceef7a71db702", func := "sheave/sheavelaw20.SimulateCompatible", spec := "simulateCompatible", inPlace := ["internal/abi.NoEscape"], unfollowed := true, recurses := true, plainKeys := false, apart := false, narrowed := true }
def SimulateCompatibleUptoSaid : Prop := simulateCompatibleUptoRow.holds Tryz.pinned (OpenSpec.upto simulateCompatibleSpec)

/-- 'sheavelaw20.SimulateSelf', WHERE WHAT IT READS IS OF BULK AT MOST 1048576: true; the input reads as it did. -/
def simulateSelfUptoRow : OpenClaim := { program := "ytbnlmgncbgaepaagreat", sum := "0ab3afb333f4d509233115cdad0c5698d93854209abb9080dd5ceef7a71db702", func := "sheave/sheavelaw20.SimulateSelf", spec := "simulateSelf", inPlace := ["internal/abi.NoEscape"], unfollowed := true, recurses := true, plainKeys := false, apart := false, narrowed := true }
def SimulateSelfUptoSaid : Prop := simulateSelfUptoRow.holds Tryz.pinned (OpenSpec.upto simulateSelfSpec)

/-- 'sheavelaw20.SimulateGreatest', WHERE WHAT IT READS IS OF BULK AT MOST 1048576: true; the input reads as it did. -/
def simulateGreatestUptoRow : OpenClaim := { program := "ytbnlmgncbgaepaagreat", sum := "0ab3afb333f4d509233115cdad0c5698d93854209abb9080dd5ceef7a71db702", func := "sheave/sheavelaw20.SimulateGreatest", spec := "simulateGreatest", inPlace := ["internal/abi.NoEscape"], unfollowed := true, recurses := true, plainKeys := false, apart := false, narrowed := true }
def SimulateGreatestUptoSaid : Prop := simulateGreatestUptoRow.holds Tryz.pinned (OpenSpec.upto simulateGreatestSpec)

/-- 'sheavelaw20.SimulateBlamed', WHERE WHAT IT READS IS OF BULK AT MOST 1048576: true; the input reads as it did. -/
def simulateBlamedUptoRow : OpenClaim := { program := "ytbnlmgncbgaepaagreat", sum := "0ab3afb333f4d509233115cdad0c5698d93854209abb9080dd5ceef7a71db702", func := "sheave/sheavelaw20.SimulateBlamed", spec := "simulateBlamed", inPlace := ["internal/abi.NoEscape"], unfollowed := true, recurses := true, plainKeys := false, apart := false, narrowed := true }
def SimulateBlamedUptoSaid : Prop := simulateBlamedUptoRow.holds Tryz.pinned (OpenSpec.upto simulateBlamedSpec)

/-- 'sheavelaw20.SimulateClosed', WHERE WHAT IT READS IS OF BULK AT MOST 1048576: true; the input reads as it did. -/
def simulateClosedUptoRow : OpenClaim := { program := "ytbnlmgncbgaepaagreat", sum := "0ab3afb333f4d509233115cdad0c5698d93854209abb9080dd5ceef7a71db702", func := "sheave/sheavelaw20.SimulateClosed", spec := "simulateClosed", inPlace := ["internal/abi.NoEscape"], unfollowed := true, recurses := true, plainKeys := false, apart := false, narrowed := true }
def SimulateClosedUptoSaid : Prop := simulateClosedUptoRow.holds Tryz.pinned (OpenSpec.upto simulateClosedSpec)

/-- 'sheavelaw20.SimulateErrors', WHERE WHAT IT READS IS OF BULK AT MOST 1048576: true; the input reads as it did. -/
def simulateErrorsUptoRow : OpenClaim := { program := "ytbnlmgncbgaepaagreat", sum := "0ab3afb333f4d509233115cdad0c5698d93854209abb9080dd5ceef7a71db702", func := "sheave/sheavelaw20.SimulateErrors", spec := "simulateErrors", inPlace := ["internal/abi.NoEscape"], unfollowed := true, recurses := true, loops := true, plainKeys := false, apart := false, narrowed := true }
def SimulateErrorsUptoSaid : Prop := simulateErrorsUptoRow.holds Tryz.pinned (OpenSpec.upto simulateErrorsSpec)

/-- 'sheavelaw24.HistoryMatrix', WHERE WHAT IT READS IS OF BULK AT MOST 1048576: true; the input reads as it did. -/
def historyMatrixUptoRow : OpenClaim := { program := "ytbnlmgncbgaepaagreat", sum := "0ab3afb333f4d509233115cdad0c5698d93854209abb9080dd5ceef7a71db702", func := "sheave/sheavelaw24.HistoryMatrix", spec := "historyMatrix", inPlace := ["internal/abi.NoEscape"], unfollowed := true, recurses := true, plainKeys := false, apart := false, narrowed := true }
def HistoryMatrixUptoSaid : Prop := historyMatrixUptoRow.holds Tryz.pinned (OpenSpec.upto historyMatrixSpec)

/-- 'sheavelaw24.HistoryReused', WHERE WHAT IT READS IS OF BULK AT MOST 1048576: true; the input reads as it did. -/
def historyReusedUptoRow : OpenClaim := { program := "ytbnlmgncbgaepaagreat", sum := "0ab3afb333f4d509233115cdad0c5698d93854209abb9080dd5ceef7a71db702", func := "sheave/sheavelaw24.HistoryReused", spec := "historyReused", inPlace := ["internal/abi.NoEscape"], unfollowed := true, recurses := true, plainKeys := false, apart := false, narrowed := true }
def HistoryReusedUptoSaid : Prop := historyReusedUptoRow.holds Tryz.pinned (OpenSpec.upto historyReusedSpec)

/-- 'sheavelaw24.HistoryWays', WHERE WHAT IT READS IS OF BULK AT MOST 1048576: true; the input reads as it did. -/
def historyWaysUptoRow : OpenClaim := { program := "ytbnlmgncbgaepaagreat", sum := "0ab3afb333f4d509233115cdad0c5698d93854209abb9080dd5ceef7a71db702", func := "sheave/sheavelaw24.HistoryWays", spec := "historyWays", inPlace := ["internal/abi.NoEscape"], unfollowed := true, recurses := true, plainKeys := false, apart := false, narrowed := true }
def HistoryWaysUptoSaid : Prop := historyWaysUptoRow.holds Tryz.pinned (OpenSpec.upto historyWaysSpec)

/-- 'sheavelaw24.HistoryErrors', WHERE WHAT IT READS IS OF BULK AT MOST 1048576: true; the input reads as it did. -/
def historyErrorsUptoRow : OpenClaim := { program := "ytbnlmgncbgaepaagreat", sum := "0ab3afb333f4d509233115cdad0c5698d93854209abb9080dd5ceef7a71db702", func := "sheave/sheavelaw24.HistoryErrors", spec := "historyErrors", inPlace := ["internal/abi.NoEscape"], unfollowed := true, recurses := true, loops := true, plainKeys := false, apart := false, narrowed := true }
def HistoryErrorsUptoSaid : Prop := historyErrorsUptoRow.holds Tryz.pinned (OpenSpec.upto historyErrorsSpec)

/-- 'sheavelaw24.HistorySets', WHERE WHAT IT READS IS OF BULK AT MOST 1048576: true; the input reads as it did. -/
def historySetsUptoRow : OpenClaim := { program := "ytbnlmgncbgaepaagreat", sum := "0ab3afb333f4d509233115cdad0c5698d93854209abb9080dd5ceef7a71db702", func := "sheave/sheavelaw24.HistorySets", spec := "historySets", inPlace := ["internal/abi.NoEscape"], unfollowed := true, recurses := true, plainKeys := false, apart := false, narrowed := true }
def HistorySetsUptoSaid : Prop := historySetsUptoRow.holds Tryz.pinned (OpenSpec.upto historySetsSpec)

/-- 'sheavelaw24.HistoryGalois', WHERE WHAT IT READS IS OF BULK AT MOST 1048576: true; the input reads as it did. -/
def historyGaloisUptoRow : OpenClaim := { program := "ytbnlmgncbgaepaagreat", sum := "0ab3afb333f4d509233115cdad0c5698d93854209abb9080dd5ceef7a71db702", func := "sheave/sheavelaw24.HistoryGalois", spec := "historyGalois", inPlace := ["internal/abi.NoEscape"], unfollowed := true, recurses := true, plainKeys := false, apart := false, narrowed := true }
def HistoryGaloisUptoSaid : Prop := historyGaloisUptoRow.holds Tryz.pinned (OpenSpec.upto historyGaloisSpec)

/-- 'sheavelaw24.HistoryPrefix', WHERE WHAT IT READS IS OF BULK AT MOST 1048576: true; the input reads as it did. -/
def historyPrefixUptoRow : OpenClaim := { program := "ytbnlmgncbgaepaagreat", sum := "0ab3afb333f4d509233115cdad0c5698d93854209abb9080dd5ceef7a71db702", func := "sheave/sheavelaw24.HistoryPrefix", spec := "historyPrefix", inPlace := ["internal/abi.NoEscape"], unfollowed := true, recurses := true, plainKeys := false, apart := false, narrowed := true }
def HistoryPrefixUptoSaid : Prop := historyPrefixUptoRow.holds Tryz.pinned (OpenSpec.upto historyPrefixSpec)

end Rows
end Go.Proofs.YtbnlmgncbgaepaaGreat
