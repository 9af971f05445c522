/-
  NARROWER THAN 'FOR EVERY INPUT', by the rows' own cells (each row's printed sentence says how): InhabitErrors: loops.
  DERIVED. THE GIVEN ROWS OF THIS SEAT. 5 by the template 'for every input the law returns true; each argument reads behind the call as it read before'; 0 by the template 'total and deterministic' (their statements: YtdjomefkhdimaaaGreatTotals.lean).
  GIVEN WITH THE SEED: the statements are not yours to turn. If you find one false, say at which input.
  Laid BY PROGRAM, IN A SANDBOX (cutbox-rows.mjs): the forced cells as the released guide's own fill.sh prints them over the translation 2906b2ec9d156e3c… (all of the seat's roots in one cut). By AI agents, Wed Nov 11 2026. No macro, syntax, notation, axiom, sorry.
-/
import Derived.Test.YtdjomefkhdimaaaGreatChecked
import GoSem.Claim
import GoSem.ClaimJoined
import GoSem.ClaimMapViews
import Derived.JoinedTies
import Derived.KernelRfl
namespace Go.Proofs.YtdjomefkhdimaaaGreat
/- THE CELL 'sum', in the pinned program and in every row, IS THE sha256 OF THE DUMP (.gsa) THAT YtdjomefkhdimaaaGreatProg.lean LOADS. Nothing in Lean hashes anything: it is a label: what it is worth is what the hold of that sum in a sandbox is worth. -/
noncomputable def Tryz.pinned : Pinned := { name := "ytdjomefkhdimaaagreat", sum := "2906b2ec9d156e3c750125ed729fc3293d387718c2ec12063ff417946d0b0596", checked := Tryz.checked }
namespace Rows
def none {H : Type} : Left H := { results := [], args := [] }

/-- 'sheavelaw11.InhabitErrors': WHATEVER THE INPUT: true; the input reads as it did. -/
def inhabitErrorsSpec : ChangeSpec := { name := "inhabitErrors", fn := fun _ => fun
  | [d1, d2] => { results := [.lit (.bool true)], args := [d1, d2] }
  | _ => none }
def inhabitErrorsRow : OpenClaim := { program := "ytdjomefkhdimaaagreat", sum := "2906b2ec9d156e3c750125ed729fc3293d387718c2ec12063ff417946d0b0596", func := "sheave/sheavelaw11.InhabitErrors", spec := "inhabitErrors", inPlace := ["internal/abi.NoEscape"], unfollowed := true, recurses := true, loops := true, apart := false }
def InhabitErrorsSaid : Prop := inhabitErrorsRow.holds Tryz.pinned (OpenSpec.ofChange inhabitErrorsSpec)

/-- ITS FALSE NEIGHBOUR: 'it returns false'. Refute it at one input. -/
def inhabitErrorsWrong : ChangeSpec := { name := "inhabitErrors", fn := fun _ => fun
  | [d1, d2] => { results := [.lit (.bool false)], args := [d1, d2] }
  | _ => none }
def InhabitErrorsWrongFalsely : Prop := inhabitErrorsRow.holds Tryz.pinned (OpenSpec.ofChange inhabitErrorsWrong)

/-- 'sheavelaw11.InhabitFinite': WHATEVER THE INPUT: true; the input reads as it did. -/
def inhabitFiniteSpec : ChangeSpec := { name := "inhabitFinite", fn := fun _ => fun
  | [d] => { results := [.lit (.bool true)], args := [d] }
  | _ => none }
def inhabitFiniteRow : OpenClaim := { program := "ytdjomefkhdimaaagreat", sum := "2906b2ec9d156e3c750125ed729fc3293d387718c2ec12063ff417946d0b0596", func := "sheave/sheavelaw11.InhabitFinite", spec := "inhabitFinite", inPlace := ["internal/abi.NoEscape"], unfollowed := true, recurses := true, apart := false }
def InhabitFiniteSaid : Prop := inhabitFiniteRow.holds Tryz.pinned (OpenSpec.ofChange inhabitFiniteSpec)

/-- ITS FALSE NEIGHBOUR: 'it returns false'. Refute it at one input. -/
def inhabitFiniteWrong : ChangeSpec := { name := "inhabitFinite", fn := fun _ => fun
  | [d] => { results := [.lit (.bool false)], args := [d] }
  | _ => none }
def InhabitFiniteWrongFalsely : Prop := inhabitFiniteRow.holds Tryz.pinned (OpenSpec.ofChange inhabitFiniteWrong)

/-- 'sheavelaw11.InhabitSound': WHATEVER THE INPUT: true; the input reads as it did. -/
def inhabitSoundSpec : ChangeSpec := { name := "inhabitSound", fn := fun _ => fun
  | [d] => { results := [.lit (.bool true)], args := [d] }
  | _ => none }
def inhabitSoundRow : OpenClaim := { program := "ytdjomefkhdimaaagreat", sum := "2906b2ec9d156e3c750125ed729fc3293d387718c2ec12063ff417946d0b0596", func := "sheave/sheavelaw11.InhabitSound", spec := "inhabitSound", inPlace := ["internal/abi.NoEscape"], unfollowed := true, recurses := true, apart := false }
def InhabitSoundSaid : Prop := inhabitSoundRow.holds Tryz.pinned (OpenSpec.ofChange inhabitSoundSpec)

/-- ITS FALSE NEIGHBOUR: 'it returns false'. Refute it at one input. -/
def inhabitSoundWrong : ChangeSpec := { name := "inhabitSound", fn := fun _ => fun
  | [d] => { results := [.lit (.bool false)], args := [d] }
  | _ => none }
def InhabitSoundWrongFalsely : Prop := inhabitSoundRow.holds Tryz.pinned (OpenSpec.ofChange inhabitSoundWrong)

/-- 'sheavelaw11.InhabitLeast': WHATEVER THE INPUT: true; the input reads as it did. -/
def inhabitLeastSpec : ChangeSpec := { name := "inhabitLeast", fn := fun _ => fun
  | [d1, d2] => { results := [.lit (.bool true)], args := [d1, d2] }
  | _ => none }
def inhabitLeastRow : OpenClaim := { program := "ytdjomefkhdimaaagreat", sum := "2906b2ec9d156e3c750125ed729fc3293d387718c2ec12063ff417946d0b0596", func := "sheave/sheavelaw11.InhabitLeast", spec := "inhabitLeast", inPlace := ["internal/abi.NoEscape"], unfollowed := true, recurses := true, apart := false }
def InhabitLeastSaid : Prop := inhabitLeastRow.holds Tryz.pinned (OpenSpec.ofChange inhabitLeastSpec)

/-- ITS FALSE NEIGHBOUR: 'it returns false'. Refute it at one input. -/
def inhabitLeastWrong : ChangeSpec := { name := "inhabitLeast", fn := fun _ => fun
  | [d1, d2] => { results := [.lit (.bool false)], args := [d1, d2] }
  | _ => none }
def InhabitLeastWrongFalsely : Prop := inhabitLeastRow.holds Tryz.pinned (OpenSpec.ofChange inhabitLeastWrong)

/-- 'sheavelaw11.InhabitRounds': WHATEVER THE INPUT: true; the input reads as it did. -/
def inhabitRoundsSpec : ChangeSpec := { name := "inhabitRounds", fn := fun _ => fun
  | [d] => { results := [.lit (.bool true)], args := [d] }
  | _ => none }
def inhabitRoundsRow : OpenClaim := { program := "ytdjomefkhdimaaagreat", sum := "2906b2ec9d156e3c750125ed729fc3293d387718c2ec12063ff417946d0b0596", func := "sheave/sheavelaw11.InhabitRounds", spec := "inhabitRounds", inPlace := ["internal/abi.NoEscape"], unfollowed := true, recurses := true, apart := false }
def InhabitRoundsSaid : Prop := inhabitRoundsRow.holds Tryz.pinned (OpenSpec.ofChange inhabitRoundsSpec)

/-- ITS FALSE NEIGHBOUR: 'it returns false'. Refute it at one input. -/
def inhabitRoundsWrong : ChangeSpec := { name := "inhabitRounds", fn := fun _ => fun
  | [d] => { results := [.lit (.bool false)], args := [d] }
  | _ => none }
def InhabitRoundsWrongFalsely : Prop := inhabitRoundsRow.holds Tryz.pinned (OpenSpec.ofChange inhabitRoundsWrong)

/- THE SECOND FORM. 'bulk': how many values and letters a reading holds, each counted each time it is reached (what is shared counts as often as it is met; a slice's spare places count too). A statement '..UptoSaid' is the law's where the arguments, and the package variables that the reading takes, are together of bulk at most 1048576: NARROWER than '..Said'. Prove '..Said' where nothing that the law and all that it calls make is longer than what came in: it says more and counts as full. Else prove '..UptoSaid'. A law counts once. -/
mutual
def uptoBulk {H : Type} : DataW H → Nat
  | .lit (.string bytes) => bytes.length + 1
  | .lit _ => 1
  | .nil => 1
  | .ptr d => uptoBulk d + 1
  | .slice elems spare => uptoBulkAll elems + uptoBulkAll spare + 1
  | .agg parts => uptoBulkAll parts + 1
  | .iface _ d => uptoBulk d + 1
  | .map entries => uptoBulkEntries entries + 1
  | .held _ => 1
def uptoBulkAll {H : Type} : List (DataW H) → Nat
  | [] => 0
  | d :: r => uptoBulk d + uptoBulkAll r
def uptoBulkEntries {H : Type} : List (Lit × DataW H) → Nat
  | [] => 0
  | x :: r => uptoBulkEntry x + uptoBulkEntries r
def uptoBulkEntry {H : Type} : Lit × DataW H → Nat
  | (.string bytes, d) => bytes.length + uptoBulk d + 1
  | (_, d) => uptoBulk d + 1
 end
def uptoSmall : (H : Type) → List (DataW H) → Bool := fun _ ds => decide (uptoBulkAll ds ≤ 1048576)
def OpenSpec.upto (s : _root_.Go.ChangeSpec) : _root_.Go.OpenSpec := { _root_.Go.OpenSpec.ofChange s with cond := some uptoSmall }

/-- 'sheavelaw11.InhabitErrors', WHERE WHAT IT READS IS OF BULK AT MOST 1048576: true; the input reads as it did. -/
def inhabitErrorsUptoRow : OpenClaim := { program := "ytdjomefkhdimaaagreat", sum := "2906b2ec9d156e3c750125ed729fc3293d387718c2ec12063ff417946d0b0596", func := "sheave/sheavelaw11.InhabitErrors", spec := "inhabitErrors", inPlace := ["internal/abi.NoEscape"], unfollowed := true, recurses := true, loops := true, apart := false, narrowed := true }
def InhabitErrorsUptoSaid : Prop := inhabitErrorsUptoRow.holds Tryz.pinned (OpenSpec.upto inhabitErrorsSpec)

/-- 'sheavelaw11.InhabitFinite', WHERE WHAT IT READS IS OF BULK AT MOST 1048576: true; the input reads as it did. -/
def inhabitFiniteUptoRow : OpenClaim := { program := "ytdjomefkhdimaaagreat", sum := "2906b2ec9d156e3c750125ed729fc3293d387718c2ec12063ff417946d0b0596", func := "sheave/sheavelaw11.InhabitFinite", spec := "inhabitFinite", inPlace := ["internal/abi.NoEscape"], unfollowed := true, recurses := true, apart := false, narrowed := true }
def InhabitFiniteUptoSaid : Prop := inhabitFiniteUptoRow.holds Tryz.pinned (OpenSpec.upto inhabitFiniteSpec)

/-- 'sheavelaw11.InhabitSound', WHERE WHAT IT READS IS OF BULK AT MOST 1048576: true; the input reads as it did. -/
def inhabitSoundUptoRow : OpenClaim := { program := "ytdjomefkhdimaaagreat", sum := "2906b2ec9d156e3c750125ed729fc3293d387718c2ec12063ff417946d0b0596", func := "sheave/sheavelaw11.InhabitSound", spec := "inhabitSound", inPlace := ["internal/abi.NoEscape"], unfollowed := true, recurses := true, apart := false, narrowed := true }
def InhabitSoundUptoSaid : Prop := inhabitSoundUptoRow.holds Tryz.pinned (OpenSpec.upto inhabitSoundSpec)

/-- 'sheavelaw11.InhabitLeast', WHERE WHAT IT READS IS OF BULK AT MOST 1048576: true; the input reads as it did. -/
def inhabitLeastUptoRow : OpenClaim := { program := "ytdjomefkhdimaaagreat", sum := "2906b2ec9d156e3c750125ed729fc3293d387718c2ec12063ff417946d0b0596", func := "sheave/sheavelaw11.InhabitLeast", spec := "inhabitLeast", inPlace := ["internal/abi.NoEscape"], unfollowed := true, recurses := true, apart := false, narrowed := true }
def InhabitLeastUptoSaid : Prop := inhabitLeastUptoRow.holds Tryz.pinned (OpenSpec.upto inhabitLeastSpec)

/-- 'sheavelaw11.InhabitRounds', WHERE WHAT IT READS IS OF BULK AT MOST 1048576: true; the input reads as it did. -/
def inhabitRoundsUptoRow : OpenClaim := { program := "ytdjomefkhdimaaagreat", sum := "2906b2ec9d156e3c750125ed729fc3293d387718c2ec12063ff417946d0b0596", func := "sheave/sheavelaw11.InhabitRounds", spec := "inhabitRounds", inPlace := ["internal/abi.NoEscape"], unfollowed := true, recurses := true, apart := false, narrowed := true }
def InhabitRoundsUptoSaid : Prop := inhabitRoundsUptoRow.holds Tryz.pinned (OpenSpec.upto inhabitRoundsSpec)

end Rows
end Go.Proofs.YtdjomefkhdimaaaGreat
