/-
  No cell of these rows narrows 'for every input' (looked for: loops, veiled, ifaces, maps, wideKeys, modest, calm, conditions, laid).
  DERIVED. THE GIVEN ROWS OF THIS SEAT. 7 by the template 'for every input the law returns true; each argument reads behind the call as it read before'; 0 by the template 'total and deterministic' (their statements: YtbpbeogipgfjiaaTotals.lean).
  GIVEN WITH THE SEED: the statements are not yours to turn. If you find one false, say at which input.
  Laid BY PROGRAM, IN A SANDBOX (cutbox-rows.mjs): the forced cells as the released guide's own fill.sh prints them over the translation f2d7fefe2e8cb41a… (all of the seat's roots in one cut). By AI agents, Wed Nov 11 2026. No macro, syntax, notation, axiom, sorry.
-/
import Derived.Test.YtbpbeogipgfjiaaChecked
import GoSem.Claim
import GoSem.ClaimJoined
import GoSem.ClaimMapViews
import Derived.JoinedTies
import Derived.KernelRfl
namespace Go.Proofs.Ytbpbeogipgfjiaa
/- THE CELL 'sum', in the pinned program and in every row, IS THE sha256 OF THE DUMP (.gsa) THAT YtbpbeogipgfjiaaProg.lean LOADS. Nothing in Lean hashes anything: it is a label: what it is worth is what the hold of that sum in a sandbox is worth. -/
noncomputable def Try.pinned : Pinned := { name := "ytbpbeogipgfjiaa", sum := "f2d7fefe2e8cb41a9faad6feb82fd2c3ac6228fcf1ec453573001826218a4d98", checked := Try.checked }
namespace Rows
def none {H : Type} : Left H := { results := [], args := [] }

/-- 'sheavelaw47.EventsSteps': WHATEVER THE INPUT: true; the input reads as it did. -/
def eventsStepsSpec : ChangeSpec := { name := "eventsSteps", fn := fun _ => fun
  | [d] => { results := [.lit (.bool true)], args := [d] }
  | _ => none }
def eventsStepsRow : OpenClaim := { program := "ytbpbeogipgfjiaa", sum := "f2d7fefe2e8cb41a9faad6feb82fd2c3ac6228fcf1ec453573001826218a4d98", func := "sheave/sheavelaw47.EventsSteps", spec := "eventsSteps", inPlace := ["slices.overlaps[sheave/api.Event]"], unfollowed := true, recurses := true, apart := false }
def EventsStepsSaid : Prop := eventsStepsRow.holds Try.pinned (OpenSpec.ofChange eventsStepsSpec)

/-- ITS FALSE NEIGHBOUR: 'it returns false'. Refute it at one input. -/
def eventsStepsWrong : ChangeSpec := { name := "eventsSteps", fn := fun _ => fun
  | [d] => { results := [.lit (.bool false)], args := [d] }
  | _ => none }
def EventsStepsWrongFalsely : Prop := eventsStepsRow.holds Try.pinned (OpenSpec.ofChange eventsStepsWrong)

/-- 'sheavelaw47.EventsOrder': WHATEVER THE INPUT: true; the input reads as it did. -/
def eventsOrderSpec : ChangeSpec := { name := "eventsOrder", fn := fun _ => fun
  | [d] => { results := [.lit (.bool true)], args := [d] }
  | _ => none }
def eventsOrderRow : OpenClaim := { program := "ytbpbeogipgfjiaa", sum := "f2d7fefe2e8cb41a9faad6feb82fd2c3ac6228fcf1ec453573001826218a4d98", func := "sheave/sheavelaw47.EventsOrder", spec := "eventsOrder", inPlace := ["slices.overlaps[sheave/api.Event]"], unfollowed := true, recurses := true, apart := false }
def EventsOrderSaid : Prop := eventsOrderRow.holds Try.pinned (OpenSpec.ofChange eventsOrderSpec)

/-- ITS FALSE NEIGHBOUR: 'it returns false'. Refute it at one input. -/
def eventsOrderWrong : ChangeSpec := { name := "eventsOrder", fn := fun _ => fun
  | [d] => { results := [.lit (.bool false)], args := [d] }
  | _ => none }
def EventsOrderWrongFalsely : Prop := eventsOrderRow.holds Try.pinned (OpenSpec.ofChange eventsOrderWrong)

/-- 'sheavelaw47.EventsUntil': WHATEVER THE INPUT: true; the input reads as it did. -/
def eventsUntilSpec : ChangeSpec := { name := "eventsUntil", fn := fun _ => fun
  | [d1, d2] => { results := [.lit (.bool true)], args := [d1, d2] }
  | _ => none }
def eventsUntilRow : OpenClaim := { program := "ytbpbeogipgfjiaa", sum := "f2d7fefe2e8cb41a9faad6feb82fd2c3ac6228fcf1ec453573001826218a4d98", func := "sheave/sheavelaw47.EventsUntil", spec := "eventsUntil", inPlace := ["slices.overlaps[sheave/api.Event]"], unfollowed := true, recurses := true, apart := false }
def EventsUntilSaid : Prop := eventsUntilRow.holds Try.pinned (OpenSpec.ofChange eventsUntilSpec)

/-- ITS FALSE NEIGHBOUR: 'it returns false'. Refute it at one input. -/
def eventsUntilWrong : ChangeSpec := { name := "eventsUntil", fn := fun _ => fun
  | [d1, d2] => { results := [.lit (.bool false)], args := [d1, d2] }
  | _ => none }
def EventsUntilWrongFalsely : Prop := eventsUntilRow.holds Try.pinned (OpenSpec.ofChange eventsUntilWrong)

/-- 'sheavelaw47.EventsCount': WHATEVER THE INPUT: true; the input reads as it did. -/
def eventsCountSpec : ChangeSpec := { name := "eventsCount", fn := fun _ => fun
  | [d] => { results := [.lit (.bool true)], args := [d] }
  | _ => none }
def eventsCountRow : OpenClaim := { program := "ytbpbeogipgfjiaa", sum := "f2d7fefe2e8cb41a9faad6feb82fd2c3ac6228fcf1ec453573001826218a4d98", func := "sheave/sheavelaw47.EventsCount", spec := "eventsCount", inPlace := ["slices.overlaps[sheave/api.Event]"], unfollowed := true, recurses := true, apart := false }
def EventsCountSaid : Prop := eventsCountRow.holds Try.pinned (OpenSpec.ofChange eventsCountSpec)

/-- ITS FALSE NEIGHBOUR: 'it returns false'. Refute it at one input. -/
def eventsCountWrong : ChangeSpec := { name := "eventsCount", fn := fun _ => fun
  | [d] => { results := [.lit (.bool false)], args := [d] }
  | _ => none }
def EventsCountWrongFalsely : Prop := eventsCountRow.holds Try.pinned (OpenSpec.ofChange eventsCountWrong)

/-- 'sheavelaw47.EventsClock': WHATEVER THE INPUT: true; the input reads as it did. -/
def eventsClockSpec : ChangeSpec := { name := "eventsClock", fn := fun _ => fun
  | [d] => { results := [.lit (.bool true)], args := [d] }
  | _ => none }
def eventsClockRow : OpenClaim := { program := "ytbpbeogipgfjiaa", sum := "f2d7fefe2e8cb41a9faad6feb82fd2c3ac6228fcf1ec453573001826218a4d98", func := "sheave/sheavelaw47.EventsClock", spec := "eventsClock", inPlace := ["slices.overlaps[sheave/api.Event]"], unfollowed := true, recurses := true, apart := false }
def EventsClockSaid : Prop := eventsClockRow.holds Try.pinned (OpenSpec.ofChange eventsClockSpec)

/-- ITS FALSE NEIGHBOUR: 'it returns false'. Refute it at one input. -/
def eventsClockWrong : ChangeSpec := { name := "eventsClock", fn := fun _ => fun
  | [d] => { results := [.lit (.bool false)], args := [d] }
  | _ => none }
def EventsClockWrongFalsely : Prop := eventsClockRow.holds Try.pinned (OpenSpec.ofChange eventsClockWrong)

/-- 'sheavelaw47.EventsCancel': WHATEVER THE INPUT: true; the input reads as it did. -/
def eventsCancelSpec : ChangeSpec := { name := "eventsCancel", fn := fun _ => fun
  | [d1, d2] => { results := [.lit (.bool true)], args := [d1, d2] }
  | _ => none }
def eventsCancelRow : OpenClaim := { program := "ytbpbeogipgfjiaa", sum := "f2d7fefe2e8cb41a9faad6feb82fd2c3ac6228fcf1ec453573001826218a4d98", func := "sheave/sheavelaw47.EventsCancel", spec := "eventsCancel", inPlace := ["slices.overlaps[sheave/api.Event]"], unfollowed := true, recurses := true, apart := false }
def EventsCancelSaid : Prop := eventsCancelRow.holds Try.pinned (OpenSpec.ofChange eventsCancelSpec)

/-- ITS FALSE NEIGHBOUR: 'it returns false'. Refute it at one input. -/
def eventsCancelWrong : ChangeSpec := { name := "eventsCancel", fn := fun _ => fun
  | [d1, d2] => { results := [.lit (.bool false)], args := [d1, d2] }
  | _ => none }
def EventsCancelWrongFalsely : Prop := eventsCancelRow.holds Try.pinned (OpenSpec.ofChange eventsCancelWrong)

/-- 'sheavelaw47.EventsPeek': WHATEVER THE INPUT: true; the input reads as it did. -/
def eventsPeekSpec : ChangeSpec := { name := "eventsPeek", fn := fun _ => fun
  | [d] => { results := [.lit (.bool true)], args := [d] }
  | _ => none }
def eventsPeekRow : OpenClaim := { program := "ytbpbeogipgfjiaa", sum := "f2d7fefe2e8cb41a9faad6feb82fd2c3ac6228fcf1ec453573001826218a4d98", func := "sheave/sheavelaw47.EventsPeek", spec := "eventsPeek", inPlace := ["slices.overlaps[sheave/api.Event]"], unfollowed := true, recurses := true, apart := false }
def EventsPeekSaid : Prop := eventsPeekRow.holds Try.pinned (OpenSpec.ofChange eventsPeekSpec)

/-- ITS FALSE NEIGHBOUR: 'it returns false'. Refute it at one input. -/
def eventsPeekWrong : ChangeSpec := { name := "eventsPeek", fn := fun _ => fun
  | [d] => { results := [.lit (.bool false)], args := [d] }
  | _ => none }
def EventsPeekWrongFalsely : Prop := eventsPeekRow.holds Try.pinned (OpenSpec.ofChange eventsPeekWrong)

/- THE SECOND FORM. 'bulk': how many values and letters a reading holds, each counted each time it is reached (what is shared counts as often as it is met; a slice's spare places count too). A statement '..UptoSaid' is the law's where the arguments, and the package variables that the reading takes, are together of bulk at most 1048576: NARROWER than '..Said'. Prove '..Said' where nothing that the law and all that it calls make is longer than what came in: it says more and counts as full. Else prove '..UptoSaid'. A law counts once. -/
mutual
def uptoBulk {H : Type} : DataW H → Nat
  | .lit (.string bytes) => bytes.length + 1
  | .lit _ => 1
  | .nil => 1
  | .ptr d => uptoBulk d + 1
  | .slice elems spare => uptoBulkAll elems + uptoBulkAll spare + 1
  | .agg parts => uptoBulkAll parts + 1
  | .iface _ d => uptoBulk d + 1
  | .map entries => uptoBulkEntries entries + 1
  | .held _ => 1
def uptoBulkAll {H : Type} : List (DataW H) → Nat
  | [] => 0
  | d :: r => uptoBulk d + uptoBulkAll r
def uptoBulkEntries {H : Type} : List (Lit × DataW H) → Nat
  | [] => 0
  | x :: r => uptoBulkEntry x + uptoBulkEntries r
def uptoBulkEntry {H : Type} : Lit × DataW H → Nat
  | (.string bytes, d) => bytes.length + uptoBulk d + 1
  | (_, d) => uptoBulk d + 1
 end
def uptoSmall : (H : Type) → List (DataW H) → Bool := fun _ ds => decide (uptoBulkAll ds ≤ 1048576)
def OpenSpec.upto (s : _root_.Go.ChangeSpec) : _root_.Go.OpenSpec := { _root_.Go.OpenSpec.ofChange s with cond := some uptoSmall }

/-- 'sheavelaw47.EventsSteps', WHERE WHAT IT READS IS OF BULK AT MOST 1048576: true; the input reads as it did. -/
def eventsStepsUptoRow : OpenClaim := { program := "ytbpbeogipgfjiaa", sum := "f2d7fefe2e8cb41a9faad6feb82fd2c3ac6228fcf1ec453573001826218a4d98", func := "sheave/sheavelaw47.EventsSteps", spec := "eventsSteps", inPlace := ["slices.overlaps[sheave/api.Event]"], unfollowed := true, recurses := true, apart := false, narrowed := true }
def EventsStepsUptoSaid : Prop := eventsStepsUptoRow.holds Try.pinned (OpenSpec.upto eventsStepsSpec)

/-- 'sheavelaw47.EventsOrder', WHERE WHAT IT READS IS OF BULK AT MOST 1048576: true; the input reads as it did. -/
def eventsOrderUptoRow : OpenClaim := { program := "ytbpbeogipgfjiaa", sum := "f2d7fefe2e8cb41a9faad6feb82fd2c3ac6228fcf1ec453573001826218a4d98", func := "sheave/sheavelaw47.EventsOrder", spec := "eventsOrder", inPlace := ["slices.overlaps[sheave/api.Event]"], unfollowed := true, recurses := true, apart := false, narrowed := true }
def EventsOrderUptoSaid : Prop := eventsOrderUptoRow.holds Try.pinned (OpenSpec.upto eventsOrderSpec)

/-- 'sheavelaw47.EventsUntil', WHERE WHAT IT READS IS OF BULK AT MOST 1048576: true; the input reads as it did. -/
def eventsUntilUptoRow : OpenClaim := { program := "ytbpbeogipgfjiaa", sum := "f2d7fefe2e8cb41a9faad6feb82fd2c3ac6228fcf1ec453573001826218a4d98", func := "sheave/sheavelaw47.EventsUntil", spec := "eventsUntil", inPlace := ["slices.overlaps[sheave/api.Event]"], unfollowed := true, recurses := true, apart := false, narrowed := true }
def EventsUntilUptoSaid : Prop := eventsUntilUptoRow.holds Try.pinned (OpenSpec.upto eventsUntilSpec)

/-- 'sheavelaw47.EventsCount', WHERE WHAT IT READS IS OF BULK AT MOST 1048576: true; the input reads as it did. -/
def eventsCountUptoRow : OpenClaim := { program := "ytbpbeogipgfjiaa", sum := "f2d7fefe2e8cb41a9faad6feb82fd2c3ac6228fcf1ec453573001826218a4d98", func := "sheave/sheavelaw47.EventsCount", spec := "eventsCount", inPlace := ["slices.overlaps[sheave/api.Event]"], unfollowed := true, recurses := true, apart := false, narrowed := true }
def EventsCountUptoSaid : Prop := eventsCountUptoRow.holds Try.pinned (OpenSpec.upto eventsCountSpec)

/-- 'sheavelaw47.EventsClock', WHERE WHAT IT READS IS OF BULK AT MOST 1048576: true; the input reads as it did. -/
def eventsClockUptoRow : OpenClaim := { program := "ytbpbeogipgfjiaa", sum := "f2d7fefe2e8cb41a9faad6feb82fd2c3ac6228fcf1ec453573001826218a4d98", func := "sheave/sheavelaw47.EventsClock", spec := "eventsClock", inPlace := ["slices.overlaps[sheave/api.Event]"], unfollowed := true, recurses := true, apart := false, narrowed := true }
def EventsClockUptoSaid : Prop := eventsClockUptoRow.holds Try.pinned (OpenSpec.upto eventsClockSpec)

/-- 'sheavelaw47.EventsCancel', WHERE WHAT IT READS IS OF BULK AT MOST 1048576: true; the input reads as it did. -/
def eventsCancelUptoRow : OpenClaim := { program := "ytbpbeogipgfjiaa", sum := "f2d7fefe2e8cb41a9faad6feb82fd2c3ac6228fcf1ec453573001826218a4d98", func := "sheave/sheavelaw47.EventsCancel", spec := "eventsCancel", inPlace := ["slices.overlaps[sheave/api.Event]"], unfollowed := true, recurses := true, apart := false, narrowed := true }
def EventsCancelUptoSaid : Prop := eventsCancelUptoRow.holds Try.pinned (OpenSpec.upto eventsCancelSpec)

/-- 'sheavelaw47.EventsPeek', WHERE WHAT IT READS IS OF BULK AT MOST 1048576: true; the input reads as it did. -/
def eventsPeekUptoRow : OpenClaim := { program := "ytbpbeogipgfjiaa", sum := "f2d7fefe2e8cb41a9faad6feb82fd2c3ac6228fcf1ec453573001826218a4d98", func := "sheave/sheavelaw47.EventsPeek", spec := "eventsPeek", inPlace := ["slices.overlaps[sheave/api.Event]"], unfollowed := true, recurses := true, apart := false, narrowed := true }
def EventsPeekUptoSaid : Prop := eventsPeekUptoRow.holds Try.pinned (OpenSpec.upto eventsPeekSpec)

end Rows
end Go.Proofs.Ytbpbeogipgfjiaa
