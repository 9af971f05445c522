/- A part of the proof. -/
import Derived.Test.YtbhbeakhognieaaGreatDoorWg
set_option linter.all false
set_option maxRecDepth 100000
set_option maxHeartbeats 8000000
namespace Go.Proofs.YtbhbeakhognieaaGreatDoor
open Go
def QA.sm (t:QA):Prop:=t.kind=2->-100<=t.low/\t.low<=t.high/\t.high<=100

end Go.Proofs.YtbhbeakhognieaaGreatDoor
