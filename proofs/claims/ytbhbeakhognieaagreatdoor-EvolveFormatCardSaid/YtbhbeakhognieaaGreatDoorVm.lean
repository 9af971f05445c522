/- A part of the proof. -/
import Derived.Test.YtbhbeakhognieaaGreatDoorVi
import Derived.Test.YtbhbeakhognieaaGreatDoorVk
import Derived.Test.YtbhbeakhognieaaGreatDoorVl
set_option linter.all false
set_option maxRecDepth 100000
set_option maxHeartbeats 8000000
namespace Go.Proofs.YtbhbeakhognieaaGreatDoor
open Go

end Go.Proofs.YtbhbeakhognieaaGreatDoor
