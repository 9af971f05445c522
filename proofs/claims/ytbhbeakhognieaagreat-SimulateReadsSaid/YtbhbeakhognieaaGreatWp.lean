/- A part of the proof. -/
import Derived.Test.YtbhbeakhognieaaGreatWn
set_option linter.all false
set_option maxRecDepth 100000
set_option maxHeartbeats 8000000
namespace Go.Proofs.YtbhbeakhognieaaGreat
open Go

end Go.Proofs.YtbhbeakhognieaaGreat
