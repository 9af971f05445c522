/- A part of the proof. -/
import Derived.Test.YthnefkpplcmjdaaGreatWg
set_option linter.all false
set_option maxRecDepth 100000
set_option maxHeartbeats 8000000
namespace Go.Proofs.YthnefkpplcmjdaaGreat
open Go


end Go.Proofs.YthnefkpplcmjdaaGreat
