/- A part of the proof. -/
import Derived.Test.YtjoaiabjebpbjaaGreatSh
set_option linter.all false
set_option maxRecDepth 100000
set_option maxHeartbeats 8000000
namespace Go.Proofs.YtjoaiabjebpbjaaGreat
open Go


end Go.Proofs.YtjoaiabjebpbjaaGreat
