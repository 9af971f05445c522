/- A part of the proof. -/
import Derived.Test.YtbhbeakhognieaaGreatDoorVg
import Derived.Lib.Zigzag
set_option linter.all false
set_option maxRecDepth 100000
set_option maxHeartbeats 8000000
namespace Go.Proofs.YtbhbeakhognieaaGreatDoor
open Go
def qH (n:Int):Prop:=-9223372036854775808<=n/\n<=9223372036854775807
section
mutual
/-- numbers that occur -/
def Vl.i64:Vl->Prop
 | .mk _ _ i _ _ _ ks _ xs _ _=>qH i/\Vl.i64s ks/\Vl.i64s xs
def Vl.i64s:List Vl->Prop
 | []=>True
 | v :: r=>Vl.i64 v/\Vl.i64s r
end
section
variable (sn:Bool) (S:List ZE) (t:Int) (f:Vl->Bool)
end
end
end Go.Proofs.YtbhbeakhognieaaGreatDoor
