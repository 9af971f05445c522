/- A part of the proof. -/
import Derived.Test.YtpmklcpajcfpjaaGreatDoorWg
import Derived.Lib.Zigzag
set_option linter.all false
set_option maxRecDepth 100000
set_option maxHeartbeats 8000000
namespace Go.Proofs.YtpmklcpajcfpjaaGreatDoor
open Go
def Ka (n:Int):Prop:=-9223372036854775808<=n/\n<=9223372036854775807
section
mutual
/-- numbers that occur -/
def Vl.i64:Vl->Prop
 |.mk _ _ i _ _ _ ks _ xs _ _=>Ka i/\Vl.WC ks/\Vl.WC xs
def Vl.WC:List Vl->Prop
 | []=>True
 |v::r=>Vl.i64 v/\Vl.WC r
end
theorem Vl.qC:∀l:List Vl,Vl.WC l ↔ ∀v∈l,v.i64
 | []=>by simp[Vl.WC]
 |v::r=>by simp[Vl.WC,Vl.qC r]
theorem Vl.XB (v:Vl):v.i64↔Ka v.i/\(∀x∈v.keys,x.i64)/\∀x∈v.items,x.i64:=by
 cases v;rw[Vl.i64,Vl.qC,Vl.qC];rfl
section
variable (sn:Bool) (S:List BC) (t:Int) (f:Vl->Bool)
end
end
end Go.Proofs.YtpmklcpajcfpjaaGreatDoor
