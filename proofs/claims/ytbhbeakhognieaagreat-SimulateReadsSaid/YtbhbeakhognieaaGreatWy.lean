/- A part of the proof. -/
import Derived.Test.YtbhbeakhognieaaGreatWx
set_option linter.all false
set_option maxRecDepth 100000
set_option maxHeartbeats 8000000
namespace Go.Proofs.YtbhbeakhognieaaGreat
open Go
theorem mixedT:Tryz.prog.follows .mixedOrders=true:=by kernel_rfl
mutual
def Vl.cl:Vl->Vl
 | .mk k b i s d _ ks _ xs _ rs=>.mk k b i s d ks.isEmpty (Vl.cls ks) xs.isEmpty (Vl.cls xs) rs.isEmpty rs
def Vl.cls:List Vl->List Vl
 | []=>[]
 | v :: r=>Vl.cl v :: Vl.cls r
end


end Go.Proofs.YtbhbeakhognieaaGreat
