/- A part of the proof. -/
import Derived.Test.YtpmklcpajcfpjaaGreatDoorWd
set_option linter.all false
set_option maxRecDepth 100000
set_option maxHeartbeats 8000000
open Option renaming bind_some → J
open List renaming range_succ → y0, map_map → y9
open Int renaming toNat_lt → yb
namespace Go.Proofs.YtpmklcpajcfpjaaGreatDoor
open Go
section
variable (t:BC)
include t
theorem Sk (h:t.kind=1){T:Bool}(hs:BD 81 [.agg (GC t.left),.agg (GC pE)] (.bool T)):BD 44 [.agg (GC t)] (.bool (T)):=by
 refine tD (c:=iD) rfl rfl ?_;simp[BD,GC,pE,BC.left,h]at hs;simp[iD,-J,-yb,-y9,y0,GC,h,hs]
theorem Dk (h:t.kind=2){T:Bool}(hs:BD 81 [.agg (GC t.left),.agg (GC pE)] (.bool T)):BD 44 [.agg (GC t)] (.bool (decide (t.low<=t.high)&&T)):=by
 refine tD (c:=iD) rfl rfl ?_;simp[BD,GC,pE,BC.left,h]at hs;by_cases h1:t.low<=t.high
 ·simp[iD,-J,-yb,-y9,y0,GC,h,hs,h1]
 ·simp[iD,-J,-yb,-y9,y0,GC,h,hs,h1]
theorem Fk (h:t.kind=3){T:Bool}(hs:BD 81 [.agg (GC t.left),.agg (GC pE)] (.bool T)):BD 44 [.agg (GC t)] (.bool ((decide (0<=t.max)&&decide (t.max<=200))&&T)):=by
 refine tD (c:=iD) rfl rfl ?_;simp[BD,GC,pE,BC.left,h]at hs;by_cases h1:0<=t.max
 ·by_cases h2:t.max<=200
  ·simp[iD,-J,-yb,-y9,y0,GC,h,hs,h1,h2]
  ·simp[iD,-J,-yb,-y9,y0,GC,h,hs,h1,h2]
 ·simp[iD,-J,-yb,-y9,y0,GC,h,hs,h1]
theorem Kk (h:t.kind=7){T:Bool}(hs:BD 81 [.agg (GC t.left),.agg (GC pE)] (.bool T)):BD 44 [.agg (GC t)] (.bool ((decide (0<=t.max)&&decide (t.max<=50))&&T)):=by
 refine tD (c:=iD) rfl rfl ?_;simp[BD,GC,pE,BC.left,h]at hs;by_cases h1:0<=t.max
 ·by_cases h2:t.max<=50
  ·simp[iD,-J,-yb,-y9,y0,GC,h,hs,h1,h2]
  ·simp[iD,-J,-yb,-y9,y0,GC,h,hs,h1,h2]
 ·simp[iD,-J,-yb,-y9,y0,GC,h,hs,h1]
theorem Zk (h:t.kind=8){T:Bool}(hs:BD 81 [.agg (GC t.left),.agg (GC pE)] (.bool T)):BD 44 [.agg (GC t)] (.bool ((decide (0<=t.max)&&decide (t.max<=50))&&T)):=by
 refine tD (c:=iD) rfl rfl ?_;simp[BD,GC,pE,BC.left,h]at hs;by_cases h1:0<=t.max
 ·by_cases h2:t.max<=50
  ·simp[iD,-J,-yb,-y9,y0,GC,h,hs,h1,h2]
  ·simp[iD,-J,-yb,-y9,y0,GC,h,hs,h1,h2]
 ·simp[iD,-J,-yb,-y9,y0,GC,h,hs,h1]
theorem Xk (h:t.kind=9){T:Bool}(hs:BD 81 [.agg (GC t.left),.agg (GC pE)] (.bool T)):BD 44 [.agg (GC t)] (.bool (T)):=by
 refine tD (c:=iD) rfl rfl ?_;simp[BD,GC,pE,BC.left,h]at hs;simp[iD,-J,-yb,-y9,y0,GC,h,hs]
theorem Gk (h:t.kind=4){T:Bool}(hs:BD 81 [.agg (GC t.left),.agg (GC pE)] (.bool T)){a b:Bool}(hn:BD 78 [.str t.name] (.bool a))(hy:BD 79 [.sl t.sn (t.wA.map fD)] (.bool b)):BD 44 [.agg (GC t)] (.bool ((a&&b)&&T)):=by
 refine tD (c:=iD) rfl rfl ?_;simp[BD,GC,pE,BC.left,h]at hs;simp only[BD]at hn hy;cases a with
 |false=>simp[iD,-J,-yb,-y9,y0,GC,h,hs,hn]
 |true=>cases b with
  |false=>simp[iD,-J,-yb,-y9,y0,GC,h,hs,hn,hy]
  |true=>simp[iD,-J,-yb,-y9,y0,GC,h,hs,hn,hy]
theorem Hk (h:t.kind=5){T:Bool}(hs:BD 81 [.agg (GC t.left),.agg (GC pE)] (.bool T)){a b:Bool}(hn:BD 78 [.str t.name] (.bool a))(hy:BD 80 [.agg (GC t)] (.bool b)):BD 44 [.agg (GC t)] (.bool ((a&&b)&&T)):=by
 refine tD (c:=iD) rfl rfl ?_;simp[BD,GC,pE,BC.left,h]at hs;simp only[BD,GC,h]at hn hy;cases ho:t.opn<;>simp only[ho]at hs hy<;>cases a with
 |false=>simp[iD,-J,-yb,-y9,y0,GC,h,hs,hn,ho]
 |true=>cases b with
  |false=>simp[iD,-J,-yb,-y9,y0,GC,h,hs,hn,hy,ho]
  |true=>simp[iD,-J,-yb,-y9,y0,GC,h,hs,hn,hy,ho]
theorem Jk (h:t.kind=6){T:Bool}(hs:BD 81 [.agg (GC t.left),.agg (GC pE)] (.bool T)){a b:Bool}(hn:BD 78 [.str t.name] (.bool a))(hy:BD 80 [.agg (GC t)] (.bool b)):BD 44 [.agg (GC t)] (.bool ((a&&b)&&T)):=by
 refine tD (c:=iD) rfl rfl ?_;simp[BD,GC,pE,BC.left,h]at hs;simp only[BD,GC,h]at hn hy;cases ho:t.opn<;>simp only[ho]at hs hy<;>cases a with
 |false=>simp[iD,-J,-yb,-y9,y0,GC,h,hs,hn,ho]
 |true=>cases b with
  |false=>simp[iD,-J,-yb,-y9,y0,GC,h,hs,hn,hy,ho]
  |true=>simp[iD,-J,-yb,-y9,y0,GC,h,hs,hn,hy,ho]
theorem Ak (h:¬(1<=t.kind/\t.kind<=9)):BD 44 [.agg (GC t)] (.bool false):=by
 refine tD (c:=iD) rfl rfl ?_;have q:∀n:Int,1<=n->n<=9->¬t.kind=n:=fun n h1 h2 e=>h ⟨by omega,by omega⟩
 simp[iD,-J,-yb,-y9,y0,GC,q 1,q 2,q 3,q 4,q 5,q 6,q 7,q 8,q 9]
theorem form_ev (ht:t.fine):BD 44 [.agg (GC t)] (.bool (bD t)):=by
 obtain⟨wa,kg,ac⟩:=ht;have hs:=Sv t.left pE (left_ok wa);have hn:=Fi t.name;have hsy:=Zw t.wA kg t.sn;have ic:=Bq t wa ac;unfold bD EI;rcases kinds t.kind with h|h|h|h|h|h|h|h|h|h
 ·have r:=Sk t h hs;simpa [h]using r
 ·have r:=Dk t h hs;simpa [h]using r
 ·have r:=Fk t h hs;simpa [h]using r
 ·have r:=Gk t h hs hn hsy;simpa [h]using r
 ·have r:=Hk t h hs hn (ic (.inl h));simpa [h]using r
 ·have r:=Jk t h hs hn (ic (.inr h));simpa [h]using r
 ·have r:=Kk t h hs;simpa [h]using r
 ·have r:=Zk t h hs;simpa [h]using r
 ·have r:=Xk t h hs;simpa [h]using r
 ·have r:=Ak t h;rw[decide_eq_false h];exact r
end
end Go.Proofs.YtpmklcpajcfpjaaGreatDoor
