/- A part of the proof. -/
import Derived.Test.YtpmklcpajcfpjaaGreatDoorWd
set_option linter.all false
set_option maxRecDepth 100000
set_option maxHeartbeats 8000000
open Option renaming bind_some → J
open List renaming range_succ → y0, map_map → y9, all_eq_true → ye
open Int renaming toNat_lt → yb
namespace Go.Proofs.YtpmklcpajcfpjaaGreatDoor
open Go
def BC.plain (t:BC):BC :=
 if t.kind=1 then{ pE with kind:=t.kind }
 else if t.kind=2 then{ pE with kind:=t.kind,low:=t.low,high:=t.high }
 else if t.kind=3 then{ pE with kind:=t.kind,max:=t.max }
 else if t.kind=4 then{ pE with kind:=t.kind,name:=t.name,sn:=t.sn,wA:=t.wA,opn:=t.opn }
 else if t.kind=5 then{ pE with kind:=t.kind,name:=t.name,mn:=t.mn,qA:=t.qA }
 else if t.kind=6 then{ pE with kind:=t.kind,name:=t.name,mn:=t.mn,qA:=t.qA,opn:=t.opn }
 else if t.kind=7 then{ pE with kind:=t.kind,max:=t.max,elem:=t.elem }
 else if t.kind=8 then{ pE with kind:=t.kind,max:=t.max,elem:=t.elem,key:=t.key }
 else{ pE with kind:=t.kind,elem:=t.elem }
theorem Tw (t:BC):t.same t.plain=t.left.same pE:=by
 unfold BC.plain BC.left
 repeat' split
 all_goals simp[BC.same,pE,mP,mD, *]
theorem nL (t:BC):BD 87 [.agg (GC t)] (.agg (GC t.plain)):=by
 refine tD (c:=aK) rfl rfl ?_;unfold BC.plain;rcases kinds t.kind with h|h|h|h|h|h|h|h|h|h
 case inr.inr.inr.inr.inr.inr.inr.inr.inr =>
  have q:∀n:Int,1<=n->n<=9->¬t.kind=n:=fun n h1 h2 e=>h ⟨by omega,by omega⟩
  simp[aK,-J,-yb,-y9,y0,GC,q,pE]
 all_goals simp[aK,-J,-yb,-y9,y0,GC,h,pE]
def BC.named (t:BC):Bool:=decide (t.kind=4)||decide (t.kind=5)||decide (t.kind=6)
theorem rG (k:Int):BD 30 [.int .i64 k] (.bool (decide (k=4)||decide (k=5)||decide (k=6))):=by
 refine tD (c:=zM) rfl rfl ?_;by_cases h1:k=4<;>by_cases h2:k=5<;>by_cases h3:k=6<;>simp[zM,-J,-yb,-y9,y0,h1,h2,h3]
theorem ZZ (k:Int):BD 51 [.int .i64 k] (.bool (decide (1<=k/\k<=4))):=by
 refine tD (c:=QK) rfl rfl ?_;by_cases h1:1<=k<;>by_cases h2:k<=4<;>simp[QK,-J,-yb,-y9,y0,h1,h2]
section
variable (t:BC)
include t
theorem own_ev1 (h:t.kind=1){T:Bool}(hs:BD 28 [.agg (GC t),.agg (GC t.plain)] (.bool T)):BD 49 [.agg (GC t)] (.bool (T)):=by
 have hp:=nL t;obtain⟨pc,ph⟩:∃pc,GC t.plain=pc:=⟨_,rfl⟩;have dh:pc.all AV.tA=true:=by rw[<- ph];rfl
 rw[ph]at hp hs;have rb:=rG t.kind;refine tD (c:=dD) rfl rfl ?_;simp[BD,GC,h]at hs hp rb;cases T with
 |false=>simp[dD,-J,-yb,-y9,y0,GC,h,hp,hs,rb,dh,-ye]
 |true =>
  simp[dD,-J,-yb,-y9,y0,GC,h,hp,hs,rb,dh,-ye]
theorem own_ev2 (h:t.kind=2){T:Bool}(hs:BD 28 [.agg (GC t),.agg (GC t.plain)] (.bool T)):BD 49 [.agg (GC t)] (.bool (T&&decide (t.low<=t.high))):=by
 have hp:=nL t;obtain⟨pc,ph⟩:∃pc,GC t.plain=pc:=⟨_,rfl⟩;have dh:pc.all AV.tA=true:=by rw[<- ph];rfl
 rw[ph]at hp hs;have rb:=rG t.kind;refine tD (c:=dD) rfl rfl ?_;simp[BD,GC,h]at hs hp rb;cases T with
 |false=>simp[dD,-J,-yb,-y9,y0,GC,h,hp,hs,rb,dh,-ye]
 |true =>
  simp[dD,-J,-yb,-y9,y0,GC,h,hp,hs,rb,dh,-ye]
theorem own_ev3 (h:t.kind=3){T:Bool}(hs:BD 28 [.agg (GC t),.agg (GC t.plain)] (.bool T)):BD 49 [.agg (GC t)] (.bool (T&&(decide (0<=t.max)&&decide (t.max<=200)))):=by
 have hp:=nL t;obtain⟨pc,ph⟩:∃pc,GC t.plain=pc:=⟨_,rfl⟩;have dh:pc.all AV.tA=true:=by rw[<- ph];rfl
 rw[ph]at hp hs;have rb:=rG t.kind;refine tD (c:=dD) rfl rfl ?_;simp[BD,GC,h]at hs hp rb;cases T with
 |false=>simp[dD,-J,-yb,-y9,y0,GC,h,hp,hs,rb,dh,-ye]
 |true =>
  by_cases h1:0<=t.max
  ·simp[dD,-J,-yb,-y9,y0,GC,h,hp,hs,rb,dh,-ye,h1]
  ·simp[dD,-J,-yb,-y9,y0,GC,h,hp,hs,rb,dh,-ye,h1]
theorem own_ev7 (h:t.kind=7){T:Bool}(hs:BD 28 [.agg (GC t),.agg (GC t.plain)] (.bool T)):BD 49 [.agg (GC t)] (.bool (T&&(decide (0<=t.max)&&decide (t.max<=50)))):=by
 have hp:=nL t;obtain⟨pc,ph⟩:∃pc,GC t.plain=pc:=⟨_,rfl⟩;have dh:pc.all AV.tA=true:=by rw[<- ph];rfl
 rw[ph]at hp hs;have rb:=rG t.kind;refine tD (c:=dD) rfl rfl ?_;simp[BD,GC,h]at hs hp rb;cases T with
 |false=>simp[dD,-J,-yb,-y9,y0,GC,h,hp,hs,rb,dh,-ye]
 |true =>
  by_cases h1:0<=t.max
  ·simp[dD,-J,-yb,-y9,y0,GC,h,hp,hs,rb,dh,-ye,h1]
  ·simp[dD,-J,-yb,-y9,y0,GC,h,hp,hs,rb,dh,-ye,h1]
theorem own_ev8 (h:t.kind=8){T:Bool}(hs:BD 28 [.agg (GC t),.agg (GC t.plain)] (.bool T)):BD 49 [.agg (GC t)] (.bool (T&&(decide (0<=t.max)&&decide (t.max<=50)))):=by
 have hp:=nL t;obtain⟨pc,ph⟩:∃pc,GC t.plain=pc:=⟨_,rfl⟩;have dh:pc.all AV.tA=true:=by rw[<- ph];rfl
 rw[ph]at hp hs;have rb:=rG t.kind;refine tD (c:=dD) rfl rfl ?_;simp[BD,GC,h]at hs hp rb;cases T with
 |false=>simp[dD,-J,-yb,-y9,y0,GC,h,hp,hs,rb,dh,-ye]
 |true =>
  by_cases h1:0<=t.max
  ·simp[dD,-J,-yb,-y9,y0,GC,h,hp,hs,rb,dh,-ye,h1]
  ·simp[dD,-J,-yb,-y9,y0,GC,h,hp,hs,rb,dh,-ye,h1]
theorem own_ev9 (h:t.kind=9){T:Bool}(hs:BD 28 [.agg (GC t),.agg (GC t.plain)] (.bool T)):BD 49 [.agg (GC t)] (.bool (T)):=by
 have hp:=nL t;obtain⟨pc,ph⟩:∃pc,GC t.plain=pc:=⟨_,rfl⟩;have dh:pc.all AV.tA=true:=by rw[<- ph];rfl
 rw[ph]at hp hs;have rb:=rG t.kind;refine tD (c:=dD) rfl rfl ?_;simp[BD,GC,h]at hs hp rb;cases T with
 |false=>simp[dD,-J,-yb,-y9,y0,GC,h,hp,hs,rb,dh,-ye]
 |true =>
  simp[dD,-J,-yb,-y9,y0,GC,h,hp,hs,rb,dh,-ye]
theorem own_ev4 (h:t.kind=4){T:Bool}(hs:BD 28 [.agg (GC t),.agg (GC t.plain)] (.bool T)){a b:Bool}(hn:BD 88 [.str t.name] (.bool a))(hy:BD 89 [.sl t.sn (t.wA.map fD)] (.bool b)):BD 49 [.agg (GC t)] (.bool (T&&(a&&b))):=by
 have hp:=nL t;obtain⟨pc,ph⟩:∃pc,GC t.plain=pc:=⟨_,rfl⟩;have dh:pc.all AV.tA=true:=by rw[<- ph];rfl
 rw[ph]at hp hs;have rb:=rG t.kind;refine tD (c:=dD) rfl rfl ?_;simp[BD,GC,h]at hs hp rb;simp only[BD]at hn hy;cases T with
 |false=>simp[dD,-J,-yb,-y9,y0,GC,h,hp,hs,rb,dh,-ye]
 |true =>
  cases a with
  |false=>simp[dD,-J,-yb,-y9,y0,GC,h,hp,hs,rb,dh,-ye,hn]
  |true=>simp[dD,-J,-yb,-y9,y0,GC,h,hp,hs,rb,dh,-ye,hn,hy]
theorem own_ev5 (h:t.kind=5){T:Bool}(hs:BD 28 [.agg (GC t),.agg (GC t.plain)] (.bool T)){a b:Bool}(hn:BD 88 [.str t.name] (.bool a))(hy:BD 90 [.sl t.mn (t.qA.map rD),.bool true] (.bool b)):BD 49 [.agg (GC t)] (.bool (T&&(a&&b))):=by
 have hp:=nL t;obtain⟨pc,ph⟩:∃pc,GC t.plain=pc:=⟨_,rfl⟩;have dh:pc.all AV.tA=true:=by rw[<- ph];rfl
 rw[ph]at hp hs;have rb:=rG t.kind;refine tD (c:=dD) rfl rfl ?_;simp[BD,GC,h]at hs hp rb;simp only[BD]at hn hy;cases T with
 |false=>simp[dD,-J,-yb,-y9,y0,GC,h,hp,hs,rb,dh,-ye]
 |true =>
  cases a with
  |false=>simp[dD,-J,-yb,-y9,y0,GC,h,hp,hs,rb,dh,-ye,hn]
  |true=>simp[dD,-J,-yb,-y9,y0,GC,h,hp,hs,rb,dh,-ye,hn,hy]
theorem own_ev6 (h:t.kind=6){T:Bool}(hs:BD 28 [.agg (GC t),.agg (GC t.plain)] (.bool T)){a b:Bool}(hn:BD 88 [.str t.name] (.bool a))(hy:BD 90 [.sl t.mn (t.qA.map rD),.bool false] (.bool b)):BD 49 [.agg (GC t)] (.bool (T&&(a&&b))):=by
 have hp:=nL t;obtain⟨pc,ph⟩:∃pc,GC t.plain=pc:=⟨_,rfl⟩;have dh:pc.all AV.tA=true:=by rw[<- ph];rfl
 rw[ph]at hp hs;have rb:=rG t.kind;refine tD (c:=dD) rfl rfl ?_;simp[BD,GC,h]at hs hp rb;simp only[BD]at hn hy;cases T with
 |false=>simp[dD,-J,-yb,-y9,y0,GC,h,hp,hs,rb,dh,-ye]
 |true =>
  cases a with
  |false=>simp[dD,-J,-yb,-y9,y0,GC,h,hp,hs,rb,dh,-ye,hn]
  |true=>simp[dD,-J,-yb,-y9,y0,GC,h,hp,hs,rb,dh,-ye,hn,hy]
theorem own_ev0 (h:¬(1<=t.kind/\t.kind<=9)):BD 49 [.agg (GC t)] (.bool false):=by
 refine tD (c:=dD) rfl rfl ?_;by_cases h1:t.kind<1
 ·simp[dD,-J,-yb,-y9,y0,GC,h1]
 ·have h2:9<t.kind:=by omega
  simp[dD,-J,-yb,-y9,y0,GC,h1,h2]
theorem own_ev (ht:t.fine):BD 49 [.agg (GC t)] (.bool (bD t)):=by
 obtain⟨wa,kg,ac⟩:=ht;have hs:=SX t t.plain wa;rw[Tw]at hs;have hn:=I1 t.name;have hsy:=Z8 t.wA kg t.sn;have ic:=fun r=>J8 t.qA ac wa.2.2 t.mn r
 unfold bD EI;rcases kinds t.kind with h|h|h|h|h|h|h|h|h|h
 ·have r:=own_ev1 t h hs;simpa [h]using r
 ·have r:=own_ev2 t h hs;rw[Bool.and_comm]at r;simpa [h]using r
 ·have r:=own_ev3 t h hs;rw[Bool.and_comm]at r;simpa [h]using r
 ·have r:=own_ev4 t h hs hn hsy;rw[Bool.and_comm]at r;simpa [h]using r
 ·have r:=own_ev5 t h hs hn (ic true);rw[Bool.and_comm]at r;simpa [h]using r
 ·have r:=own_ev6 t h hs hn (ic false);rw[Bool.and_comm]at r;simpa [h]using r
 ·have r:=own_ev7 t h hs;rw[Bool.and_comm]at r;simpa [h]using r
 ·have r:=own_ev8 t h hs;rw[Bool.and_comm]at r;simpa [h]using r
 ·have r:=own_ev9 t h hs;simpa [h]using r
 ·have r:=own_ev0 t h;rw[decide_eq_false h];exact r
end
end Go.Proofs.YtpmklcpajcfpjaaGreatDoor
