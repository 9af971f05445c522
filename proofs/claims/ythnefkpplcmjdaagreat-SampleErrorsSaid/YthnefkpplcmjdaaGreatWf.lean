/- A part of the proof. -/
import Derived.Test.YthnefkpplcmjdaaGreatWd
set_option linter.all false
set_option maxRecDepth 100000
set_option maxHeartbeats 8000000
open Option renaming bind_some → J
open List renaming range_succ → y0, map_map → y3, all_eq_true → y6
open Int renaming toNat_lt → y4
namespace Go.Proofs.YthnefkpplcmjdaaGreat
open Go
def BC.plain (t:BC):BC :=
 if t.kind=1 then{ fG with kind:=t.kind }
 else if t.kind=2 then{ fG with kind:=t.kind,low:=t.low,high:=t.high }
 else if t.kind=3 then{ fG with kind:=t.kind,max:=t.max }
 else if t.kind=4 then{ fG with kind:=t.kind,name:=t.name,sn:=t.sn,tA:=t.tA,opn:=t.opn }
 else if t.kind=5 then{ fG with kind:=t.kind,name:=t.name,mn:=t.mn,qA:=t.qA }
 else if t.kind=6 then{ fG with kind:=t.kind,name:=t.name,mn:=t.mn,qA:=t.qA,opn:=t.opn }
 else if t.kind=7 then{ fG with kind:=t.kind,max:=t.max,elem:=t.elem }
 else if t.kind=8 then{ fG with kind:=t.kind,max:=t.max,elem:=t.elem,key:=t.key }
 else{ fG with kind:=t.kind,elem:=t.elem }
theorem Kq (t:BC):t.same t.plain=t.left.same fG:=by
 unfold BC.plain BC.left
 repeat' split
 all_goals simp[BC.same,fG,pT,QE, *]
theorem EL (t:BC):IC 157 [.agg (QC t)] (.agg (QC t.plain)):=by
 refine mC (c:=BJ) rfl rfl ?_;unfold BC.plain;rcases kinds t.kind with h|h|h|h|h|h|h|h|h|h
 case inr.inr.inr.inr.inr.inr.inr.inr.inr =>
  have q:∀n:Int,1<=n->n<=9->¬t.kind=n:=fun n h1 h2 e=>h ⟨by omega,by omega⟩
  simp[BJ,-J,-y4,-y3,y0,QC,q,fG]
 all_goals simp[BJ,-J,-y4,-y3,y0,QC,h,fG]
def BC.named (t:BC):Bool:=decide (t.kind=4)||decide (t.kind=5)||decide (t.kind=6)
theorem rK (k:Int):IC 95 [.int .i64 k] (.bool (decide (k=4)||decide (k=5)||decide (k=6))):=by
 refine mC (c:=xM) rfl rfl ?_;by_cases h1:k=4<;>by_cases h2:k=5<;>by_cases h3:k=6<;>simp[xM,-J,-y4,-y3,y0,h1,h2,h3]
theorem M9 (k:Int):IC 96 [.int .i64 k] (.bool (decide (1<=k/\k<=4))):=by
 refine mC (c:=dK) rfl rfl ?_;by_cases h1:1<=k<;>by_cases h2:k<=4<;>simp[dK,-J,-y4,-y3,y0,h1,h2]
section
variable (t:BC)
include t
theorem Un (h:t.kind=1){T:Bool}(hs:IC 156 [.agg (QC t),.agg (QC t.plain)] (.bool T)):IC 94 [.agg (QC t)] (.bool (T)):=by
 have hp:=EL t;obtain⟨pc,og⟩:∃pc,QC t.plain=pc:=⟨_,rfl⟩;have gf:pc.all AV.iA=true:=by rw[<- og];rfl
 rw[og]at hp hs;have lc:=rK t.kind;refine mC (c:=CC) rfl rfl ?_;simp[IC,QC,h]at hs hp lc;cases T with
 |false=>simp[CC,-J,-y4,-y3,y0,QC,h,hp,hs,lc,gf,-y6]
 |true =>
  simp[CC,-J,-y4,-y3,y0,QC,h,hp,hs,lc,gf,-y6]
theorem Pn (h:t.kind=2){T:Bool}(hs:IC 156 [.agg (QC t),.agg (QC t.plain)] (.bool T)):IC 94 [.agg (QC t)] (.bool (T&&decide (t.low<=t.high))):=by
 have hp:=EL t;obtain⟨pc,og⟩:∃pc,QC t.plain=pc:=⟨_,rfl⟩;have gf:pc.all AV.iA=true:=by rw[<- og];rfl
 rw[og]at hp hs;have lc:=rK t.kind;refine mC (c:=CC) rfl rfl ?_;simp[IC,QC,h]at hs hp lc;cases T with
 |false=>simp[CC,-J,-y4,-y3,y0,QC,h,hp,hs,lc,gf,-y6]
 |true =>
  simp[CC,-J,-y4,-y3,y0,QC,h,hp,hs,lc,gf,-y6]
theorem Sn (h:t.kind=3){T:Bool}(hs:IC 156 [.agg (QC t),.agg (QC t.plain)] (.bool T)):IC 94 [.agg (QC t)] (.bool (T&&(decide (0<=t.max)&&decide (t.max<=200)))):=by
 have hp:=EL t;obtain⟨pc,og⟩:∃pc,QC t.plain=pc:=⟨_,rfl⟩;have gf:pc.all AV.iA=true:=by rw[<- og];rfl
 rw[og]at hp hs;have lc:=rK t.kind;refine mC (c:=CC) rfl rfl ?_;simp[IC,QC,h]at hs hp lc;cases T with
 |false=>simp[CC,-J,-y4,-y3,y0,QC,h,hp,hs,lc,gf,-y6]
 |true =>
  by_cases h1:0<=t.max
  ·simp[CC,-J,-y4,-y3,y0,QC,h,hp,hs,lc,gf,-y6,h1]
  ·simp[CC,-J,-y4,-y3,y0,QC,h,hp,hs,lc,gf,-y6,h1]
theorem Hn (h:t.kind=7){T:Bool}(hs:IC 156 [.agg (QC t),.agg (QC t.plain)] (.bool T)):IC 94 [.agg (QC t)] (.bool (T&&(decide (0<=t.max)&&decide (t.max<=50)))):=by
 have hp:=EL t;obtain⟨pc,og⟩:∃pc,QC t.plain=pc:=⟨_,rfl⟩;have gf:pc.all AV.iA=true:=by rw[<- og];rfl
 rw[og]at hp hs;have lc:=rK t.kind;refine mC (c:=CC) rfl rfl ?_;simp[IC,QC,h]at hs hp lc;cases T with
 |false=>simp[CC,-J,-y4,-y3,y0,QC,h,hp,hs,lc,gf,-y6]
 |true =>
  by_cases h1:0<=t.max
  ·simp[CC,-J,-y4,-y3,y0,QC,h,hp,hs,lc,gf,-y6,h1]
  ·simp[CC,-J,-y4,-y3,y0,QC,h,hp,hs,lc,gf,-y6,h1]
theorem Jn (h:t.kind=8){T:Bool}(hs:IC 156 [.agg (QC t),.agg (QC t.plain)] (.bool T)):IC 94 [.agg (QC t)] (.bool (T&&(decide (0<=t.max)&&decide (t.max<=50)))):=by
 have hp:=EL t;obtain⟨pc,og⟩:∃pc,QC t.plain=pc:=⟨_,rfl⟩;have gf:pc.all AV.iA=true:=by rw[<- og];rfl
 rw[og]at hp hs;have lc:=rK t.kind;refine mC (c:=CC) rfl rfl ?_;simp[IC,QC,h]at hs hp lc;cases T with
 |false=>simp[CC,-J,-y4,-y3,y0,QC,h,hp,hs,lc,gf,-y6]
 |true =>
  by_cases h1:0<=t.max
  ·simp[CC,-J,-y4,-y3,y0,QC,h,hp,hs,lc,gf,-y6,h1]
  ·simp[CC,-J,-y4,-y3,y0,QC,h,hp,hs,lc,gf,-y6,h1]
theorem Ln (h:t.kind=9){T:Bool}(hs:IC 156 [.agg (QC t),.agg (QC t.plain)] (.bool T)):IC 94 [.agg (QC t)] (.bool (T)):=by
 have hp:=EL t;obtain⟨pc,og⟩:∃pc,QC t.plain=pc:=⟨_,rfl⟩;have gf:pc.all AV.iA=true:=by rw[<- og];rfl
 rw[og]at hp hs;have lc:=rK t.kind;refine mC (c:=CC) rfl rfl ?_;simp[IC,QC,h]at hs hp lc;cases T with
 |false=>simp[CC,-J,-y4,-y3,y0,QC,h,hp,hs,lc,gf,-y6]
 |true =>
  simp[CC,-J,-y4,-y3,y0,QC,h,hp,hs,lc,gf,-y6]
theorem Dn (h:t.kind=4){T:Bool}(hs:IC 156 [.agg (QC t),.agg (QC t.plain)] (.bool T)){a b:Bool}(hn:IC 158 [.str t.name] (.bool a))(hy:IC 159 [.sl t.sn (t.tA.map TG)] (.bool b)):IC 94 [.agg (QC t)] (.bool (T&&(a&&b))):=by
 have hp:=EL t;obtain⟨pc,og⟩:∃pc,QC t.plain=pc:=⟨_,rfl⟩;have gf:pc.all AV.iA=true:=by rw[<- og];rfl
 rw[og]at hp hs;have lc:=rK t.kind;refine mC (c:=CC) rfl rfl ?_;simp[IC,QC,h]at hs hp lc;simp only[IC]at hn hy;cases T with
 |false=>simp[CC,-J,-y4,-y3,y0,QC,h,hp,hs,lc,gf,-y6]
 |true =>
  cases a with
  |false=>simp[CC,-J,-y4,-y3,y0,QC,h,hp,hs,lc,gf,-y6,hn]
  |true=>simp[CC,-J,-y4,-y3,y0,QC,h,hp,hs,lc,gf,-y6,hn,hy]
theorem Fn (h:t.kind=5){T:Bool}(hs:IC 156 [.agg (QC t),.agg (QC t.plain)] (.bool T)){a b:Bool}(hn:IC 158 [.str t.name] (.bool a))(hy:IC 160 [.sl t.mn (t.qA.map uD),.bool true] (.bool b)):IC 94 [.agg (QC t)] (.bool (T&&(a&&b))):=by
 have hp:=EL t;obtain⟨pc,og⟩:∃pc,QC t.plain=pc:=⟨_,rfl⟩;have gf:pc.all AV.iA=true:=by rw[<- og];rfl
 rw[og]at hp hs;have lc:=rK t.kind;refine mC (c:=CC) rfl rfl ?_;simp[IC,QC,h]at hs hp lc;simp only[IC]at hn hy;cases T with
 |false=>simp[CC,-J,-y4,-y3,y0,QC,h,hp,hs,lc,gf,-y6]
 |true =>
  cases a with
  |false=>simp[CC,-J,-y4,-y3,y0,QC,h,hp,hs,lc,gf,-y6,hn]
  |true=>simp[CC,-J,-y4,-y3,y0,QC,h,hp,hs,lc,gf,-y6,hn,hy]
theorem Gn (h:t.kind=6){T:Bool}(hs:IC 156 [.agg (QC t),.agg (QC t.plain)] (.bool T)){a b:Bool}(hn:IC 158 [.str t.name] (.bool a))(hy:IC 160 [.sl t.mn (t.qA.map uD),.bool false] (.bool b)):IC 94 [.agg (QC t)] (.bool (T&&(a&&b))):=by
 have hp:=EL t;obtain⟨pc,og⟩:∃pc,QC t.plain=pc:=⟨_,rfl⟩;have gf:pc.all AV.iA=true:=by rw[<- og];rfl
 rw[og]at hp hs;have lc:=rK t.kind;refine mC (c:=CC) rfl rfl ?_;simp[IC,QC,h]at hs hp lc;simp only[IC]at hn hy;cases T with
 |false=>simp[CC,-J,-y4,-y3,y0,QC,h,hp,hs,lc,gf,-y6]
 |true =>
  cases a with
  |false=>simp[CC,-J,-y4,-y3,y0,QC,h,hp,hs,lc,gf,-y6,hn]
  |true=>simp[CC,-J,-y4,-y3,y0,QC,h,hp,hs,lc,gf,-y6,hn,hy]
theorem Tn (h:¬(1<=t.kind/\t.kind<=9)):IC 94 [.agg (QC t)] (.bool false):=by
 refine mC (c:=CC) rfl rfl ?_;by_cases h1:t.kind<1
 ·simp[CC,-J,-y4,-y3,y0,QC,h1]
 ·have h2:9<t.kind:=by omega
  simp[CC,-J,-y4,-y3,y0,QC,h1,h2]
theorem own_ev (ht:t.fine):IC 94 [.agg (QC t)] (.bool (IE t)):=by
 obtain⟨la,je,zl⟩:=ht;have hs:=Ko t t.plain la;rw[Kq]at hs;have hn:=O0 t.name;have ut:=Z8 t.tA je t.sn;have ki:=fun r=>G8 t.qA zl la.2.2 t.mn r
 unfold IE wN;rcases kinds t.kind with h|h|h|h|h|h|h|h|h|h
 ·have r:=Un t h hs;simpa [h]using r
 ·have r:=Pn t h hs;rw[Bool.and_comm]at r;simpa [h]using r
 ·have r:=Sn t h hs;rw[Bool.and_comm]at r;simpa [h]using r
 ·have r:=Dn t h hs hn ut;rw[Bool.and_comm]at r;simpa [h]using r
 ·have r:=Fn t h hs hn (ki true);rw[Bool.and_comm]at r;simpa [h]using r
 ·have r:=Gn t h hs hn (ki false);rw[Bool.and_comm]at r;simpa [h]using r
 ·have r:=Hn t h hs;rw[Bool.and_comm]at r;simpa [h]using r
 ·have r:=Jn t h hs;rw[Bool.and_comm]at r;simpa [h]using r
 ·have r:=Ln t h hs;simpa [h]using r
 ·have r:=Tn t h;rw[decide_eq_false h];exact r
end
end Go.Proofs.YthnefkpplcmjdaaGreat
