/- A part of the proof. -/
import Derived.Test.YthnefkpplcmjdaaGreatWh
set_option linter.all false
set_option maxRecDepth 100000
set_option maxHeartbeats 8000000
open Option renaming bind_some → J
open List renaming range_succ → y0, map_map → y3, getElem?_eq_getElem → y7, getElem_mem → y8, getElem?_map → yb, drop_eq_getElem_cons → yc, drop_eq_nil_of_le → yf, mem_cons → yh, map_cons → yk, map_nil → yq, eq_nil_of_length_eq_zero → yJ, getElem_of_mem → yO, mem_of_getElem? → yQ
open Int renaming toNat_lt → y4
namespace Go.Proofs.YthnefkpplcmjdaaGreat
open Go
section
variable (sn:Bool) (S:List BC) (t:Int) (x:BC) (v:Vl) (f:Int->Vl->Bool) (h0:0<=t) (sa:¬ (S.length:Int)<=t) (g:(S.map QC)[t.toNat]?=some (QC x))
include sn S t x v f h0 sa g
theorem Sc (hk:x.kind=1)(hv:v.kind=1)(hp:IC 221 [.agg (TC v)] (.bool true))(hr:v.rest=[]):IC 161 [MD sn S,.int .i64 t,.agg (TC v),.bool true] (.bool (true)):=by
 have ab:¬t<0:=by omega
 simp only[IC,QC,nC,hk,hv]at hp g;refine mC (c:=GC) rfl rfl ?_;rw[nC];simp only[hr,yq]at hp ⊢;simp[GC,-J,-y4,-y3,y0,ab,sa,h0,g,hp,hk,hv,hr]
theorem Dc (hk:x.kind=2)(hv:v.kind=2)(hp:IC 221 [.agg (TC v)] (.bool true))(hr:v.rest=[]):IC 161 [MD sn S,.int .i64 t,.agg (TC v),.bool true] (.bool (decide (x.low<=v.i)&&decide (v.i<=x.high))):=by
 have ab:¬t<0:=by omega
 simp only[IC,QC,nC,hk,hv]at hp g;refine mC (c:=GC) rfl rfl ?_;rw[nC];simp only[hr,yq]at hp ⊢;by_cases c1:x.low<=v.i
 ·simp[GC,-J,-y4,-y3,y0,ab,sa,h0,g,hp,hk,hv,hr,c1]
 ·simp[GC,-J,-y4,-y3,y0,ab,sa,h0,g,hp,hk,hv,hr,c1]
theorem Fc (hk:x.kind=3)(hv:v.kind=3)(hp:IC 221 [.agg (TC v)] (.bool true))(hr:v.rest=[]):IC 161 [MD sn S,.int .i64 t,.agg (TC v),.bool true] (.bool (decide ((v.s.size:Int)<=x.max))):=by
 have ab:¬t<0:=by omega
 simp only[IC,QC,nC,hk,hv]at hp g;refine mC (c:=GC) rfl rfl ?_;rw[nC];simp only[hr,yq]at hp ⊢;simp[GC,-J,-y4,-y3,y0,ab,sa,h0,g,hp,hk,hv,hr]
theorem Gc (hk:x.kind=4)(hv:v.kind=4)(hp:IC 221 [.agg (TC v)] (.bool true))(hr:v.rest=[])(hs:IC 222 [.agg (QC x),.int .i64 v.id] (X2 x.tA v.id)):IC 161 [MD sn S,.int .i64 t,.agg (TC v),.bool true] (.bool (decide (0<=ZP x.tA v.id))):=by
 have ab:¬t<0:=by omega
 simp only[IC,QC,nC,hk,hv]at hp g;refine mC (c:=GC) rfl rfl ?_;rw[nC];simp only[hr,yq]at hp ⊢;simp only[IC,QC,X2,hk]at hs;generalize ZP x.tA v.id=ix at *
 by_cases c1:0<=ix
 ·simp only[c1,decide_true]at hs;simp[GC,-J,-y4,-y3,y0,ab,sa,h0,g,hp,hk,hv,hr,hs,c1]
 ·simp only [c1,decide_false] at hs;cases ho:x.opn <;> simp only [ho] at hs g
  ·simp[GC,-J,-y4,-y3,y0,ab,sa,h0,g,hp,hk,hv,hr,hs,c1,ho]
  ·simp[GC,-J,-y4,-y3,y0,ab,sa,h0,g,hp,hk,hv,hr,hs,c1,ho]
theorem Kc (hk:x.kind=7)(hv:v.kind=7)(hp:IC 221 [.agg (TC v)] (.bool true))(hr:v.rest=[])(he:IC 225 [MD sn S,.int .i64 x.elem,.sl v.xn (v.items.map TC),.bool true] (.bool (v.items.all (f x.elem)))):IC 161 [MD sn S,.int .i64 t,.agg (TC v),.bool true] (.bool (decide ((v.items.length:Int)<=x.max)&&v.items.all (f x.elem))):=by
 have ab:¬t<0:=by omega
 simp only[IC,QC,nC,hk,hv]at hp g;refine mC (c:=GC) rfl rfl ?_;rw[nC];simp only[hr,yq]at hp ⊢;simp only[IC]at he;generalize v.items.all (f x.elem)=E at *
 by_cases c1:(v.items.length:Int)<=x.max
 ·simp[GC,-J,-y4,-y3,y0,ab,sa,h0,g,hp,hk,hv,hr,c1,he]
 ·simp[GC,-J,-y4,-y3,y0,ab,sa,h0,g,hp,hk,hv,hr,c1]
theorem Zc (hk:x.kind=9)(hv:v.kind=9)(hp:IC 221 [.agg (TC v)] (.bool true))(hr:v.rest=[])(he:IC 225 [MD sn S,.int .i64 x.elem,.sl v.xn (v.items.map TC),.bool true] (.bool (v.items.all (f x.elem)))):IC 161 [MD sn S,.int .i64 t,.agg (TC v),.bool true] (.bool (decide (v.items.length<=1)&&v.items.all (f x.elem))):=by
 have ab:¬t<0:=by omega
 simp only[IC,QC,nC,hk,hv]at hp g;refine mC (c:=GC) rfl rfl ?_;rw[nC];simp only[hr,yq]at hp ⊢;simp only[IC]at he;generalize v.items.all (f x.elem)=E at *
 by_cases c1:v.items.length<=1
 ·have c2:(v.items.length:Int)<=1:=by omega
  simp[GC,-J,-y4,-y3,y0,ab,sa,h0,g,hp,hk,hv,hr,c1,c2,he]
 ·have c2:¬ (v.items.length:Int)<=1:=by omega
  simp[GC,-J,-y4,-y3,y0,ab,sa,h0,g,hp,hk,hv,hr,c1,c2]
end
section
variable (sn:Bool) (S:List BC) (t:Int) (x:BC) (v:Vl) (f:Int->Vl->Bool) (h0:0<=t) (sa:¬ (S.length:Int)<=t) (g:(S.map QC)[t.toNat]?=some (QC x))
include sn S t x v f h0 sa g
theorem Hc (hk:x.kind=5)(hv:v.kind=5)(hp:IC 221 [.agg (TC v)] (.bool true))(hr:v.rest=[])(zl:x.qA.length<=9223372036854775807)(am:IC 224 [.agg (QC x),.sl v.rn []] (.bool true))(hf:∀m∈x.qA,∀u∈v.items,IC 161 [MD sn S,.int .i64 m.ty,.agg (TC u),.bool true] (.bool (f m.ty u))):IC 161 [MD sn S,.int .i64 t,.agg (TC v),.bool true] (.bool (decide (v.items.length=x.qA.length)&&nG f x.qA v.items)):=by
 have ab:¬t<0:=by omega
 simp only[IC,QC,nC,hk,hv]at hp g;refine mC (c:=GC) rfl rfl ?_;rw[nC];simp only[hr,yq]at hp ⊢;simp only[IC,QC,hk]at am;by_cases c1:v.items.length=x.qA.length
 ·skip
  simp[GC,-J,-y4,-y3,y0,ab,sa,h0,g,hp,hk,hv,c1,hr,am];refine ZC v.items.length (fun i s=>(s.env 3).v=.bool true/\(s.env 4).v=.ptr 4 1 0/\s.mem 4 1=some [⟨.sl sn (S.map QC),.no⟩]/\(s.env 6).v=.ptr 6 1 0/\s.mem 6 1=some ([⟨.int .i64 v.kind,.no⟩,⟨.bool v.b,.no⟩,⟨.int .i64 v.i,.no⟩,⟨.str v.s,.no⟩,⟨.int .i64 v.id,.no⟩,⟨.sl v.kn (v.keys.map TC),.no⟩,⟨.sl v.xn (v.items.map TC),.no⟩,⟨.sl v.rn (v.rest.map qN),.no⟩])/\(s.env 9).v=.ptr 9 3 0/\s.mem 9 3=some (ID x)/\(s.env 12).v=.int .i64 i/\nG f (x.qA.drop i) (v.items.drop i)=nG f x.qA v.items)
   (fun e s=>(e=.exit 1/\nG f x.qA v.items=true)\/(e=.ret/\nG f x.qA v.items=false/\(s.env 8).v=.bool false)) (fun i hi s k h ih jc=>?_) _ _ ?_ (fun e s h=>?_)
  ·obtain ⟨e3,e4,m4,e6,m6,e9,m9,zh,hs⟩:=h;refine EC ?_;by_cases sd:i<v.items.length
   ·have ga:(i:Int)<v.items.length:=by omega
    have fa:i<x.qA.length:=by omega
    have g1:(x.qA.map uD)[i]?=some (uD x.qA[i]):=by simp[fa]
    have g2:(v.items.map TC)[i]?=some (TC v.items[i]):=by simp[sd]
    have hw:=cD (i:=i);have hx:=hf x.qA[i] (y8 _) v.items[i] (y8 _);rw[yc fa,yc sd,nG]at hs;generalize x.qA[i]=m at *
    generalize v.items[i]=u at *
    simp only[IC,uD,nC]at g1 g2 hx;cases oh:f m.ty u with
    |true =>
     rw[oh]at hx hs;simp[iL,-J,-y4,-y3,y0,e3,e4,m4,e6,m6,e9,m9,zh,ga,g1,g2,hx,hw];refine ih sd _ ⟨?_,?_,?_,?_,?_,?_,?_,?_,by simpa using hs⟩<;>simp[e3,e4,m4,e6,m6,e9,m9]
    |false =>
     rw[oh]at hx hs;simp[iL,-J,-y4,-y3,y0,e3,e4,m4,e6,m6,e9,m9,zh,ga,g1,g2,hx];exact jc _ _ (.inr ⟨rfl,by rw[<- hs];rfl,by simp⟩)
   ·have ga:¬ (i:Int)<v.items.length:=by omega
    simp[iL,-J,-y4,-y3,y0,e6,m6,zh,ga];have hd:x.qA.drop i=[]:=yf (by omega);rw[hd,nG]at hs
    ·exact jc _ _ (.inl ⟨rfl,hs.symm⟩)
    ·intro m r v' q h;cases h
  ·simp[hk,hv,hr]
  ·rcases h with ⟨rfl,h1⟩ | ⟨rfl,h1,h2⟩
   ·simp[-J,-y4,-y3,y0,h1]
   ·simp[-J,-y4,-y3,y0,h1,h2]
 ·have uf:¬ (v.items.length:Int)=x.qA.length:=by omega
  simp[GC,-J,-y4,-y3,y0,ab,sa,h0,g,hp,hk,hv,hr,c1,uf]
theorem Jc (hk:x.kind=6)(hv:v.kind=6)(hp:IC 221 [.agg (TC v)] (.bool true))(hr:v.rest=[])(hm:IC 214 [.agg (QC x),.int .i64 v.id] (OU x.qA v.id))(hf:∀m∈x.qA,∀u∈v.items,IC 161 [MD sn S,.int .i64 m.ty,.agg (TC u),.bool true] (.bool (f m.ty u))):IC 161 [MD sn S,.int .i64 t,.agg (TC v),.bool true] (.bool (CG f x.qA[(dE x.qA v.id).toNat]? (decide (0<=dE x.qA v.id)) v.rest.isEmpty v.items)):=by
 have ab:¬t<0:=by omega
 simp only[IC,QC,nC,hk,hv]at hp g;refine mC (c:=GC) rfl rfl ?_;rw[nC];simp only[hr,yq]at hp ⊢;simp only[IC,QC,OU,hk]at hm;have xm:=cS (fun m:RE=>decide (m.id=v.id)) x.qA;have fh:=kH (fun m:RE=>decide (m.id=v.id)) x.qA;change dE x.qA v.id≠-1->_ at xm;change -1<=dE x.qA v.id at fh;change ∀h:dE x.qA v.id≠-1,∃y,x.qA[(dE x.qA v.id).toNat]?=some y/\_ at xm;generalize dE x.qA v.id=ix at *
 by_cases c1:0<=ix
 ·simp only [c1,decide_true] at hm;obtain ⟨m,ji,_⟩:=xm (by omega);have bn:max ix 0=ix:=Int.max_eq_left c1;rw [bn] at hm;have g2:(x.qA.map uD)[ix.toNat]?=some (uD m):=by rw [yb,ji]; rfl
  simp only[uD]at g2;rw[ji];by_cases c2:v.items.length=1
  ·obtain⟨u,hu⟩:=List.length_eq_one_iff.1 c2;have hf:=hf m (yQ ji) u (by rw[hu];simp);simp only[IC,nC]at hf;rw[hu]at hp ⊢;simp only[nC,yk,yq]at hp;simp[GC,-J,-y4,-y3,y0,ab,sa,h0,g,hp,hk,hv,hr,hm,g2,c1,hf,nC,CG]
  ·have bo:¬ (v.items.length:Int)=1:=by omega
   rw[lV _ _ _ _ _ c2];simp[GC,-J,-y4,-y3,y0,ab,sa,h0,g,hp,hk,hv,hr,hm,g2,c1,bo]
 ·simp only [c1,decide_false] at hm;rw [decide_eq_false c1,gX];cases ho:x.opn <;> simp only [ho] at hm g
  ·simp[GC,-J,-y4,-y3,y0,ab,sa,h0,g,hp,hk,hv,hr,hm,ho]
  ·simp[GC,-J,-y4,-y3,y0,ab,sa,h0,g,hp,hk,hv,hr,hm,ho]
theorem Lc (hk:x.kind=8)(hv:v.kind=8)(hp:IC 221 [.agg (TC v)] (.bool true))(hr:v.rest=[])(bn:x.max<=50)(bk:∀k∈v.keys,LI k.i)(he:IC 225 [MD sn S,.int .i64 x.elem,.sl v.xn (v.items.map TC),.bool true] (.bool (v.items.all (f x.elem))))(uc:IC 225 [MD sn S,.int .i64 x.key,.sl v.kn (v.keys.map TC),.bool true] (.bool (v.keys.all (f x.key)))):IC 161 [MD sn S,.int .i64 t,.agg (TC v),.bool true] (.bool (decide ((v.keys.length:Int)<=x.max)&&decide (v.items.length=v.keys.length)&&v.keys.all (f x.key)&&eN v.keys&&v.items.all (f x.elem))):=by
 have ab:¬t<0:=by omega
 simp only[IC,QC,nC,hk,hv]at hp g;refine mC (c:=GC) rfl rfl ?_;rw[nC];simp only[hr,yq]at hp ⊢;simp only[IC]at he uc;generalize v.items.all (f x.elem)=E at *
 generalize v.keys.all (f x.key)=KE at *
 by_cases c1:x.max<v.keys.length
 ·have uf:¬ (v.keys.length:Int)<=x.max:=by omega
  simp[GC,-J,-y4,-y3,y0,ab,sa,h0,g,hp,hk,hv,hr,c1,uf]
 have uf:(v.keys.length:Int)<=x.max:=by omega
 have xk:v.keys.length<=50:=by omega
 by_cases c2:v.items.length=v.keys.length
 case neg =>
  have bo:¬(v.items.length:Int)=v.keys.length:=by omega
  simp[GC,-J,-y4,-y3,y0,ab,sa,h0,g,hp,hk,hv,hr,c1,uf,c2,bo]
 cases KE with
 |false=>simp[GC,-J,-y4,-y3,y0,ab,sa,h0,g,hp,hk,hv,hr,c1,uf,c2,uc]
 |true =>
  cases E with
  |false=>simp[GC,-J,-y4,-y3,y0,ab,sa,h0,g,hp,hk,hv,hr,c1,uf,c2,uc,he]
  |true =>
  simp[GC,-J,-y4,-y3,y0,ab,sa,h0,g,hp,hk,hv,hr,c1,uf,c2,uc,he];refine ZC (v.keys.length-1) (fun i s=>(s.env 6).v=.ptr 6 1 0/\s.mem 6 1=some (kF v)/\(s.env 15).v=.int .i64 ((i+1:Nat):Int)/\eN (v.keys.drop i)=eN v.keys)
   (fun e s=>(e=.exit 3/\eN v.keys=true)\/(e=.ret/\eN v.keys=false/\(s.env 8).v=.bool false)) (fun i hi s k h ih jc=>?_) _ _ ?_ (fun e s h=>?_)
  ·obtain ⟨e6,m6,e20,hs⟩:=h;refine EC ?_;by_cases fa:i<v.keys.length - 1
   ·have zm:i<v.keys.length:=by omega
    have oj:i+1<v.keys.length:=by omega
    have hx:=Fk v.keys[i] v.keys[i+1] (bk _ (y8 _)) (bk _ (y8 _));have g1:(v.keys.map TC)[i]?=some (TC v.keys[i]):=by simp[zm]
    have g2:(v.keys.map TC)[i+1]?=some (TC v.keys[i+1]):=by simp[oj]
    rw[yc zm,yc oj,eN]at hs;have uj:(decide (KT v.keys[i] v.keys[i+1]<0)&&eN (v.keys.drop (i+1)))=eN v.keys:=by rw[<- hs,yc oj]
    clear hs;generalize v.keys[i]=a at *
    generalize v.keys[i+1]=b at *
    obtain⟨z,hz⟩:∃z:Int,z=((i+1:Nat):Int):=⟨_,rfl⟩;obtain⟨y,hy⟩:∃y:Int,y=(i:Int):=⟨_,rfl⟩;rw[<- hz]at e20;have jg:0<=z:=by omega
    have tg:0<=y:=by omega
    have ph:z<v.keys.length:=by omega
    have tp:IntKind.i64.wrap (z-1)=y:=by rw[IntWalk.i64_in _ (by omega)];omega
    have zk:IntKind.i64.wrap (z+1)=((i+1+1:Nat):Int):=by rw[IntWalk.i64_in _ (by omega)];omega
    rw[show i=y.toNat from by omega]at g1;rw[show i+1=z.toNat from by omega]at g2;simp only[IC,nC]at g1 g2 hx;by_cases hc:KT a b<0
    ·have ze:¬ 0<=KT a b:=by omega
     simp[uL,-J,-y4,-y3,y0,e6,m6,e20,ph,jg,tg,tp,g1,g2,hx,ze,zk];refine ih fa _ ⟨?_,?_,?_,by rw[<- uj,decide_eq_true hc];rfl⟩<;>simp[e6,m6]
    ·have ze:0<=KT a b:=by omega
     simp[uL,-J,-y4,-y3,y0,e6,m6,e20,ph,jg,tg,tp,g1,g2,hx,ze];exact jc _ _ (.inr ⟨rfl,by rw[<- uj,decide_eq_false hc];rfl,by simp⟩)
   ·obtain ⟨z,hz⟩:∃ z:Int,z=((i + 1:Nat):Int):=⟨_,rfl⟩;rw [<- hz] at e20;have ph:¬ z<v.keys.length:=by omega
    have kq:eN (v.keys.drop i)=true:=by
     match hd:v.keys.drop i with
     | []=>rfl
     | [_]=>rfl
     |a::b::r=>have:=congrArg List.length hd;simp at this;omega
    rw[kq]at hs;simp[uL,-J,-y4,-y3,y0,e6,m6,e20,ph];exact jc _ _ (.inl ⟨rfl,hs.symm⟩)
  ·simp[hv,hr]
  ·rcases h with ⟨rfl,h1⟩ | ⟨rfl,h1,h2⟩
   ·simp[-J,-y4,-y3,y0,h1]
   ·simp[-J,-y4,-y3,y0,h1,h2]
end
section
variable (sn:Bool) (S:List BC) (t:Int) (x:BC) (v:Vl) (f:Int->Vl->Bool) (h0:0<=t) (sa:¬ (S.length:Int)<=t) (g:(S.map QC)[t.toNat]?=some (QC x))
include sn S t x v f h0 sa g
theorem Jf (hk:x.kind=1)(hv:v.kind=1)(hp:IC 106 [.agg (TC v)] (.bool true)):IC 63 [MD sn S,.int .i64 t,.agg (TC v),.bool true] (.bool (true)):=by
 have ab:¬t<0:=by omega
 simp only[IC,QC,nC,hk,hv]at hp g;refine mC (c:=UC) rfl rfl ?_;rw[nC];simp[UC,-J,-y4,-y3,y0,ab,sa,h0,g,hp,hk,hv]
theorem Kf (hk:x.kind=2)(hv:v.kind=2)(hp:IC 106 [.agg (TC v)] (.bool true)):IC 63 [MD sn S,.int .i64 t,.agg (TC v),.bool true] (.bool (decide (x.low<=v.i)&&decide (v.i<=x.high))):=by
 have ab:¬t<0:=by omega
 simp only[IC,QC,nC,hk,hv]at hp g;refine mC (c:=UC) rfl rfl ?_;rw[nC];by_cases c1:x.low<=v.i
 ·simp[UC,-J,-y4,-y3,y0,ab,sa,h0,g,hp,hk,hv,c1]
 ·simp[UC,-J,-y4,-y3,y0,ab,sa,h0,g,hp,hk,hv,c1]
theorem Zf (hk:x.kind=3)(hv:v.kind=3)(hp:IC 106 [.agg (TC v)] (.bool true)):IC 63 [MD sn S,.int .i64 t,.agg (TC v),.bool true] (.bool (decide ((v.s.size:Int)<=x.max))):=by
 have ab:¬t<0:=by omega
 simp only[IC,QC,nC,hk,hv]at hp g;refine mC (c:=UC) rfl rfl ?_;rw[nC];simp[UC,-J,-y4,-y3,y0,ab,sa,h0,g,hp,hk,hv]
theorem Xf (hk:x.kind=4)(hv:v.kind=4)(hp:IC 106 [.agg (TC v)] (.bool true))(hs:IC 107 [.agg (QC x),.int .i64 v.id] (X2 x.tA v.id)):IC 63 [MD sn S,.int .i64 t,.agg (TC v),.bool true] (.bool (decide (0<=ZP x.tA v.id))):=by
 have ab:¬t<0:=by omega
 simp only[IC,QC,nC,hk,hv]at hp g;refine mC (c:=UC) rfl rfl ?_;rw[nC];simp only[IC,QC,X2,hk]at hs;generalize ZP x.tA v.id=ix at *
 by_cases c1:0<=ix
 ·simp only[c1,decide_true]at hs;simp[UC,-J,-y4,-y3,y0,ab,sa,h0,g,hp,hk,hv,hs,c1]
 ·simp only [c1,decide_false] at hs;cases ho:x.opn <;> simp only [ho] at hs g
  ·simp[UC,-J,-y4,-y3,y0,ab,sa,h0,g,hp,hk,hv,hs,c1,ho]
  ·simp[UC,-J,-y4,-y3,y0,ab,sa,h0,g,hp,hk,hv,hs,c1,ho]
theorem Nf (hk:x.kind=7)(hv:v.kind=7)(hp:IC 106 [.agg (TC v)] (.bool true))(he:IC 110 [MD sn S,.int .i64 x.elem,.sl v.xn (v.items.map TC),.bool true] (.bool (v.items.all (f x.elem)))):IC 63 [MD sn S,.int .i64 t,.agg (TC v),.bool true] (.bool (decide ((v.items.length:Int)<=x.max)&&v.items.all (f x.elem))):=by
 have ab:¬t<0:=by omega
 simp only[IC,QC,nC,hk,hv]at hp g;refine mC (c:=UC) rfl rfl ?_;rw[nC];simp only[IC]at he;generalize v.items.all (f x.elem)=E at *
 by_cases c1:(v.items.length:Int)<=x.max
 ·simp[UC,-J,-y4,-y3,y0,ab,sa,h0,g,hp,hk,hv,c1,he]
 ·simp[UC,-J,-y4,-y3,y0,ab,sa,h0,g,hp,hk,hv,c1]
theorem Qg (hk:x.kind=9)(hv:v.kind=9)(hp:IC 106 [.agg (TC v)] (.bool true))(he:IC 110 [MD sn S,.int .i64 x.elem,.sl v.xn (v.items.map TC),.bool true] (.bool (v.items.all (f x.elem)))):IC 63 [MD sn S,.int .i64 t,.agg (TC v),.bool true] (.bool (decide (v.items.length<=1)&&v.items.all (f x.elem))):=by
 have ab:¬t<0:=by omega
 simp only[IC,QC,nC,hk,hv]at hp g;refine mC (c:=UC) rfl rfl ?_;rw[nC];simp only[IC]at he;generalize v.items.all (f x.elem)=E at *
 by_cases c1:v.items.length<=1
 ·have c2:(v.items.length:Int)<=1:=by omega
  simp[UC,-J,-y4,-y3,y0,ab,sa,h0,g,hp,hk,hv,c1,c2,he]
 ·have c2:¬ (v.items.length:Int)<=1:=by omega
  simp[UC,-J,-y4,-y3,y0,ab,sa,h0,g,hp,hk,hv,c1,c2]
end
section
variable (sn:Bool) (S:List BC) (t:Int) (x:BC) (v:Vl) (f:Int->Vl->Bool) (h0:0<=t) (sa:¬ (S.length:Int)<=t) (g:(S.map QC)[t.toNat]?=some (QC x))
include sn S t x v f h0 sa g
theorem Cf (hk:x.kind=5)(hv:v.kind=5)(hp:IC 106 [.agg (TC v)] (.bool true))(zl:x.qA.length<=9223372036854775807)(hf:∀m∈x.qA,∀u∈v.items,IC 63 [MD sn S,.int .i64 m.ty,.agg (TC u),.bool true] (.bool (f m.ty u))):IC 63 [MD sn S,.int .i64 t,.agg (TC v),.bool true] (.bool (decide (v.items.length=x.qA.length)&&v.rest.isEmpty&&nG f x.qA v.items)):=by
 have ab:¬t<0:=by omega
 simp only[IC,QC,nC,hk,hv]at hp g;refine mC (c:=UC) rfl rfl ?_;rw[nC];by_cases c1:v.items.length=x.qA.length
 ·by_cases c2:v.rest=[]
  case neg =>
   have bo:0<v.rest.length:=by
    have:v.rest.length≠0:=fun h=>c2 (yJ h)
    omega
   simp[UC,-J,-y4,-y3,y0,ab,sa,h0,g,hp,hk,hv,c1,c2,bo]
  rw[c2]at hp ⊢;simp only[yq]at hp;simp[UC,-J,-y4,-y3,y0,ab,sa,h0,g,hp,hk,hv,c1,c2];refine EC ?_;simp[rN,-J,-y4,-y3,y0];refine ZC x.qA.length (fun i s=>(s.env 3).v=.bool true/\(s.env 4).v=.ptr 4 1 0/\s.mem 4 1=some [⟨.sl sn (S.map QC),.no⟩]/\(s.env 6).v=.ptr 6 1 0/\s.mem 6 1=some ([⟨.int .i64 5,.no⟩,⟨.bool v.b,.no⟩,⟨.int .i64 v.i,.no⟩,⟨.str v.s,.no⟩,⟨.int .i64 v.id,.no⟩,⟨.sl v.kn (v.keys.map TC),.no⟩,⟨.sl v.xn (v.items.map TC),.no⟩,⟨.sl v.rn [],.no⟩])/\(s.env 150).v=.sl x.mn (x.qA.map uD)/\(s.env 151).v=.int .i64 x.qA.length/\(s.env 152).v=.int .i64 i/\nG f (x.qA.drop i) (v.items.drop i)=nG f x.qA v.items)
   (fun e s=>(e=.exit 3/\nG f x.qA v.items=true)\/(e=.ret/\nG f x.qA v.items=false/\(s.env 8).v=.bool false)) (fun i hi s k h ih jc=>?_) _ _ ?_ (fun e s h=>?_)
  ·obtain ⟨e3,e4,m4,e6,m6,co,gk,io,hs⟩:=h;refine EC ?_;by_cases fa:i<x.qA.length
   ·have ga:(i:Int)<x.qA.length:=by omega
    have sd:i<v.items.length:=by omega
    have g1:(x.qA.map uD)[i]?=some (uD x.qA[i]):=by simp[fa]
    have g2:(v.items.map TC)[i]?=some (TC v.items[i]):=by simp[sd]
    have hw:=cD (i:=i);have hx:=hf x.qA[i] (y8 _) v.items[i] (y8 _);rw[yc fa,yc sd,nG]at hs;generalize x.qA[i]=m at *
    generalize v.items[i]=u at *
    simp only[IC,uD,nC]at g1 g2 hx;cases oh:f m.ty u with
    |true =>
     rw[oh]at hx hs;simp[sH,-J,-y4,-y3,y0,e3,e4,m4,e6,m6,co,gk,io,ga,g1,g2,hx,hw];refine ih fa _ ⟨?_,?_,?_,?_,?_,?_,?_,?_,by simpa using hs⟩<;>simp[e3,e4,m4,e6,m6,co,gk]
    |false =>
     rw[oh]at hx hs;simp[sH,-J,-y4,-y3,y0,e3,e4,m4,e6,m6,co,gk,io,ga,g1,g2,hx];exact jc _ _ (.inr ⟨rfl,by rw[<- hs];rfl,by simp⟩)
   ·have ga:¬ (i:Int)<x.qA.length:=by omega
    simp[sH,-J,-y4,-y3,y0,gk,io,ga];rw[yf (by omega),nG]at hs
    ·exact jc _ _ (.inl ⟨rfl,hs.symm⟩)
    ·intro m r v' q h;cases h
  ·simp[-J,-y4,-y3,y0]
  ·rcases h with ⟨rfl,h1⟩ | ⟨rfl,h1,h2⟩
   ·simp[-J,-y4,-y3,y0,h1]
   ·simp[-J,-y4,-y3,y0,h1,h2]
 ·have uf:¬ (v.items.length:Int)=x.qA.length:=by omega
  simp[UC,-J,-y4,-y3,y0,ab,sa,h0,g,hp,hk,hv,c1,uf]
theorem Bf (hk:x.kind=6)(hv:v.kind=6)(hp:IC 106 [.agg (TC v)] (.bool true))(hm:IC 109 [.agg (QC x),.int .i64 v.id] (OU x.qA v.id))(hf:∀m∈x.qA,∀u∈v.items,IC 63 [MD sn S,.int .i64 m.ty,.agg (TC u),.bool true] (.bool (f m.ty u))):IC 63 [MD sn S,.int .i64 t,.agg (TC v),.bool true] (.bool (CG f x.qA[(dE x.qA v.id).toNat]? (decide (0<=dE x.qA v.id)) v.rest.isEmpty v.items)):=by
 have ab:¬t<0:=by omega
 simp only[IC,QC,nC,hk,hv]at hp g;refine mC (c:=UC) rfl rfl ?_;rw[nC];simp only[IC,QC,OU,hk]at hm;have xm:=cS (fun m:RE=>decide (m.id=v.id)) x.qA;have fh:=kH (fun m:RE=>decide (m.id=v.id)) x.qA;change dE x.qA v.id≠-1->_ at xm;change -1<=dE x.qA v.id at fh;change ∀h:dE x.qA v.id≠-1,∃y,x.qA[(dE x.qA v.id).toNat]?=some y/\_ at xm;generalize dE x.qA v.id=ix at *
 by_cases c1:0<=ix
 ·simp only [c1,decide_true] at hm;obtain ⟨m,ji,_⟩:=xm (by omega);have bn:max ix 0=ix:=Int.max_eq_left c1;rw [bn] at hm;have g2:(x.qA.map uD)[ix.toNat]?=some (uD m):=by rw [yb,ji]; rfl
  simp only[uD]at g2;rw[ji];by_cases c2:v.items.length=1
  ·obtain ⟨u,hu⟩:=List.length_eq_one_iff.1 c2;have hf:=hf m (yQ ji) u (by rw [hu]; simp);simp only [IC,nC] at hf;rw [hu] at hp ⊢;simp only [nC,yk,yq] at hp;by_cases c3:v.rest=[]
   ·rw[c3]at hp ⊢;simp only[yq]at hp;simp[UC,-J,-y4,-y3,y0,ab,sa,h0,g,hp,hk,hv,hm,g2,c1,hf,nC,CG]
   ·simp[UC,-J,-y4,-y3,y0,ab,sa,h0,g,hp,hk,hv,hm,g2,c1,c3,nC,CG]
  ·have bo:¬ (v.items.length:Int)=1:=by omega
   rw[lV _ _ _ _ _ c2];simp[UC,-J,-y4,-y3,y0,ab,sa,h0,g,hp,hk,hv,hm,g2,c1,bo]
 ·simp only [c1,decide_false] at hm;rw [decide_eq_false c1,gX];cases ho:x.opn <;> simp only [ho] at hm g
  ·simp[UC,-J,-y4,-y3,y0,ab,sa,h0,g,hp,hk,hv,hm,ho]
  ·simp[UC,-J,-y4,-y3,y0,ab,sa,h0,g,hp,hk,hv,hm,ho]
theorem Mf (hk:x.kind=8)(hv:v.kind=8)(hp:IC 106 [.agg (TC v)] (.bool true))(hr:v.rest=[])(bn:x.max<=50)(bk:∀k∈v.keys,LI k.i)(he:IC 110 [MD sn S,.int .i64 x.elem,.sl v.xn (v.items.map TC),.bool true] (.bool (v.items.all (f x.elem))))(uc:IC 110 [MD sn S,.int .i64 x.key,.sl v.kn (v.keys.map TC),.bool true] (.bool (v.keys.all (f x.key)))):IC 63 [MD sn S,.int .i64 t,.agg (TC v),.bool true] (.bool (decide ((v.keys.length:Int)<=x.max)&&decide (v.items.length=v.keys.length)&&v.keys.all (f x.key)&&eN v.keys&&v.items.all (f x.elem))):=by
 have ab:¬t<0:=by omega
 simp only[IC,QC,nC,hk,hv]at hp g;refine mC (c:=UC) rfl rfl ?_;rw[nC];simp only[hr,yq]at hp ⊢;simp only[IC]at he uc;generalize v.items.all (f x.elem)=E at *
 generalize v.keys.all (f x.key)=KE at *
 by_cases c1:x.max<v.keys.length
 ·have uf:¬ (v.keys.length:Int)<=x.max:=by omega
  simp[UC,-J,-y4,-y3,y0,ab,sa,h0,g,hp,hk,hv,hr,c1,uf]
 have uf:(v.keys.length:Int)<=x.max:=by omega
 have xk:v.keys.length<=50:=by omega
 by_cases c2:v.items.length=v.keys.length
 case neg =>
  have bo:¬(v.items.length:Int)=v.keys.length:=by omega
  simp[UC,-J,-y4,-y3,y0,ab,sa,h0,g,hp,hk,hv,hr,c1,uf,c2,bo]
 cases KE with
 |false=>simp[UC,-J,-y4,-y3,y0,ab,sa,h0,g,hp,hk,hv,hr,c1,uf,c2,uc]
 |true =>
  simp[UC,-J,-y4,-y3,y0,ab,sa,h0,g,hp,hk,hv,hr,c1,uf,c2,uc];refine ZC (v.keys.length-1) (fun i s=>(s.env 3).v=.bool true/\(s.env 4).v=.ptr 4 1 0/\s.mem 4 1=some [⟨.sl sn (S.map QC),.no⟩]/\(s.env 9).v=.ptr 9 3 0/\s.mem 9 3=some (ID x)/\(s.env 6).v=.ptr 6 1 0/\s.mem 6 1=some (kF v)/\(s.env 20).v=.int .i64 ((i+1:Nat):Int)/\eN (v.keys.drop i)=eN v.keys)
   (fun e s=>(e=.exit 5/\eN v.keys=true/\(s.env 3).v=.bool true/\(s.env 4).v=.ptr 4 1 0/\s.mem 4 1=some [⟨.sl sn (S.map QC),.no⟩]/\(s.env 9).v=.ptr 9 3 0/\s.mem 9 3=some (ID x)/\(s.env 6).v=.ptr 6 1 0/\s.mem 6 1=some (kF v))\/(e=.ret/\eN v.keys=false/\(s.env 8).v=.bool false)) (fun i hi s k h ih jc=>?_) _ _ ?_ (fun e s h=>?_)
  ·obtain ⟨e3,e4,m4,e9,m9,e6,m6,e20,hs⟩:=h;refine EC ?_;by_cases fa:i<v.keys.length - 1
   ·have zm:i<v.keys.length:=by omega
    have oj:i+1<v.keys.length:=by omega
    have hx:=Oy v.keys[i] v.keys[i+1] (bk _ (y8 _)) (bk _ (y8 _));have g1:(v.keys.map TC)[i]?=some (TC v.keys[i]):=by simp[zm]
    have g2:(v.keys.map TC)[i+1]?=some (TC v.keys[i+1]):=by simp[oj]
    rw[yc zm,yc oj,eN]at hs;have uj:(decide (KT v.keys[i] v.keys[i+1]<0)&&eN (v.keys.drop (i+1)))=eN v.keys:=by rw[<- hs,yc oj]
    clear hs;generalize v.keys[i]=a at *
    generalize v.keys[i+1]=b at *
    obtain⟨z,hz⟩:∃z:Int,z=((i+1:Nat):Int):=⟨_,rfl⟩;obtain⟨y,hy⟩:∃y:Int,y=(i:Int):=⟨_,rfl⟩;rw[<- hz]at e20;have jg:0<=z:=by omega
    have tg:0<=y:=by omega
    have ph:z<v.keys.length:=by omega
    have tp:IntKind.i64.wrap (z-1)=y:=by rw[IntWalk.i64_in _ (by omega)];omega
    have zk:IntKind.i64.wrap (z+1)=((i+1+1:Nat):Int):=by rw[IntWalk.i64_in _ (by omega)];omega
    rw[show i=y.toNat from by omega]at g1;rw[show i+1=z.toNat from by omega]at g2;simp only[IC,nC]at g1 g2 hx;by_cases hc:KT a b<0
    ·have ze:¬ 0<=KT a b:=by omega
     simp[aH,-J,-y4,-y3,y0,e6,m6,e20,ph,jg,tg,tp,g1,g2,hx,ze,zk];refine ih fa _ ⟨?_,?_,?_,?_,?_,?_,?_,?_,by rw[<- uj,decide_eq_true hc];rfl⟩<;>simp[e6,m6,e3,e4,m4,e9,m9]
    ·have ze:0<=KT a b:=by omega
     simp[aH,-J,-y4,-y3,y0,e6,m6,e20,ph,jg,tg,tp,g1,g2,hx,ze];exact jc _ _ (.inr ⟨rfl,by rw[<- uj,decide_eq_false hc];rfl,by simp⟩)
   ·obtain ⟨z,hz⟩:∃ z:Int,z=((i + 1:Nat):Int):=⟨_,rfl⟩;rw [<- hz] at e20;have ph:¬ z<v.keys.length:=by omega
    have kq:eN (v.keys.drop i)=true:=by
     match hd:v.keys.drop i with
     | []=>rfl
     | [_]=>rfl
     |a::b::r=>have:=congrArg List.length hd;simp at this;omega
    rw[kq]at hs;simp[aH,-J,-y4,-y3,y0,e6,m6,e20,ph];exact jc _ _ (.inl ⟨rfl,hs.symm,by simp[e3],by simp[e4],by simp[m4],by simp[e9],by simp[m9],by simp[e6],by simp[m6]⟩)
  ·simp[hk,hv,hr]
  ·rcases h with ⟨rfl,h1,e3,e4,m4,e9,m9,e6,m6⟩ | ⟨rfl,h1,h2⟩
   ·simp[-J,-y4,-y3,y0,h1,e3,e4,m4,e9,m9,e6,m6,he,hk]
   ·simp[-J,-y4,-y3,y0,h1,h2]
end
def NQ (S:List BC):Prop:=∀x∈S,IE x=true/\x.fine
theorem cU {x:BC}(h:IE x=true)(hk:x.kind=8):x.max<=50:=by
 unfold IE wN at h;simp[hk]at h;omega
theorem Ek (f:Int->Vl->Bool)(x:BC)(v:Vl)(hk:v.kind=x.kind)(hz:WF v=true)(hr:v.rest≠[]):aO f x v=false:=by
 have am:v.rest.isEmpty=false:=by simpa using hr
 by_cases h5:x.kind=5
 ·simp[aO,h5,am]
 ·by_cases h6:x.kind=6
  ·simp[aO,h6,am,f9]
  ·simp[WF,hk,h5,h6,hr]at hz
section
variable (sn:Bool) (S:List BC)
include sn S
theorem Wg (t:Int)(v:Vl)(h:mD S.length t=true):IC 63 [MD sn S,.int .i64 t,.agg (TC v),.bool true] (.bool false):=by
 refine mC (c:=UC) rfl rfl ?_;rw[nC];by_cases h0:t<0
 ·simp[UC,-J,-y4,-y3,y0,h0]
 ·have h1:(S.length:Int)<=t:=by simpa [mD,h0] using h
  simp[UC,-J,-y4,-y3,y0,h0,h1]
theorem U7 (t:Int)(x:BC)(v:Vl)(h0:0<=t)(sa:¬(S.length:Int)<=t)(g:(S.map QC)[t.toNat]?=some (QC x))(hk:¬v.kind=x.kind):IC 63 [MD sn S,.int .i64 t,.agg (TC v),.bool true] (.bool false):=by
 have ab:¬t<0:=by omega
 simp only[QC]at g;refine mC (c:=UC) rfl rfl ?_;rw[nC];simp[UC,-J,-y4,-y3,y0,ab,sa,h0,g,hk]
theorem Eg (t:Int)(x:BC)(v:Vl)(h0:0<=t)(sa:¬(S.length:Int)<=t)(g:(S.map QC)[t.toNat]?=some (QC x))(hk:v.kind=x.kind)(hp:IC 106 [.agg (TC v)] (.bool false)):IC 63 [MD sn S,.int .i64 t,.agg (TC v),.bool true] (.bool false):=by
 have ab:¬t<0:=by omega
 simp only[IC,QC,nC,hk]at hp g;refine mC (c:=UC) rfl rfl ?_;rw[nC];simp[UC,-J,-y4,-y3,y0,ab,sa,h0,g,hp,hk]
theorem Mc (hS:NQ S):∀(n:Nat)(t:Int)(v:Vl),SizeOf.sizeOf v<n->v.ok->v.i64->IC 63 [MD sn S,.int .i64 t,.agg (TC v),.bool true] (.bool (EF S n t v)):=by
 intro n
 induction n with
 |zero=>intro t v h;omega
 |succ n ih =>
  intro t v hn la ub;rw[EF];cases ho:mD S.length t with
  |true=>exact Wg sn S t v ho
  |false =>
   obtain⟨h0,sa⟩:0<=t/\¬(S.length:Int)<=t:=by
    simp[mD]at ho;omega
   have fa:t.toNat<S.length:=by omega
   have gc:S[t.toNat]∈S:=y8 _;have g:(S.map QC)[t.toNat]?=some (QC S[t.toNat]):=by rw[yb,y7 fa];rfl
   rw[y7 fa];generalize S[t.toNat]=x at *
   obtain⟨dh,gj⟩:=hS x gc;have wl:=dH dh;simp only[Bool.not_false,Bool.true_and];by_cases hk:v.kind=x.kind
   case neg=>rw[decide_eq_false hk];exact U7 sn S t x v h0 sa g hk
   rw[decide_eq_true hk];simp only[Bool.true_and];have hp:=d4 v (by rw[hk];exact wl);cases hz:WF v with
   |false=>rw[hz]at hp;exact Eg sn S t x v h0 sa g hk hp
   |true =>
    rw[hz]at hp;simp only[Bool.true_and];rw[Vl.NA]at la;rw[Vl.KA]at ub;obtain⟨o1,o2,o3,o4,o5,o6⟩:=la;obtain⟨j1,j2,j3⟩:=ub;have kf:∀u∈v.items,∀t',IC 63 [MD sn S,.int .i64 t',.agg (TC u),.bool true] (.bool (EF S n t' u)):=fun u hu t'=>ih t' u (by have:=Vl.jA v u hu;omega) (o6 u hu) (j3 u hu)
    have uc:∀u∈v.keys,∀t',IC 63 [MD sn S,.int .i64 t',.agg (TC u),.bool true] (.bool (EF S n t' u)):=fun u hu t'=>ih t' u (by have:=Vl.xA v u hu;omega) (o5 u hu) (j2 u hu)
    have ec:x.qA.length<=9223372036854775807:=gj.1.2.1;have sk:x.tA.length<=9223372036854775807:=gj.1.1;unfold aO;have hv:=hk;rcases kinds x.kind with e|e|e|e|e|e|e|e|e|e
    all_goals try rw[e]at hv
    ·have r:=Jf sn S t x v (EF S n) h0 sa g e hv hp;simpa [e]using r
    ·have r:=Kf sn S t x v (EF S n) h0 sa g e hv hp;simpa [e]using r
    ·have r:=Zf sn S t x v (EF S n) h0 sa g e hv hp;simpa [e]using r
    ·have r:=Xf sn S t x v (EF S n) h0 sa g e hv hp (Ol x v.id sk);simpa [e]using r
    ·have r:=Cf sn S t x v (EF S n) h0 sa g e hv hp ec (fun m _ u hu=>kf u hu m.ty);simpa [e]using r
    ·have r:=Bf sn S t x v (EF S n) h0 sa g e hv hp (Pq x v.id ec) (fun m _ u hu=>kf u hu m.ty);simpa [e]using r
    ·have r:=Nf sn S t x v (EF S n) h0 sa g e hv hp (tY sn S x.elem (EF S n x.elem) v.items o2 v.xn fun u hu=>kf u hu x.elem);simpa [e]using r
    ·have r:=Mf sn S t x v (EF S n) h0 sa g e hv hp (by simp[WF,hv]at hz;simp[hz]) (cU dh e) (fun u hu=>((Vl.KA u).1 (j2 u hu)).1) (tY sn S x.elem (EF S n x.elem) v.items o2 v.xn fun u hu=>kf u hu x.elem) (tY sn S x.key (EF S n x.key) v.keys o1 v.kn fun u hu=>uc u hu x.key);simpa [e]using r
    ·have r:=Qg sn S t x v (EF S n) h0 sa g e hv hp (tY sn S x.elem (EF S n x.elem) v.items o2 v.xn fun u hu=>kf u hu x.elem);simpa [e]using r
    ·exact absurd wl e
end
theorem Gk (v:Vl)(h:1<=v.kind/\v.kind<=9):IC 221 [.agg (TC v)] (.bool (WF v)):=by
 rcases kinds v.kind with e|e|e|e|e|e|e|e|e|e
 ·exact Xo v e
 ·exact Co v e
 ·exact Bo v e
 ·exact Mo v e
 ·exact Qp v e
 ·exact Wp v e
 ·exact Ep v e
 ·exact Rp v e
 ·exact Tp v e
 ·exact absurd h e
theorem Wm (x:BC)(b:Bool):IC 224 [.agg (QC x),.sl b []] (.bool true):=by
 refine mC (c:=cN) rfl rfl ?_;simp[cN,-J,-y4,-y3,y0,QC];refine ZC 0 (fun i s=>(s.env 1).v=.sl b []/\(s.env 5).v=.int .i64 0) (fun e s=>e=.exit 0) (fun i hi s k h ih hk=>?_) _ _ ?_ (fun e s h=>?_)
 ·obtain⟨e1,e5⟩:=h;refine EC ?_;simp[LQ,-J,-y4,-y3,y0,e1,e5];exact hk _ _ rfl
 ·simp
 ·subst h;simp[-J,-y4,-y3,y0]
section
variable (sn:Bool) (S:List BC) (t:Int)
include sn S t
theorem Bc (x:BC)(v:Vl)(h0:0<=t)(sa:¬(S.length:Int)<=t)(g:(S.map QC)[t.toNat]?=some (QC x))(hk:v.kind=x.kind)(hp:IC 221 [.agg (TC v)] (.bool true))(hr:v.rest≠[]):IC 161 [MD sn S,.int .i64 t,.agg (TC v),.bool true] (.bool false):=by
 have ab:¬t<0:=by omega
 have mi:0<v.rest.length:=by
  have:v.rest.length≠0:=fun h=>hr (yJ h)
  omega
 simp only[IC,QC,nC,hk]at hp g;refine mC (c:=GC) rfl rfl ?_;rw[nC];simp[GC,-J,-y4,-y3,y0,ab,sa,h0,g,hp,hk,hr,mi]
theorem Cc (v:Vl)(h:mD S.length t=true):IC 161 [MD sn S,.int .i64 t,.agg (TC v),.bool true] (.bool false):=by
 refine mC (c:=GC) rfl rfl ?_;rw[nC];by_cases h0:t<0
 ·simp[GC,-J,-y4,-y3,y0,h0]
 ·have h1:(S.length:Int)<=t:=by simpa [mD,h0] using h
  simp[GC,-J,-y4,-y3,y0,h0,h1]
theorem Xc (x:BC)(v:Vl)(h0:0<=t)(sa:¬(S.length:Int)<=t)(g:(S.map QC)[t.toNat]?=some (QC x))(hk:¬v.kind=x.kind):IC 161 [MD sn S,.int .i64 t,.agg (TC v),.bool true] (.bool false):=by
 have ab:¬t<0:=by omega
 simp only[QC]at g;refine mC (c:=GC) rfl rfl ?_;rw[nC];simp[GC,-J,-y4,-y3,y0,ab,sa,h0,g,hk]
theorem Nc (x:BC)(v:Vl)(h0:0<=t)(sa:¬(S.length:Int)<=t)(g:(S.map QC)[t.toNat]?=some (QC x))(hk:v.kind=x.kind)(hp:IC 221 [.agg (TC v)] (.bool false)):IC 161 [MD sn S,.int .i64 t,.agg (TC v),.bool true] (.bool false):=by
 have ab:¬t<0:=by omega
 simp only[IC,QC,nC,hk]at hp g;refine mC (c:=GC) rfl rfl ?_;rw[nC];simp[GC,-J,-y4,-y3,y0,ab,sa,h0,g,hp,hk]
end
theorem fit_ev (sn:Bool)(S:List BC)(hS:NQ S):∀(n:Nat)(t:Int)(v:Vl),SizeOf.sizeOf v<n->v.ok->v.i64->IC 161 [MD sn S,.int .i64 t,.agg (TC v),.bool true] (.bool (EF S n t v)):=by
 intro n
 induction n with
 |zero=>intro t v h;omega
 |succ n ih =>
  intro t v hn la ub;rw[EF];cases ho:mD S.length t with
  |true=>exact Cc sn S t v ho
  |false =>
   obtain⟨h0,sa⟩:0<=t/\¬(S.length:Int)<=t:=by
    simp[mD]at ho;omega
   have fa:t.toNat<S.length:=by omega
   have gc:S[t.toNat]∈S:=y8 _;have g:(S.map QC)[t.toNat]?=some (QC S[t.toNat]):=by rw[yb,y7 fa];rfl
   rw[y7 fa];generalize S[t.toNat]=x at *
   obtain⟨dh,gj⟩:=hS x gc;have wl:=dH dh;simp only[Bool.not_false,Bool.true_and];by_cases hk:v.kind=x.kind
   case neg=>rw[decide_eq_false hk];exact Xc sn S t x v h0 sa g hk
   rw[decide_eq_true hk];simp only[Bool.true_and];have hp:=Gk v (by rw[hk];exact wl);cases hz:WF v with
   |false=>rw[hz]at hp;exact Nc sn S t x v h0 sa g hk hp
   |true =>
    rw[hz]at hp;simp only[Bool.true_and];rw[Vl.NA]at la;rw[Vl.KA]at ub;obtain⟨o1,o2,o3,o4,o5,o6⟩:=la;obtain⟨j1,j2,j3⟩:=ub;have kf:∀u∈v.items,∀t',IC 161 [MD sn S,.int .i64 t',.agg (TC u),.bool true] (.bool (EF S n t' u)):=fun u hu t'=>ih t' u (by have:=Vl.jA v u hu;omega) (o6 u hu) (j3 u hu)
    have uc:∀u∈v.keys,∀t',IC 161 [MD sn S,.int .i64 t',.agg (TC u),.bool true] (.bool (EF S n t' u)):=fun u hu t'=>ih t' u (by have:=Vl.xA v u hu;omega) (o5 u hu) (j2 u hu)
    have ec:x.qA.length<=9223372036854775807:=gj.1.2.1;have sk:x.tA.length<=9223372036854775807:=gj.1.1;by_cases hr:v.rest=[]
    case neg=>rw[Ek _ x v hk hz hr];exact Bc sn S t x v h0 sa g hk hp hr
    unfold aO;have hv:=hk;rcases kinds x.kind with e|e|e|e|e|e|e|e|e|e
    all_goals try rw[e]at hv
    ·have r:=Sc sn S t x v (EF S n) h0 sa g e hv hp hr;simpa [e]using r
    ·have r:=Dc sn S t x v (EF S n) h0 sa g e hv hp hr;simpa [e]using r
    ·have r:=Fc sn S t x v (EF S n) h0 sa g e hv hp hr;simpa [e]using r
    ·have r:=Gc sn S t x v (EF S n) h0 sa g e hv hp hr (Tm x v.id sk);simpa [e]using r
    ·have r:=Hc sn S t x v (EF S n) h0 sa g e hv hp hr ec (Wm x v.rn) (fun m _ u hu=>kf u hu m.ty);simpa [e,hr]using r
    ·have r:=Jc sn S t x v (EF S n) h0 sa g e hv hp hr (a6 x v.id ec) (fun m _ u hu=>kf u hu m.ty);simpa [e]using r
    ·have r:=Kc sn S t x v (EF S n) h0 sa g e hv hp hr (r5 sn S x.elem (EF S n x.elem) v.items o2 v.xn fun u hu=>kf u hu x.elem);simpa [e]using r
    ·have r:=Lc sn S t x v (EF S n) h0 sa g e hv hp hr (cU dh e) (fun u hu=>((Vl.KA u).1 (j2 u hu)).1) (r5 sn S x.elem (EF S n x.elem) v.items o2 v.xn fun u hu=>kf u hu x.elem) (r5 sn S x.key (EF S n x.key) v.keys o1 v.kn fun u hu=>uc u hu x.key);simpa [e]using r
    ·have r:=Zc sn S t x v (EF S n) h0 sa g e hv hp hr (r5 sn S x.elem (EF S n x.elem) v.items o2 v.xn fun u hu=>kf u hu x.elem);simpa [e]using r
    ·exact absurd wl e
noncomputable def tH (S:List BC)(t:Int)(v:Vl):Bool:=EF S (SizeOf.sizeOf v+1) t v
theorem Cn (sn:Bool)(S:List BC)(hS:NQ S)(t:Int)(v:Vl)(la:v.ok)(ub:v.i64):IC 27 [MD sn S,.int .i64 t,.agg (TC v)] (.bool (tH S t v)):=by
 have h:=Mc sn S hS (SizeOf.sizeOf v+1) t v (by omega) la ub;simp only[IC,nC]at h ⊢;refine mC (c:=EI) rfl rfl ?_;unfold tH;simp[EI,-J,-y4,-y3,y0,h]
theorem Ok (sn:Bool)(S:List BC)(hS:NQ S)(t:Int)(v:Vl)(la:v.ok)(ub:v.i64):IC 97 [MD sn S,.int .i64 t,.agg (TC v)] (.bool (tH S t v)):=by
 have h:=fit_ev sn S hS (SizeOf.sizeOf v+1) t v (by omega) la ub;simp only[IC,nC]at h ⊢;refine mC (c:=cM) rfl rfl ?_;unfold tH;simp[cM,-J,-y4,-y3,y0,h]
theorem jX {l:List BC}:∀n i,i+n=l.length->bF l n i=0->∀j,i<=j->(h:j<l.length)->mF l j l[j]=0
 |0,i,hi,_,j,hj,h=>by omega
 |n+1,i,hi,h0,j,hj,h=>by
  have fa:i<l.length:=by omega
  rw[bF,y7 fa]at h0;simp only at h0;by_cases he:mF l i l[i]=0
  ·rw [if_pos he] at h0;rcases Nat.lt_or_eq_of_le hj with h1 | h1
   ·exact jX n (i+1) (by omega) h0 j h1 h
   ·subst h1;exact he
  ·rw[if_neg he]at h0;exact absurd h0 he
theorem EP {l:List BC}{i:Nat}{t:BC}(h:mF l i t=0):IE t=true/\t.zA.any (mD l.length)=false:=by
 unfold mF at h;by_cases h1:IE t=false
 ·rw[if_pos h1]at h;cases h
 ·rw [if_neg h1] at h;refine ⟨by simpa using h1,?_⟩;by_cases h2:t.named=true/\t.name∈(l.take i).map BC.name
  ·rw[if_pos h2]at h;cases h
  ·rw [if_neg h2] at h;by_cases h3:t.zA.any (mD l.length)=true
   ·rw[if_pos h3]at h;cases h
   ·simpa using h3
theorem HN {l:List BC}(h:mH l=0)(j:Nat)(hj:j<l.length):mF l j l[j]=0:=by
 unfold mH at h;by_cases pm:32<l.length
 ·rw[if_pos pm]at h;cases h
 ·rw[if_neg pm]at h;exact jX l.length 0 (by omega) h j (by omega) hj
theorem SQ {s:dR}(hs:s.fine)(h:mH s.types=0):NQ s.types:=fun x hx=>by
 obtain⟨j,hj,rfl⟩:=yO hx;exact⟨(EP (HN h j hj)).1,hs.2 _ hx⟩
noncomputable def EO (S:List BC)(m:RE):Bool:=m.has&&!tH S m.ty m.dflt
noncomputable def lL (S:List BC)(t:BC):Option Int:=(t.qA.find? (EO S)).map RE.id
noncomputable def xG (S:List BC):Nat->Nat->Option (Nat×Int)
 |0,_=>none
 |n+1,i=>match S[i]? with
  |some t=>(match lL S t with
   |some d=>some (i,d)
   |none=>xG S n (i+1))
  |none=>none
def b7:Option (Nat×Int)->AV
 |some (i,d)=>.sA [.int .i64 i,.int .i64 d,.int .i64 1]
 |none=>.sA [.int .i64 0,.int .i64 0,.int .i64 0]
noncomputable def OV (S:List BC):AV:=if mH S=0 then b7 (xG S S.length 0)else .sA [.int .i64 0,.int .i64 0,.int .i64 (mH S)]
def BC.JB (t:BC):Prop:=∀m∈t.qA,m.dflt.i64
def dR.JB (s:dR):Prop:=∀t∈s.types,t.JB
theorem TY {S:List BC}{i:Nat}(h:i<S.length):xG S (S.length-i) i=match lL S S[i]with
  |some d=>some (i,d)
  |none=>xG S (S.length-(i+1)) (i+1):=by
 rw[show S.length-i=(S.length-(i+1))+1 from by omega,xG,y7 h]
theorem dlp (sn:Bool)(S:List BC)(hS:NQ S)(t:BC)(ht:t.fine)(ub:t.JB)(b:Bool)(i:Nat)(r:RV)(P:OC->Prop)(hP:∀s s':OC,(∀t n,t≠9->s'.mem t n=s.mem t n)->(∀t,t ∉ [2,3,4,9,27,28,29,30,31,32,33,34,35,36,37,38,39,40,41,42,43,44,26]->s'.env t=s.env t)->P s->P s')(k:Ex->OC->Option RV)
  (hk:∀s',lL S t=none->P s'->k (.exit 2) s'=some r) (hr:∀(s':OC) d,lL S t=some d->(s'.env 2).v=.int .i64 i->(s'.env 3).v=.int .i64 d->(s'.env 4).v=.int .i64 1->k .ret s'=some r)
  (s:OC) (hs:P s) (h1:(s.env 1).v=.ptr 1 1 0) (m1:s.mem 1 1=some [⟨.sl sn (S.map QC),.no⟩]) (h6:(s.env 6).v=.int .i64 i) (h24:(s.env 24).v=.sl b (t.qA.map uD)) (h25:(s.env 25).v=.int .i64 t.qA.length) (eu:(s.env 26).v=.int .i64 0):OL dD PC BE s k=some r:=by
 refine ZC t.qA.length (fun j s=>P s/\(s.env 1).v=.ptr 1 1 0/\s.mem 1 1=some [⟨.sl sn (S.map QC),.no⟩]/\(s.env 6).v=.int .i64 i/\(s.env 24).v=.sl b (t.qA.map uD)/\(s.env 25).v=.int .i64 t.qA.length/\(s.env 26).v=.int .i64 j/\(t.qA.drop j).find? (EO S)=t.qA.find? (EO S))
  (fun e s=>(e=.exit 2/\lL S t=none/\P s)\/(e=.ret/\∃d,lL S t=some d/\(s.env 2).v=.int .i64 i/\(s.env 3).v=.int .i64 d/\(s.env 4).v=.int .i64 1)) (fun j hj s k h ih hk=>?_) _ _ ?_ (fun e s h=>?_)
 ·obtain ⟨hp,e1,m1,e6,e24,rz,e26,hs⟩:=h;refine EC ?_;by_cases fa:j<t.qA.length
  ·have ga:(j:Int)<t.qA.length:=by omega
   have g1:(t.qA.map uD)[j]?=some (uD t.qA[j]):=by simp[fa]
   have hw:=cD (i:=j) (by have:=ht.2.2;omega);have tj:=Cn sn S hS t.qA[j].ty t.qA[j].dflt (ht.1.2.2 _ (y8 _)).1 (ub _ (y8 _));rw[yc fa,List.find?_cons]at hs;generalize t.qA[j]=m at *
   simp only[uD]at g1;simp only[IC,nC]at tj;have bad:EO S m=true->lL S t=some m.id:=fun h=>by unfold lL;rw[<- hs,h];rfl
   have good:EO S m=false->(t.qA.drop (j+1)).find? (EO S)=t.qA.find? (EO S):=fun h=>by rw[<- hs,h]
   have dB:∀s':OC,(∀t n,t≠9->s'.mem t n=s.mem t n)->(∀t,t ∉ [2,3,4,9,27,28,29,30,31,32,33,34,35,36,37,38,39,40,41,42,43,44,26]->s'.env t=s.env t)->(s'.env 26).v=.int .i64 ((j+1:Nat):Int)->EO S m=false->OL dD PC BE s' k=some r:=fun s' hm he eu hb=>by
    refine ih fa _ ⟨hP s s' hm he hp,?_,?_,?_,?_,?_,eu,good hb⟩
    ·rw[he 1 (by decide)];exact e1
    ·rw[hm 1 1 (by decide)];exact m1
    ·rw[he 6 (by decide)];exact e6
    ·rw[he 24 (by decide)];exact e24
    ·rw[he 25 (by decide)];exact rz
   cases hh:m.has with
   |false =>
    simp[BE,-J,-y4,-y3,y0,e1,m1,e6,e24,rz,e26,ga,g1,hh,hw];refine dB _ ?_ ?_ ?_ (by simp[EO,hh])
    ·intro t n ht;simp[jV,ht]
    ·intro t ht;simp only[yh,List.not_mem_nil,or_false,not_or]at ht;simp[dI,ht]
    ·simp
   |true =>
    cases kv:tH S m.ty m.dflt with
    |true =>
     rw[kv]at tj;simp[BE,-J,-y4,-y3,y0,e1,m1,e6,e24,rz,e26,ga,g1,hh,tj,hw];refine dB _ ?_ ?_ ?_ (by simp[EO,hh,kv])
     ·intro t n ht;simp[jV,ht]
     ·intro t ht;simp only[yh,List.not_mem_nil,or_false,not_or]at ht;simp[dI,ht]
     ·simp
    |false =>
     rw[kv]at tj;simp[BE,-J,-y4,-y3,y0,e1,m1,e6,e24,rz,e26,ga,g1,hh,tj];exact hk _ _ (.inr ⟨rfl,m.id,bad (by simp[EO,hh,kv]),by simp,by simp,by simp⟩)
  ·have ga:¬ (j:Int)<t.qA.length:=by omega
   simp[BE,-J,-y4,-y3,y0,rz,e26,ga];rw[yf (by omega)]at hs;refine hk _ _ (.inl ⟨rfl,by unfold lL;rw[<- hs];rfl,hP s _ ?_ ?_ hp⟩)
   ·intro t n _;rfl
   ·intro t ht;simp only[yh,List.not_mem_nil,or_false,not_or]at ht;simp[dI,ht]
 ·simp[hs,h1,m1,h6,h24,h25,eu]
 ·rcases h with ⟨rfl,h1,h2⟩ | ⟨rfl,d,h1,h2,h3,h4⟩
  ·exact hk s h1 h2
  ·exact hr s d h1 h2 h3 h4
theorem Nd (s:dR)(hs:s.fine)(ub:s.JB):IC 200 [.agg (pD s)] (OV s.types):=by
 have hv:=W1 s hs;simp only[IC,pD]at hv;refine mC (c:=JH) rfl rfl ?_;unfold OV;by_cases h0:mH s.types=0
 case neg =>
  rw[if_neg h0];simp[JH,-J,-y4,-y3,y0,pD,hv,h0]
 have hS:=SQ hs h0;rw[if_pos h0];rw[h0]at hv;simp[JH,-J,-y4,-y3,y0,pD,hv];refine ZC s.types.length (fun i σ=>(σ.env 1).v=.ptr 1 1 0/\σ.mem 1 1=some [⟨.sl s.nl (s.types.map QC),.no⟩]/\(σ.env 16).v=.sl s.nl (s.types.map QC)/\(σ.env 17).v=.int .i64 s.types.length/\(σ.env 18).v=.int .i64 i/\xG s.types (s.types.length-i) i=xG s.types s.types.length 0)
  (fun e σ=>(e=.exit 0/\xG s.types s.types.length 0=none)\/(e=.ret/\∃j d,xG s.types s.types.length 0=some (j,d)/\(σ.env 2).v=.int .i64 j/\(σ.env 3).v=.int .i64 d/\(σ.env 4).v=.int .i64 1)) (fun i hi σ k h ih hk=>?_) _ _ ?_ (fun e σ h=>?_)
 ·obtain ⟨e1,m1,lf,fk,e18,hd⟩:=h;refine EC ?_;by_cases fa:i<s.types.length
  ·have ga:(i:Int)<s.types.length:=by omega
   have g1:(s.types.map QC)[i]?=some (QC s.types[i]):=by simp[fa]
   have hw:=cD (i:=i) (by have:=hs.1;omega);have ne:=hs.2 _ (y8 fa);have ox:=ub _ (y8 fa);rw[TY fa]at hd;generalize s.types[i]=t at *
   simp only[QC]at g1;simp[KJ,-J,-y4,-y3,y0,e1,m1,lf,fk,e18,ga,g1];refine dlp s.nl s.types hS t ne ox t.mn i _ (fun σ2=>(σ2.env 1).v=.ptr 1 1 0/\σ2.mem 1 1=some [⟨.sl s.nl (s.types.map QC),.no⟩]/\(σ2.env 16).v=.sl s.nl (s.types.map QC)/\(σ2.env 17).v=.int .i64 s.types.length/\(σ2.env 18).v=.int .i64 i) (fun a b hm he h=>?_) _ (fun σ2 hn h=>?_) (fun σ2 d hn q2 q3 q4=>?_) _ ⟨?_,?_,?_,?_,?_⟩ ?_ ?_ ?_ ?_ ?_ ?_
   ·rw[hm 1 1 (by decide),he 1 (by decide),he 16 (by decide),he 17 (by decide),he 18 (by decide)];exact h
   ·obtain⟨f1,fm,f16,f17,f18⟩:=h;simp[-J,-y4,-y3,y0,f18,hw];refine ih fa _ ⟨?_,?_,?_,?_,?_,by rw[<- hd,hn]⟩<;>simp[f1,fm,f16,f17]
   ·simp[-J,-y4,-y3,y0];exact hk _ _ (.inr ⟨rfl,i,d,by rw[<- hd,hn],q2,q3,q4⟩)
   all_goals simp[e1,m1,lf,fk,e18]
  ·have ga:¬ (i:Int)<s.types.length:=by omega
   simp[KJ,-J,-y4,-y3,y0,fk,e18,ga];exact hk _ _ (.inl ⟨rfl,by rw[<- hd,show s.types.length-i=0 from by omega,xG]⟩)
 ·simp
 ·rcases h with ⟨rfl,h1⟩ | ⟨rfl,j,d,h1,h2,h3,h4⟩
  ·rw[h1];simp[-J,-y4,-y3,y0,b7]
  ·rw[h1];simp[-J,-y4,-y3,y0,h2,h3,h4,b7]
theorem rdlp (sn:Bool)(S:List BC)(hS:NQ S)(t:BC)(ht:t.fine)(ub:t.JB)(b:Bool)(i:Nat)(r:RV)(P:OC->Prop)(hP:∀s s':OC,s'.mem=s.mem->(∀t,t ∉ [2,3,4,8,27,28,29,30,31,32,33,34,35,36,37,38,39,40,41,42,43,44,45,46,47,48,49,50,51,52]->s'.env t=s.env t)->P s->P s')(k:Ex->OC->Option RV)
  (hk:∀s',lL S t=none->P s'->k (.exit 2) s'=some r) (hr:∀(s':OC) d,lL S t=some d->(s'.env 2).v=.int .i64 i->(s'.env 3).v=.int .i64 d->(s'.env 4).v=.int .i64 1->k .ret s'=some r)
  (s:OC) (hs:P s) (h1:(s.env 1).v=.ptr 1 1 0) (m1:s.mem 1 1=some [⟨.sl sn (S.map QC),.no⟩]) (h6:(s.env 6).v=.int .i64 i) (h7:(s.env 7).v=.sl b (t.qA.map uD)) (h8:(s.env 8).v=.int .i64 0):OL dD PC CE s k=some r:=by
 refine ZC t.qA.length (fun j s=>P s/\(s.env 1).v=.ptr 1 1 0/\s.mem 1 1=some [⟨.sl sn (S.map QC),.no⟩]/\(s.env 6).v=.int .i64 i/\(s.env 7).v=.sl b (t.qA.map uD)/\(s.env 8).v=.int .i64 j/\(t.qA.drop j).find? (EO S)=t.qA.find? (EO S))
  (fun e s=>(e=.exit 2/\lL S t=none/\P s)\/(e=.ret/\∃d,lL S t=some d/\(s.env 2).v=.int .i64 i/\(s.env 3).v=.int .i64 d/\(s.env 4).v=.int .i64 1)) (fun j hj s k h ih hk=>?_) _ _ ?_ (fun e s h=>?_)
 ·obtain ⟨hp,e1,m1,e6,e7,e8,hs⟩:=h;refine EC ?_;by_cases fa:j<t.qA.length
  ·have ga:(j:Int)<t.qA.length:=by omega
   have g1:(t.qA.map uD)[j]?=some (uD t.qA[j]):=by simp[fa]
   have hw:=cD (i:=j) (by have:=ht.2.2;omega);have tj:=Ok sn S hS t.qA[j].ty t.qA[j].dflt (ht.1.2.2 _ (y8 _)).1 (ub _ (y8 _));rw[yc fa,List.find?_cons]at hs;generalize t.qA[j]=m at *
   simp only[uD]at g1;simp only[IC,nC]at tj;have bad:EO S m=true->lL S t=some m.id:=fun h=>by unfold lL;rw[<- hs,h];rfl
   have good:EO S m=false->(t.qA.drop (j+1)).find? (EO S)=t.qA.find? (EO S):=fun h=>by rw[<- hs,h]
   have dB:∀s':OC,s'.mem=s.mem->(∀t,t ∉ [2,3,4,8,27,28,29,30,31,32,33,34,35,36,37,38,39,40,41,42,43,44,45,46,47,48,49,50,51,52]->s'.env t=s.env t)->(s'.env 8).v=.int .i64 ((j+1:Nat):Int)->EO S m=false->OL dD PC CE s' k=some r:=fun s' hm he eu hb=>by
    refine ih fa _ ⟨hP s s' hm he hp,?_,?_,?_,?_,eu,good hb⟩
    ·rw[he 1 (by decide)];exact e1
    ·rw[hm];exact m1
    ·rw[he 6 (by decide)];exact e6
    ·rw[he 7 (by decide)];exact e7
   cases hh:m.has with
   |false =>
    simp[CE,-J,-y4,-y3,y0,e1,m1,e6,e7,e8,ga,g1,hh,hw];refine dB _ rfl ?_ ?_ (by simp[EO,hh])
    ·intro t ht;simp only[yh,List.not_mem_nil,or_false,not_or]at ht;simp[dI,ht]
    ·simp
   |true =>
    cases kv:tH S m.ty m.dflt with
    |true =>
     rw[kv]at tj;simp[CE,-J,-y4,-y3,y0,e1,m1,e6,e7,e8,ga,g1,hh,tj,hw];refine dB _ rfl ?_ ?_ (by simp[EO,hh,kv])
     ·intro t ht;simp only[yh,List.not_mem_nil,or_false,not_or]at ht;simp[dI,ht]
     ·simp
    |false =>
     rw[kv]at tj;simp[CE,-J,-y4,-y3,y0,e1,m1,e6,e7,e8,ga,g1,hh,tj];exact hk _ _ (.inr ⟨rfl,m.id,bad (by simp[EO,hh,kv]),by simp,by simp,by simp⟩)
  ·have ga:¬ (j:Int)<t.qA.length:=by omega
   simp[CE,-J,-y4,-y3,y0,e7,e8,ga];rw[yf (by omega)]at hs;refine hk _ _ (.inl ⟨rfl,by unfold lL;rw[<- hs];rfl,hP s _ rfl ?_ hp⟩);intro t ht;simp only[yh,List.not_mem_nil,or_false,not_or]at ht;simp[dI,ht]
 ·simp[hs,h1,m1,h6,h7,h8]
 ·rcases h with ⟨rfl,h1,h2⟩ | ⟨rfl,d,h1,h2,h3,h4⟩
  ·exact hk s h1 h2
  ·exact hr s d h1 h2 h3 h4
theorem Io (s:dR)(hs:s.fine)(ub:s.JB):IC 56 [.agg (pD s)] (OV s.types):=by
 have hv:=I4 s hs;simp only[IC,pD]at hv;refine mC (c:=PH) rfl rfl ?_;unfold OV;by_cases h0:mH s.types=0
 case neg =>
  rw[if_neg h0];simp[PH,-J,-y4,-y3,y0,pD,hv,h0]
 have hS:=SQ hs h0;rw[if_pos h0];rw[h0]at hv;simp[PH,-J,-y4,-y3,y0,pD,hv];refine ZC s.types.length (fun i σ=>(σ.env 1).v=.ptr 1 1 0/\σ.mem 1 1=some [⟨.sl s.nl (s.types.map QC),.no⟩]/\(σ.env 6).v=.int .i64 i/\xG s.types (s.types.length-i) i=xG s.types s.types.length 0)
  (fun e σ=>(e=.exit 0/\xG s.types s.types.length 0=none)\/(e=.ret/\∃j d,xG s.types s.types.length 0=some (j,d)/\(σ.env 2).v=.int .i64 j/\(σ.env 3).v=.int .i64 d/\(σ.env 4).v=.int .i64 1)) (fun i hi σ k h ih hk=>?_) _ _ ?_ (fun e σ h=>?_)
 ·obtain ⟨e1,m1,e6,hd⟩:=h;refine EC ?_;by_cases fa:i<s.types.length
  ·have ga:(i:Int)<s.types.length:=by omega
   have g1:(s.types.map QC)[i]?=some (QC s.types[i]):=by simp[fa]
   have hw:=cD (i:=i) (by have:=hs.1;omega);have ne:=hs.2 _ (y8 fa);have ox:=ub _ (y8 fa);rw[TY fa]at hd;generalize s.types[i]=t at *
   simp only[QC]at g1;simp[JJ,-J,-y4,-y3,y0,e1,m1,e6,ga,g1];refine rdlp s.nl s.types hS t ne ox t.mn i _ (fun σ2=>(σ2.env 1).v=.ptr 1 1 0/\σ2.mem 1 1=some [⟨.sl s.nl (s.types.map QC),.no⟩]/\(σ2.env 6).v=.int .i64 i) (fun a b hm he h=>?_) _ (fun σ2 hn h=>?_) (fun σ2 d hn q2 q3 q4=>?_) _ ⟨?_,?_,?_⟩ ?_ ?_ ?_ ?_ ?_
   ·rw[hm,he 1 (by decide),he 6 (by decide)];exact h
   ·obtain⟨f1,fm,f6⟩:=h;simp[-J,-y4,-y3,y0,f6,hw];refine ih fa _ ⟨?_,?_,?_,by rw[<- hd,hn]⟩<;>simp[f1,fm]
   ·simp[-J,-y4,-y3,y0];exact hk _ _ (.inr ⟨rfl,i,d,by rw[<- hd,hn],q2,q3,q4⟩)
   all_goals simp[e1,m1,e6]
  ·have ga:¬ (i:Int)<s.types.length:=by omega
   simp[JJ,-J,-y4,-y3,y0,e1,m1,e6,ga];exact hk _ _ (.inl ⟨rfl,by rw[<- hd,show s.types.length-i=0 from by omega,xG]⟩)
 ·simp
 ·rcases h with ⟨rfl,h1⟩ | ⟨rfl,j,d,h1,h2,h3,h4⟩
  ·rw[h1];simp[-J,-y4,-y3,y0,b7]
  ·rw[h1];simp[-J,-y4,-y3,y0,h2,h3,h4,b7]
noncomputable def aF (S:List BC):Int:=if mH S=0 then(match xG S S.length 0 with
 |some _=>1
 |none=>0)else mH S
theorem A3 {S:List BC}(h:mH S=0):∃i d,OV S=.sA [.int .i64 i,.int .i64 d,.int .i64 (aF S)]:=by
 unfold OV aF;rw[if_pos h,if_pos h];cases xG S S.length 0 with
 |none=>exact⟨_,_,rfl⟩
 |some p=>exact⟨_,_,rfl⟩
theorem F8 (s:dR)(hs:s.fine)(ub:s.JB):IC 134 [.agg (pD s)] (.int .i64 (aF s.types)):=by
 have hv:=W1 s hs;have hd:=Nd s hs ub;refine mC (c:=kI) rfl rfl ?_;simp only[IC,pD]at hv hd;by_cases h0:mH s.types=0
 ·obtain⟨i,d,hA⟩:=A3 h0;rw[hA]at hd;rw[h0]at hv;simp[kI,-J,-y4,-y3,y0,pD,hv,hd]
 ·unfold aF;rw[if_neg h0];simp[kI,-J,-y4,-y3,y0,pD,hv,h0]
theorem E4 (s:dR)(hs:s.fine)(ub:s.JB):IC 24 [.agg (pD s)] (.int .i64 (aF s.types)):=by
 have hv:=I4 s hs;have hd:=Io s hs ub;refine mC (c:=MJ) rfl rfl ?_;simp only[IC,pD]at hv hd;by_cases h0:mH s.types=0
 ·obtain⟨i,d,hA⟩:=A3 h0;rw[hA]at hd;rw[h0]at hv;simp[MJ,-J,-y4,-y3,y0,pD,hv,hd]
 ·unfold aF;rw[if_neg h0];simp[MJ,-J,-y4,-y3,y0,pD,hv,h0]
end Go.Proofs.YthnefkpplcmjdaaGreat
