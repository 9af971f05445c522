/- A part of the proof. -/
import Derived.Test.YtbnlmgncbgaepaaGreatTh
set_option linter.all false
set_option maxRecDepth 100000
set_option maxHeartbeats 8000000
open Option renaming bind_some → V
open List renaming range_succ → y0, map_map → y3, getElem?_eq_getElem → y5, getElem_mem → y7, drop_eq_getElem_cons → y8, drop_eq_nil_of_le → yc, getElem?_map → ye, map_cons → yg, mem_cons → yh, map_nil → yk, mem_of_getElem? → yl, getElem_of_mem → yz, not_mem_nil → yH, eq_nil_of_length_eq_zero → yO
open Int renaming toNat_lt → y4
namespace Go.Proofs.YtbnlmgncbgaepaaGreat
open Go
section
variable (sn:Bool) (S:List sA) (t:Int) (x:sA) (v:Vl) (f:Int->Vl->Bool) (h0:0<=t) (wa:¬ (S.length:Int)<=t) (g:(S.map qA)[t.toNat]?=some (qA x))
include sn S t x v f h0 wa g
theorem fit_ev1 (hk:x.kind=1) (hv:v.kind=1) (hp:fA 182 [.agg (lA v)] (.bool true)) (hr:v.rest=[]):fA 151 [uE sn S,.int .i64 t,.agg (lA v),.bool true] (.bool (true)):=by
 have lb:¬ t<0:=by omega
 simp only [fA,qA,uA,hk,hv] at hp g;refine rA (c:=nA) rfl rfl ?_;rw [uA];simp only [hr,yk] at hp ⊢;simp [nA,-V,-y4,-y3,y0,lb,wa,h0,g,hp,hk,hv,hr]
theorem fit_ev2 (hk:x.kind=2) (hv:v.kind=2) (hp:fA 182 [.agg (lA v)] (.bool true)) (hr:v.rest=[]):fA 151 [uE sn S,.int .i64 t,.agg (lA v),.bool true] (.bool (decide (x.low<=v.i)&&decide (v.i<=x.high))):=by
 have lb:¬ t<0:=by omega
 simp only [fA,qA,uA,hk,hv] at hp g;refine rA (c:=nA) rfl rfl ?_;rw [uA];simp only [hr,yk] at hp ⊢;by_cases c1:x.low<=v.i
 ·simp [nA,-V,-y4,-y3,y0,lb,wa,h0,g,hp,hk,hv,hr,c1]
 ·simp [nA,-V,-y4,-y3,y0,lb,wa,h0,g,hp,hk,hv,hr,c1]
theorem fit_ev3 (hk:x.kind=3) (hv:v.kind=3) (hp:fA 182 [.agg (lA v)] (.bool true)) (hr:v.rest=[]):fA 151 [uE sn S,.int .i64 t,.agg (lA v),.bool true] (.bool (decide ((v.s.size:Int)<=x.max))):=by
 have lb:¬ t<0:=by omega
 simp only [fA,qA,uA,hk,hv] at hp g;refine rA (c:=nA) rfl rfl ?_;rw [uA];simp only [hr,yk] at hp ⊢;simp [nA,-V,-y4,-y3,y0,lb,wa,h0,g,hp,hk,hv,hr]
theorem fit_ev4 (hk:x.kind=4) (hv:v.kind=4) (hp:fA 182 [.agg (lA v)] (.bool true)) (hr:v.rest=[]) (hs:fA 123 [.agg (qA x),.int .i64 v.id] (nW x.syms v.id)):fA 151 [uE sn S,.int .i64 t,.agg (lA v),.bool true] (.bool (decide (0<=bG x.syms v.id))):=by
 have lb:¬ t<0:=by omega
 simp only [fA,qA,uA,hk,hv] at hp g;refine rA (c:=nA) rfl rfl ?_;rw [uA];simp only [hr,yk] at hp ⊢;simp only [fA,qA,nW,hk] at hs;generalize bG x.syms v.id=ix at *
 by_cases c1:0<=ix
 ·simp only [c1,decide_true] at hs;simp [nA,-V,-y4,-y3,y0,lb,wa,h0,g,hp,hk,hv,hr,hs,c1]
 ·simp only [c1,decide_false] at hs;cases ho:x.opn <;> simp only [ho] at hs g
  ·simp [nA,-V,-y4,-y3,y0,lb,wa,h0,g,hp,hk,hv,hr,hs,c1,ho]
  ·simp [nA,-V,-y4,-y3,y0,lb,wa,h0,g,hp,hk,hv,hr,hs,c1,ho]
theorem fit_ev7 (hk:x.kind=7) (hv:v.kind=7) (hp:fA 182 [.agg (lA v)] (.bool true)) (hr:v.rest=[]) (he:fA 185 [uE sn S,.int .i64 x.elem,.sl v.xn (v.items.map lA),.bool true] (.bool (v.items.all (f x.elem)))):fA 151 [uE sn S,.int .i64 t,.agg (lA v),.bool true] (.bool (decide ((v.items.length:Int)<=x.max)&&v.items.all (f x.elem))):=by
 have lb:¬ t<0:=by omega
 simp only [fA,qA,uA,hk,hv] at hp g;refine rA (c:=nA) rfl rfl ?_;rw [uA];simp only [hr,yk] at hp ⊢;simp only [fA] at he;generalize v.items.all (f x.elem)=E at *
 by_cases c1:(v.items.length:Int)<=x.max
 ·simp [nA,-V,-y4,-y3,y0,lb,wa,h0,g,hp,hk,hv,hr,c1,he]
 ·simp [nA,-V,-y4,-y3,y0,lb,wa,h0,g,hp,hk,hv,hr,c1]
theorem fit_ev9 (hk:x.kind=9) (hv:v.kind=9) (hp:fA 182 [.agg (lA v)] (.bool true)) (hr:v.rest=[]) (he:fA 185 [uE sn S,.int .i64 x.elem,.sl v.xn (v.items.map lA),.bool true] (.bool (v.items.all (f x.elem)))):fA 151 [uE sn S,.int .i64 t,.agg (lA v),.bool true] (.bool (decide (v.items.length<=1)&&v.items.all (f x.elem))):=by
 have lb:¬ t<0:=by omega
 simp only [fA,qA,uA,hk,hv] at hp g;refine rA (c:=nA) rfl rfl ?_;rw [uA];simp only [hr,yk] at hp ⊢;simp only [fA] at he;generalize v.items.all (f x.elem)=E at *
 by_cases c1:v.items.length<=1
 ·have c2:(v.items.length:Int)<=1:=by omega
  simp [nA,-V,-y4,-y3,y0,lb,wa,h0,g,hp,hk,hv,hr,c1,c2,he]
 ·have c2:¬ (v.items.length:Int)<=1:=by omega
  simp [nA,-V,-y4,-y3,y0,lb,wa,h0,g,hp,hk,hv,hr,c1,c2]
end
section
variable (sn:Bool) (S:List sA) (t:Int) (x:sA) (v:Vl) (f:Int->Vl->Bool) (h0:0<=t) (wa:¬ (S.length:Int)<=t) (g:(S.map qA)[t.toNat]?=some (qA x))
include sn S t x v f h0 wa g
theorem fit_ev5 (hk:x.kind=5) (hv:v.kind=5) (hp:fA 182 [.agg (lA v)] (.bool true)) (hr:v.rest=[]) (su:x.mems.length<=9223372036854775807) (zj:fA 184 [.agg (qA x),.sl v.rn []] (.bool true)) (hf:∀ m∈x.mems,∀ u∈v.items,fA 151 [uE sn S,.int .i64 m.ty,.agg (lA u),.bool true] (.bool (f m.ty u))):fA 151 [uE sn S,.int .i64 t,.agg (lA v),.bool true] (.bool (decide (v.items.length=x.mems.length)&&SH f x.mems v.items)):=by
 have lb:¬ t<0:=by omega
 simp only [fA,qA,uA,hk,hv] at hp g;refine rA (c:=nA) rfl rfl ?_;rw [uA];simp only [hr,yk] at hp ⊢;simp only [fA,qA,hk] at zj;by_cases c1:v.items.length=x.mems.length
 ·skip
  simp [nA,-V,-y4,-y3,y0,lb,wa,h0,g,hp,hk,hv,c1,hr,zj];refine gA v.items.length (fun i s=>(s.env 3).v=.bool true/\(s.env 4).v=.ptr 4 1 0/\s.mem 4 1=some [⟨.sl sn (S.map qA),.no⟩]/\(s.env 6).v=.ptr 6 1 0/\s.mem 6 1=some ([⟨.int .i64 v.kind,.no⟩,⟨.bool v.b,.no⟩,⟨.int .i64 v.i,.no⟩,⟨.str v.s,.no⟩,⟨.int .i64 v.id,.no⟩,⟨.sl v.kn (v.keys.map lA),.no⟩,⟨.sl v.xn (v.items.map lA),.no⟩,⟨.sl v.rn (v.rest.map CL),.no⟩])/\(s.env 9).v=.ptr 9 3 0/\s.mem 9 3=some (jA x)/\(s.env 12).v=.int .i64 i/\SH f (x.mems.drop i) (v.items.drop i)=SH f x.mems v.items)
   (fun e s=>(e=.exit 1/\SH f x.mems v.items=true)\/(e=.ret/\SH f x.mems v.items=false/\(s.env 8).v=.bool false)) (fun i hi s k h ih uc=>?_) _ _ ?_ (fun e s h=>?_)
  ·obtain ⟨e3,e4,m4,e6,m6,e9,m9,e12,hs⟩:=h;refine tA ?_;by_cases nf:i<v.items.length
   ·have ga:(i:Int)<v.items.length:=by omega
    have fa:i<x.mems.length:=by omega
    have g1:(x.mems.map zA)[i]?=some (zA x.mems[i]):=by simp [fa]
    have g2:(v.items.map lA)[i]?=some (lA v.items[i]):=by simp [nf]
    have hw:=GA (i:=i);have hx:=hf x.mems[i] (y7 _) v.items[i] (y7 _);rw [y8 fa,y8 nf,SH] at hs;generalize x.mems[i]=m at *
    generalize v.items[i]=u at *
    simp only [fA,zA,uA] at g1 g2 hx;cases az:f m.ty u with
    | true =>
     rw [az] at hx hs;simp [iJ,-V,-y4,-y3,y0,e3,e4,m4,e6,m6,e9,m9,e12,ga,g1,g2,hx,hw];refine ih nf _ ⟨?_,?_,?_,?_,?_,?_,?_,?_,by simpa using hs⟩ <;> simp [e3,e4,m4,e6,m6,e9,m9]
    | false =>
     rw [az] at hx hs;simp [iJ,-V,-y4,-y3,y0,e3,e4,m4,e6,m6,e9,m9,e12,ga,g1,g2,hx];exact uc _ _ (.inr ⟨rfl,by rw [<- hs]; rfl,by simp⟩)
   ·have ga:¬ (i:Int)<v.items.length:=by omega
    simp [iJ,-V,-y4,-y3,y0,e6,m6,e12,ga];have hd:x.mems.drop i=[]:=yc (by omega);rw [hd,SH] at hs
    ·exact uc _ _ (.inl ⟨rfl,hs.symm⟩)
    ·intro m r v' q h; cases h
  ·simp [hk,hv,hr]
  ·rcases h with ⟨rfl,h1⟩ | ⟨rfl,h1,h2⟩
   ·simp [-V,-y4,-y3,y0,h1]
   ·simp [-V,-y4,-y3,y0,h1,h2]
 ·have bi:¬ (v.items.length:Int)=x.mems.length:=by omega
  simp [nA,-V,-y4,-y3,y0,lb,wa,h0,g,hp,hk,hv,hr,c1,bi]
theorem fit_ev6 (hk:x.kind=6) (hv:v.kind=6) (hp:fA 182 [.agg (lA v)] (.bool true)) (hr:v.rest=[]) (hm:fA 99 [.agg (qA x),.int .i64 v.id] (GQ x.mems v.id)) (hf:∀ m∈x.mems,∀ u∈v.items,fA 151 [uE sn S,.int .i64 m.ty,.agg (lA u),.bool true] (.bool (f m.ty u))):fA 151 [uE sn S,.int .i64 t,.agg (lA v),.bool true] (.bool (SJ f x.mems[(QB x.mems v.id).toNat]? (decide (0<=QB x.mems v.id)) v.rest.isEmpty v.items)):=by
 have lb:¬ t<0:=by omega
 simp only [fA,qA,uA,hk,hv] at hp g;refine rA (c:=nA) rfl rfl ?_;rw [uA];simp only [hr,yk] at hp ⊢;simp only [fA,qA,GQ,hk] at hm;have lz:=PN (fun m:SB=>decide (m.id=v.id)) x.mems;have mf:=XC (fun m:SB=>decide (m.id=v.id)) x.mems;change QB x.mems v.id≠-1->_ at lz;change -1<=QB x.mems v.id at mf;change ∀ h:QB x.mems v.id≠-1,∃ y,x.mems[(QB x.mems v.id).toNat]?=some y/\_ at lz;generalize QB x.mems v.id=ix at *
 by_cases c1:0<=ix
 ·simp only [c1,decide_true] at hm;obtain ⟨m,wr,_⟩:=lz (by omega);have zp:max ix 0=ix:=Int.max_eq_left c1;rw [zp] at hm;have g2:(x.mems.map zA)[ix.toNat]?=some (zA m):=by rw [ye,wr]; rfl
  simp only [zA] at g2;rw [wr];by_cases c2:v.items.length=1
  ·obtain ⟨u,hu⟩:=List.length_eq_one_iff.1 c2;have hf:=hf m (yl wr) u (by rw [hu]; simp);simp only [fA,uA] at hf;rw [hu] at hp ⊢;simp only [uA,yg,yk] at hp;simp [nA,-V,-y4,-y3,y0,lb,wa,h0,g,hp,hk,hv,hr,hm,g2,c1,hf,uA,SJ]
  ·have oq:¬ (v.items.length:Int)=1:=by omega
   rw [PT _ _ _ _ _ c2];simp [nA,-V,-y4,-y3,y0,lb,wa,h0,g,hp,hk,hv,hr,hm,g2,c1,oq]
 ·simp only [c1,decide_false] at hm;rw [decide_eq_false c1,FV];cases ho:x.opn <;> simp only [ho] at hm g
  ·simp [nA,-V,-y4,-y3,y0,lb,wa,h0,g,hp,hk,hv,hr,hm,ho]
  ·simp [nA,-V,-y4,-y3,y0,lb,wa,h0,g,hp,hk,hv,hr,hm,ho]
theorem fit_ev8 (hk:x.kind=8) (hv:v.kind=8) (hp:fA 182 [.agg (lA v)] (.bool true)) (hr:v.rest=[]) (zp:x.max<=50) (jr:∀ k∈v.keys,RP k.i) (he:fA 185 [uE sn S,.int .i64 x.elem,.sl v.xn (v.items.map lA),.bool true] (.bool (v.items.all (f x.elem)))) (xg:fA 185 [uE sn S,.int .i64 x.key,.sl v.kn (v.keys.map lA),.bool true] (.bool (v.keys.all (f x.key)))):fA 151 [uE sn S,.int .i64 t,.agg (lA v),.bool true] (.bool (decide ((v.keys.length:Int)<=x.max)&&decide (v.items.length=v.keys.length)&&v.keys.all (f x.key)&&sN v.keys&&v.items.all (f x.elem))):=by
 have lb:¬ t<0:=by omega
 simp only [fA,qA,uA,hk,hv] at hp g;refine rA (c:=nA) rfl rfl ?_;rw [uA];simp only [hr,yk] at hp ⊢;simp only [fA] at he xg;generalize v.items.all (f x.elem)=E at *
 generalize v.keys.all (f x.key)=KE at *
 by_cases c1:x.max<v.keys.length
 ·have bi:¬ (v.keys.length:Int)<=x.max:=by omega
  simp [nA,-V,-y4,-y3,y0,lb,wa,h0,g,hp,hk,hv,hr,c1,bi]
 have bi:(v.keys.length:Int)<=x.max:=by omega
 have uj:v.keys.length<=50:=by omega
 by_cases c2:v.items.length=v.keys.length
 case neg =>
  have oq:¬ (v.items.length:Int)=v.keys.length:=by omega
  simp [nA,-V,-y4,-y3,y0,lb,wa,h0,g,hp,hk,hv,hr,c1,bi,c2,oq]
 cases KE with
 | false=>simp [nA,-V,-y4,-y3,y0,lb,wa,h0,g,hp,hk,hv,hr,c1,bi,c2,xg]
 | true =>
  cases E with
  | false=>simp [nA,-V,-y4,-y3,y0,lb,wa,h0,g,hp,hk,hv,hr,c1,bi,c2,xg,he]
  | true =>
  simp [nA,-V,-y4,-y3,y0,lb,wa,h0,g,hp,hk,hv,hr,c1,bi,c2,xg,he];refine gA (v.keys.length - 1) (fun i s=>(s.env 6).v=.ptr 6 1 0/\s.mem 6 1=some (rE v)/\(s.env 15).v=.int .i64 ((i + 1:Nat):Int)/\sN (v.keys.drop i)=sN v.keys)
   (fun e s=>(e=.exit 3/\sN v.keys=true)\/(e=.ret/\sN v.keys=false/\(s.env 8).v=.bool false)) (fun i hi s k h ih uc=>?_) _ _ ?_ (fun e s h=>?_)
  ·obtain ⟨e6,m6,gp,hs⟩:=h;refine tA ?_;by_cases fa:i<v.keys.length - 1
   ·have dw:i<v.keys.length:=by omega
    have up:i + 1<v.keys.length:=by omega
    have hx:=rvcmp_ev v.keys[i] v.keys[i + 1] (jr _ (y7 _)) (jr _ (y7 _));have g1:(v.keys.map lA)[i]?=some (lA v.keys[i]):=by simp [dw]
    have g2:(v.keys.map lA)[i + 1]?=some (lA v.keys[i + 1]):=by simp [up]
    rw [y8 dw,y8 up,sN] at hs;have xf:(decide (tV v.keys[i] v.keys[i + 1]<0)&&sN (v.keys.drop (i + 1)))=sN v.keys:=by rw [<- hs,y8 up]
    clear hs;generalize v.keys[i]=a at *
    generalize v.keys[i + 1]=b at *
    obtain ⟨z,hz⟩:∃ z:Int,z=((i + 1:Nat):Int):=⟨_,rfl⟩;obtain ⟨y,hy⟩:∃ y:Int,y=(i:Int):=⟨_,rfl⟩;rw [<- hz] at gp;have gc:0<=z:=by omega
    have rh:0<=y:=by omega
    have kj:z<v.keys.length:=by omega
    have sw:IntKind.i64.wrap (z - 1)=y:=by rw [IntWalk.i64_in _ (by omega)]; omega
    have mq:IntKind.i64.wrap (z + 1)=((i + 1 + 1:Nat):Int):=by rw [IntWalk.i64_in _ (by omega)]; omega
    rw [show i=y.toNat from by omega] at g1;rw [show i + 1=z.toNat from by omega] at g2;simp only [fA,uA] at g1 g2 hx;by_cases hc:tV a b<0
    ·have af:¬ 0<=tV a b:=by omega
     simp [uJ,-V,-y4,-y3,y0,e6,m6,gp,kj,gc,rh,sw,g1,g2,hx,af,mq];refine ih fa _ ⟨?_,?_,?_,by rw [<- xf,decide_eq_true hc]; rfl⟩ <;> simp [e6,m6]
    ·have af:0<=tV a b:=by omega
     simp [uJ,-V,-y4,-y3,y0,e6,m6,gp,kj,gc,rh,sw,g1,g2,hx,af];exact uc _ _ (.inr ⟨rfl,by rw [<- xf,decide_eq_false hc]; rfl,by simp⟩)
   ·obtain ⟨z,hz⟩:∃ z:Int,z=((i + 1:Nat):Int):=⟨_,rfl⟩;rw [<- hz] at gp;have kj:¬ z<v.keys.length:=by omega
    have py:sN (v.keys.drop i)=true:=by
     match hd:v.keys.drop i with
     | []=>rfl
     | [_]=>rfl
     | a :: b :: r=>have:=congrArg List.length hd; simp at this; omega
    rw [py] at hs;simp [uJ,-V,-y4,-y3,y0,e6,m6,gp,kj];exact uc _ _ (.inl ⟨rfl,hs.symm⟩)
  ·simp [hv,hr]
  ·rcases h with ⟨rfl,h1⟩ | ⟨rfl,h1,h2⟩
   ·simp [-V,-y4,-y3,y0,h1]
   ·simp [-V,-y4,-y3,y0,h1,h2]
end
section
variable (sn:Bool) (S:List sA) (t:Int) (x:sA) (v:Vl) (f:Int->Vl->Bool) (h0:0<=t) (wa:¬ (S.length:Int)<=t) (g:(S.map qA)[t.toNat]?=some (qA x))
include sn S t x v f h0 wa g
theorem fits_ev1 (hk:x.kind=1) (hv:v.kind=1) (hp:fA 238 [.agg (lA v)] (.bool true)):fA 227 [uE sn S,.int .i64 t,.agg (lA v),.bool true] (.bool (true)):=by
 have lb:¬ t<0:=by omega
 simp only [fA,qA,uA,hk,hv] at hp g;refine rA (c:=kA) rfl rfl ?_;rw [uA];simp [kA,-V,-y4,-y3,y0,lb,wa,h0,g,hp,hk,hv]
theorem fits_ev2 (hk:x.kind=2) (hv:v.kind=2) (hp:fA 238 [.agg (lA v)] (.bool true)):fA 227 [uE sn S,.int .i64 t,.agg (lA v),.bool true] (.bool (decide (x.low<=v.i)&&decide (v.i<=x.high))):=by
 have lb:¬ t<0:=by omega
 simp only [fA,qA,uA,hk,hv] at hp g;refine rA (c:=kA) rfl rfl ?_;rw [uA];by_cases c1:x.low<=v.i
 ·simp [kA,-V,-y4,-y3,y0,lb,wa,h0,g,hp,hk,hv,c1]
 ·simp [kA,-V,-y4,-y3,y0,lb,wa,h0,g,hp,hk,hv,c1]
theorem fits_ev3 (hk:x.kind=3) (hv:v.kind=3) (hp:fA 238 [.agg (lA v)] (.bool true)):fA 227 [uE sn S,.int .i64 t,.agg (lA v),.bool true] (.bool (decide ((v.s.size:Int)<=x.max))):=by
 have lb:¬ t<0:=by omega
 simp only [fA,qA,uA,hk,hv] at hp g;refine rA (c:=kA) rfl rfl ?_;rw [uA];simp [kA,-V,-y4,-y3,y0,lb,wa,h0,g,hp,hk,hv]
theorem fits_ev4 (hk:x.kind=4) (hv:v.kind=4) (hp:fA 238 [.agg (lA v)] (.bool true)) (hs:fA 154 [.agg (qA x),.int .i64 v.id] (nW x.syms v.id)):fA 227 [uE sn S,.int .i64 t,.agg (lA v),.bool true] (.bool (decide (0<=bG x.syms v.id))):=by
 have lb:¬ t<0:=by omega
 simp only [fA,qA,uA,hk,hv] at hp g;refine rA (c:=kA) rfl rfl ?_;rw [uA];simp only [fA,qA,nW,hk] at hs;generalize bG x.syms v.id=ix at *
 by_cases c1:0<=ix
 ·simp only [c1,decide_true] at hs;simp [kA,-V,-y4,-y3,y0,lb,wa,h0,g,hp,hk,hv,hs,c1]
 ·simp only [c1,decide_false] at hs;cases ho:x.opn <;> simp only [ho] at hs g
  ·simp [kA,-V,-y4,-y3,y0,lb,wa,h0,g,hp,hk,hv,hs,c1,ho]
  ·simp [kA,-V,-y4,-y3,y0,lb,wa,h0,g,hp,hk,hv,hs,c1,ho]
theorem fits_ev7 (hk:x.kind=7) (hv:v.kind=7) (hp:fA 238 [.agg (lA v)] (.bool true)) (he:fA 240 [uE sn S,.int .i64 x.elem,.sl v.xn (v.items.map lA),.bool true] (.bool (v.items.all (f x.elem)))):fA 227 [uE sn S,.int .i64 t,.agg (lA v),.bool true] (.bool (decide ((v.items.length:Int)<=x.max)&&v.items.all (f x.elem))):=by
 have lb:¬ t<0:=by omega
 simp only [fA,qA,uA,hk,hv] at hp g;refine rA (c:=kA) rfl rfl ?_;rw [uA];simp only [fA] at he;generalize v.items.all (f x.elem)=E at *
 by_cases c1:(v.items.length:Int)<=x.max
 ·simp [kA,-V,-y4,-y3,y0,lb,wa,h0,g,hp,hk,hv,c1,he]
 ·simp [kA,-V,-y4,-y3,y0,lb,wa,h0,g,hp,hk,hv,c1]
theorem fits_ev9 (hk:x.kind=9) (hv:v.kind=9) (hp:fA 238 [.agg (lA v)] (.bool true)) (he:fA 240 [uE sn S,.int .i64 x.elem,.sl v.xn (v.items.map lA),.bool true] (.bool (v.items.all (f x.elem)))):fA 227 [uE sn S,.int .i64 t,.agg (lA v),.bool true] (.bool (decide (v.items.length<=1)&&v.items.all (f x.elem))):=by
 have lb:¬ t<0:=by omega
 simp only [fA,qA,uA,hk,hv] at hp g;refine rA (c:=kA) rfl rfl ?_;rw [uA];simp only [fA] at he;generalize v.items.all (f x.elem)=E at *
 by_cases c1:v.items.length<=1
 ·have c2:(v.items.length:Int)<=1:=by omega
  simp [kA,-V,-y4,-y3,y0,lb,wa,h0,g,hp,hk,hv,c1,c2,he]
 ·have c2:¬ (v.items.length:Int)<=1:=by omega
  simp [kA,-V,-y4,-y3,y0,lb,wa,h0,g,hp,hk,hv,c1,c2]
end
section
variable (sn:Bool) (S:List sA) (t:Int) (x:sA) (v:Vl) (f:Int->Vl->Bool) (h0:0<=t) (wa:¬ (S.length:Int)<=t) (g:(S.map qA)[t.toNat]?=some (qA x))
include sn S t x v f h0 wa g
theorem fits_ev5 (hk:x.kind=5) (hv:v.kind=5) (hp:fA 238 [.agg (lA v)] (.bool true)) (su:x.mems.length<=9223372036854775807) (hf:∀ m∈x.mems,∀ u∈v.items,fA 227 [uE sn S,.int .i64 m.ty,.agg (lA u),.bool true] (.bool (f m.ty u))):fA 227 [uE sn S,.int .i64 t,.agg (lA v),.bool true] (.bool (decide (v.items.length=x.mems.length)&&v.rest.isEmpty&&SH f x.mems v.items)):=by
 have lb:¬ t<0:=by omega
 simp only [fA,qA,uA,hk,hv] at hp g;refine rA (c:=kA) rfl rfl ?_;rw [uA];by_cases c1:v.items.length=x.mems.length
 ·by_cases c2:v.rest=[]
  case neg =>
   have oq:0<v.rest.length:=by
    have:v.rest.length≠0:=fun h=>c2 (yO h)
    omega
   simp [kA,-V,-y4,-y3,y0,lb,wa,h0,g,hp,hk,hv,c1,c2,oq]
  rw [c2] at hp ⊢;simp only [yk] at hp;simp [kA,-V,-y4,-y3,y0,lb,wa,h0,g,hp,hk,hv,c1,c2];refine tA ?_;simp [NO,-V,-y4,-y3,y0];refine gA x.mems.length (fun i s=>(s.env 3).v=.bool true/\(s.env 4).v=.ptr 4 1 0/\s.mem 4 1=some [⟨.sl sn (S.map qA),.no⟩]/\(s.env 6).v=.ptr 6 1 0/\s.mem 6 1=some ([⟨.int .i64 5,.no⟩,⟨.bool v.b,.no⟩,⟨.int .i64 v.i,.no⟩,⟨.str v.s,.no⟩,⟨.int .i64 v.id,.no⟩,⟨.sl v.kn (v.keys.map lA),.no⟩,⟨.sl v.xn (v.items.map lA),.no⟩,⟨.sl v.rn [],.no⟩])/\(s.env 150).v=.sl x.mn (x.mems.map zA)/\(s.env 151).v=.int .i64 x.mems.length/\(s.env 152).v=.int .i64 i/\SH f (x.mems.drop i) (v.items.drop i)=SH f x.mems v.items)
   (fun e s=>(e=.exit 3/\SH f x.mems v.items=true)\/(e=.ret/\SH f x.mems v.items=false/\(s.env 8).v=.bool false)) (fun i hi s k h ih uc=>?_) _ _ ?_ (fun e s h=>?_)
  ·obtain ⟨e3,e4,m4,e6,m6,ux,dv,xx,hs⟩:=h;refine tA ?_;by_cases fa:i<x.mems.length
   ·have ga:(i:Int)<x.mems.length:=by omega
    have nf:i<v.items.length:=by omega
    have g1:(x.mems.map zA)[i]?=some (zA x.mems[i]):=by simp [fa]
    have g2:(v.items.map lA)[i]?=some (lA v.items[i]):=by simp [nf]
    have hw:=GA (i:=i);have hx:=hf x.mems[i] (y7 _) v.items[i] (y7 _);rw [y8 fa,y8 nf,SH] at hs;generalize x.mems[i]=m at *
    generalize v.items[i]=u at *
    simp only [fA,zA,uA] at g1 g2 hx;cases az:f m.ty u with
    | true =>
     rw [az] at hx hs;simp [mI,-V,-y4,-y3,y0,e3,e4,m4,e6,m6,ux,dv,xx,ga,g1,g2,hx,hw];refine ih fa _ ⟨?_,?_,?_,?_,?_,?_,?_,?_,by simpa using hs⟩ <;> simp [e3,e4,m4,e6,m6,ux,dv]
    | false =>
     rw [az] at hx hs;simp [mI,-V,-y4,-y3,y0,e3,e4,m4,e6,m6,ux,dv,xx,ga,g1,g2,hx];exact uc _ _ (.inr ⟨rfl,by rw [<- hs]; rfl,by simp⟩)
   ·have ga:¬ (i:Int)<x.mems.length:=by omega
    simp [mI,-V,-y4,-y3,y0,dv,xx,ga];rw [yc (by omega),SH] at hs
    ·exact uc _ _ (.inl ⟨rfl,hs.symm⟩)
    ·intro m r v' q h; cases h
  ·simp [-V,-y4,-y3,y0]
  ·rcases h with ⟨rfl,h1⟩ | ⟨rfl,h1,h2⟩
   ·simp [-V,-y4,-y3,y0,h1]
   ·simp [-V,-y4,-y3,y0,h1,h2]
 ·have bi:¬ (v.items.length:Int)=x.mems.length:=by omega
  simp [kA,-V,-y4,-y3,y0,lb,wa,h0,g,hp,hk,hv,c1,bi]
theorem fits_ev6 (hk:x.kind=6) (hv:v.kind=6) (hp:fA 238 [.agg (lA v)] (.bool true)) (hm:fA 137 [.agg (qA x),.int .i64 v.id] (GQ x.mems v.id)) (hf:∀ m∈x.mems,∀ u∈v.items,fA 227 [uE sn S,.int .i64 m.ty,.agg (lA u),.bool true] (.bool (f m.ty u))):fA 227 [uE sn S,.int .i64 t,.agg (lA v),.bool true] (.bool (SJ f x.mems[(QB x.mems v.id).toNat]? (decide (0<=QB x.mems v.id)) v.rest.isEmpty v.items)):=by
 have lb:¬ t<0:=by omega
 simp only [fA,qA,uA,hk,hv] at hp g;refine rA (c:=kA) rfl rfl ?_;rw [uA];simp only [fA,qA,GQ,hk] at hm;have lz:=PN (fun m:SB=>decide (m.id=v.id)) x.mems;have mf:=XC (fun m:SB=>decide (m.id=v.id)) x.mems;change QB x.mems v.id≠-1->_ at lz;change -1<=QB x.mems v.id at mf;change ∀ h:QB x.mems v.id≠-1,∃ y,x.mems[(QB x.mems v.id).toNat]?=some y/\_ at lz;generalize QB x.mems v.id=ix at *
 by_cases c1:0<=ix
 ·simp only [c1,decide_true] at hm;obtain ⟨m,wr,_⟩:=lz (by omega);have zp:max ix 0=ix:=Int.max_eq_left c1;rw [zp] at hm;have g2:(x.mems.map zA)[ix.toNat]?=some (zA m):=by rw [ye,wr]; rfl
  simp only [zA] at g2;rw [wr];by_cases c2:v.items.length=1
  ·obtain ⟨u,hu⟩:=List.length_eq_one_iff.1 c2;have hf:=hf m (yl wr) u (by rw [hu]; simp);simp only [fA,uA] at hf;rw [hu] at hp ⊢;simp only [uA,yg,yk] at hp;by_cases c3:v.rest=[]
   ·rw [c3] at hp ⊢;simp only [yk] at hp;simp [kA,-V,-y4,-y3,y0,lb,wa,h0,g,hp,hk,hv,hm,g2,c1,hf,uA,SJ]
   ·simp [kA,-V,-y4,-y3,y0,lb,wa,h0,g,hp,hk,hv,hm,g2,c1,c3,uA,SJ]
  ·have oq:¬ (v.items.length:Int)=1:=by omega
   rw [PT _ _ _ _ _ c2];simp [kA,-V,-y4,-y3,y0,lb,wa,h0,g,hp,hk,hv,hm,g2,c1,oq]
 ·simp only [c1,decide_false] at hm;rw [decide_eq_false c1,FV];cases ho:x.opn <;> simp only [ho] at hm g
  ·simp [kA,-V,-y4,-y3,y0,lb,wa,h0,g,hp,hk,hv,hm,ho]
  ·simp [kA,-V,-y4,-y3,y0,lb,wa,h0,g,hp,hk,hv,hm,ho]
theorem fits_ev8 (hk:x.kind=8) (hv:v.kind=8) (hp:fA 238 [.agg (lA v)] (.bool true)) (hr:v.rest=[]) (zp:x.max<=50) (jr:∀ k∈v.keys,RP k.i) (he:fA 240 [uE sn S,.int .i64 x.elem,.sl v.xn (v.items.map lA),.bool true] (.bool (v.items.all (f x.elem)))) (xg:fA 240 [uE sn S,.int .i64 x.key,.sl v.kn (v.keys.map lA),.bool true] (.bool (v.keys.all (f x.key)))):fA 227 [uE sn S,.int .i64 t,.agg (lA v),.bool true] (.bool (decide ((v.keys.length:Int)<=x.max)&&decide (v.items.length=v.keys.length)&&v.keys.all (f x.key)&&sN v.keys&&v.items.all (f x.elem))):=by
 have lb:¬ t<0:=by omega
 simp only [fA,qA,uA,hk,hv] at hp g;refine rA (c:=kA) rfl rfl ?_;rw [uA];simp only [hr,yk] at hp ⊢;simp only [fA] at he xg;generalize v.items.all (f x.elem)=E at *
 generalize v.keys.all (f x.key)=KE at *
 by_cases c1:x.max<v.keys.length
 ·have bi:¬ (v.keys.length:Int)<=x.max:=by omega
  simp [kA,-V,-y4,-y3,y0,lb,wa,h0,g,hp,hk,hv,hr,c1,bi]
 have bi:(v.keys.length:Int)<=x.max:=by omega
 have uj:v.keys.length<=50:=by omega
 by_cases c2:v.items.length=v.keys.length
 case neg =>
  have oq:¬ (v.items.length:Int)=v.keys.length:=by omega
  simp [kA,-V,-y4,-y3,y0,lb,wa,h0,g,hp,hk,hv,hr,c1,bi,c2,oq]
 cases KE with
 | false=>simp [kA,-V,-y4,-y3,y0,lb,wa,h0,g,hp,hk,hv,hr,c1,bi,c2,xg]
 | true =>
  simp [kA,-V,-y4,-y3,y0,lb,wa,h0,g,hp,hk,hv,hr,c1,bi,c2,xg];refine gA (v.keys.length - 1) (fun i s=>(s.env 3).v=.bool true/\(s.env 4).v=.ptr 4 1 0/\s.mem 4 1=some [⟨.sl sn (S.map qA),.no⟩]/\(s.env 9).v=.ptr 9 3 0/\s.mem 9 3=some (jA x)/\(s.env 6).v=.ptr 6 1 0/\s.mem 6 1=some (rE v)/\(s.env 20).v=.int .i64 ((i + 1:Nat):Int)/\sN (v.keys.drop i)=sN v.keys)
   (fun e s=>(e=.exit 5/\sN v.keys=true/\(s.env 3).v=.bool true/\(s.env 4).v=.ptr 4 1 0/\s.mem 4 1=some [⟨.sl sn (S.map qA),.no⟩]/\(s.env 9).v=.ptr 9 3 0/\s.mem 9 3=some (jA x)/\(s.env 6).v=.ptr 6 1 0/\s.mem 6 1=some (rE v))\/(e=.ret/\sN v.keys=false/\(s.env 8).v=.bool false)) (fun i hi s k h ih uc=>?_) _ _ ?_ (fun e s h=>?_)
  ·obtain ⟨e3,e4,m4,e9,m9,e6,m6,gp,hs⟩:=h;refine tA ?_;by_cases fa:i<v.keys.length - 1
   ·have dw:i<v.keys.length:=by omega
    have up:i + 1<v.keys.length:=by omega
    have hx:=vcmp_ev v.keys[i] v.keys[i + 1] (jr _ (y7 _)) (jr _ (y7 _));have g1:(v.keys.map lA)[i]?=some (lA v.keys[i]):=by simp [dw]
    have g2:(v.keys.map lA)[i + 1]?=some (lA v.keys[i + 1]):=by simp [up]
    rw [y8 dw,y8 up,sN] at hs;have xf:(decide (tV v.keys[i] v.keys[i + 1]<0)&&sN (v.keys.drop (i + 1)))=sN v.keys:=by rw [<- hs,y8 up]
    clear hs;generalize v.keys[i]=a at *
    generalize v.keys[i + 1]=b at *
    obtain ⟨z,hz⟩:∃ z:Int,z=((i + 1:Nat):Int):=⟨_,rfl⟩;obtain ⟨y,hy⟩:∃ y:Int,y=(i:Int):=⟨_,rfl⟩;rw [<- hz] at gp;have gc:0<=z:=by omega
    have rh:0<=y:=by omega
    have kj:z<v.keys.length:=by omega
    have sw:IntKind.i64.wrap (z - 1)=y:=by rw [IntWalk.i64_in _ (by omega)]; omega
    have mq:IntKind.i64.wrap (z + 1)=((i + 1 + 1:Nat):Int):=by rw [IntWalk.i64_in _ (by omega)]; omega
    rw [show i=y.toNat from by omega] at g1;rw [show i + 1=z.toNat from by omega] at g2;simp only [fA,uA] at g1 g2 hx;by_cases hc:tV a b<0
    ·have af:¬ 0<=tV a b:=by omega
     simp [bI,-V,-y4,-y3,y0,e6,m6,gp,kj,gc,rh,sw,g1,g2,hx,af,mq];refine ih fa _ ⟨?_,?_,?_,?_,?_,?_,?_,?_,by rw [<- xf,decide_eq_true hc]; rfl⟩ <;> simp [e6,m6,e3,e4,m4,e9,m9]
    ·have af:0<=tV a b:=by omega
     simp [bI,-V,-y4,-y3,y0,e6,m6,gp,kj,gc,rh,sw,g1,g2,hx,af];exact uc _ _ (.inr ⟨rfl,by rw [<- xf,decide_eq_false hc]; rfl,by simp⟩)
   ·obtain ⟨z,hz⟩:∃ z:Int,z=((i + 1:Nat):Int):=⟨_,rfl⟩;rw [<- hz] at gp;have kj:¬ z<v.keys.length:=by omega
    have py:sN (v.keys.drop i)=true:=by
     match hd:v.keys.drop i with
     | []=>rfl
     | [_]=>rfl
     | a :: b :: r=>have:=congrArg List.length hd; simp at this; omega
    rw [py] at hs;simp [bI,-V,-y4,-y3,y0,e6,m6,gp,kj];exact uc _ _ (.inl ⟨rfl,hs.symm,by simp [e3],by simp [e4],by simp [m4],by simp [e9],by simp [m9],by simp [e6],by simp [m6]⟩)
  ·simp [hk,hv,hr]
  ·rcases h with ⟨rfl,h1,e3,e4,m4,e9,m9,e6,m6⟩ | ⟨rfl,h1,h2⟩
   ·simp [-V,-y4,-y3,y0,h1,e3,e4,m4,e9,m9,e6,m6,he,hk]
   ·simp [-V,-y4,-y3,y0,h1,h2]
end
def kX (S:List sA):Prop:=∀ x∈S,gB x=true/\x.fine
theorem lX {x:sA} (h:gB x=true) (hk:x.kind=8):x.max<=50:=by
 unfold gB tI at h;simp [hk] at h;omega
theorem rest_fit (f:Int->Vl->Bool) (x:sA) (v:Vl) (hk:v.kind=x.kind) (hz:aE v=true) (hr:v.rest≠[]):rU f x v=false:=by
 have zj:v.rest.isEmpty=false:=by simpa using hr
 by_cases h5:x.kind=5
 ·simp [rU,h5,zj]
 ·by_cases h6:x.kind=6
  ·simp [rU,h6,zj,B9]
  ·simp [aE,hk,h5,h6,hr] at hz
section
variable (sn:Bool) (S:List sA)
include sn S
theorem fits_evO (t:Int) (v:Vl) (h:bB S.length t=true):fA 227 [uE sn S,.int .i64 t,.agg (lA v),.bool true] (.bool false):=by
 refine rA (c:=kA) rfl rfl ?_;rw [uA];by_cases h0:t<0
 ·simp [kA,-V,-y4,-y3,y0,h0]
 ·have h1:(S.length:Int)<=t:=by simpa [bB,h0] using h
  simp [kA,-V,-y4,-y3,y0,h0,h1]
theorem fits_evK (t:Int) (x:sA) (v:Vl) (h0:0<=t) (wa:¬ (S.length:Int)<=t) (g:(S.map qA)[t.toNat]?=some (qA x)) (hk:¬ v.kind=x.kind):fA 227 [uE sn S,.int .i64 t,.agg (lA v),.bool true] (.bool false):=by
 have lb:¬ t<0:=by omega
 simp only [qA] at g;refine rA (c:=kA) rfl rfl ?_;rw [uA];simp [kA,-V,-y4,-y3,y0,lb,wa,h0,g,hk]
theorem fits_evZ (t:Int) (x:sA) (v:Vl) (h0:0<=t) (wa:¬ (S.length:Int)<=t) (g:(S.map qA)[t.toNat]?=some (qA x)) (hk:v.kind=x.kind) (hp:fA 238 [.agg (lA v)] (.bool false)):fA 227 [uE sn S,.int .i64 t,.agg (lA v),.bool true] (.bool false):=by
 have lb:¬ t<0:=by omega
 simp only [fA,qA,uA,hk] at hp g;refine rA (c:=kA) rfl rfl ?_;rw [uA];simp [kA,-V,-y4,-y3,y0,lb,wa,h0,g,hp,hk]
theorem fits_ev (hS:kX S):∀ (n:Nat) (t:Int) (v:Vl),SizeOf.sizeOf v<n->v.ok->v.i64->fA 227 [uE sn S,.int .i64 t,.agg (lA v),.bool true] (.bool (kG S n t v)):=by
 intro n
 induction n with
 | zero=>intro t v h; omega
 | succ n ih =>
  intro t v hn na ad;rw [kG];cases ho:bB S.length t with
  | true=>exact fits_evO sn S t v ho
  | false =>
   obtain ⟨h0,wa⟩:0<=t/\¬ (S.length:Int)<=t:=by
    simp [bB] at ho;omega
   have fa:t.toNat<S.length:=by omega
   have ma:S[t.toNat]∈S:=y7 _;have g:(S.map qA)[t.toNat]?=some (qA S[t.toNat]):=by rw [ye,y5 fa]; rfl
   rw [y5 fa];generalize S[t.toNat]=x at *
   obtain ⟨hgx,dx⟩:=hS x ma;have pu:=HI hgx;simp only [Bool.not_false,Bool.true_and];by_cases hk:v.kind=x.kind
   case neg=>rw [decide_eq_false hk]; exact fits_evK sn S t x v h0 wa g hk
   rw [decide_eq_true hk];simp only [Bool.true_and];have hp:=proper_ev v (by rw [hk]; exact pu);cases hz:aE v with
   | false=>rw [hz] at hp; exact fits_evZ sn S t x v h0 wa g hk hp
   | true =>
    rw [hz] at hp;simp only [Bool.true_and];rw [Vl.ok_def] at na;rw [Vl.i64_def] at ad;obtain ⟨o1,o2,o3,o4,o5,o6⟩:=na;obtain ⟨j1,j2,j3⟩:=ad;have ll:∀ u∈v.items,∀ t',fA 227 [uE sn S,.int .i64 t',.agg (lA u),.bool true] (.bool (kG S n t' u)):=fun u hu t'=>ih t' u (by have:=Vl.items_lt v u hu; omega) (o6 u hu) (j3 u hu)
    have xg:∀ u∈v.keys,∀ t',fA 227 [uE sn S,.int .i64 t',.agg (lA u),.bool true] (.bool (kG S n t' u)):=fun u hu t'=>ih t' u (by have:=Vl.keys_lt v u hu; omega) (o5 u hu) (j2 u hu)
    have jd:x.mems.length<=9223372036854775807:=dx.1.2.1;have tt:x.syms.length<=9223372036854775807:=dx.1.1;unfold rU;have hv:=hk;rcases kinds x.kind with e | e | e | e | e | e | e | e | e | e
    all_goals try rw [e] at hv
    ·have r:=fits_ev1 sn S t x v (kG S n) h0 wa g e hv hp; simpa [e] using r
    ·have r:=fits_ev2 sn S t x v (kG S n) h0 wa g e hv hp; simpa [e] using r
    ·have r:=fits_ev3 sn S t x v (kG S n) h0 wa g e hv hp; simpa [e] using r
    ·have r:=fits_ev4 sn S t x v (kG S n) h0 wa g e hv hp (sym_ev x v.id tt); simpa [e] using r
    ·have r:=fits_ev5 sn S t x v (kG S n) h0 wa g e hv hp jd (fun m _ u hu=>ll u hu m.ty); simpa [e] using r
    ·have r:=fits_ev6 sn S t x v (kG S n) h0 wa g e hv hp (FX x v.id jd) (fun m _ u hu=>ll u hu m.ty); simpa [e] using r
    ·have r:=fits_ev7 sn S t x v (kG S n) h0 wa g e hv hp (WW sn S x.elem (kG S n x.elem) v.items o2 v.xn fun u hu=>ll u hu x.elem); simpa [e] using r
    ·have r:=fits_ev8 sn S t x v (kG S n) h0 wa g e hv hp (by simp [aE,hv] at hz; simp [hz]) (lX hgx e) (fun u hu=>((Vl.i64_def u).1 (j2 u hu)).1) (WW sn S x.elem (kG S n x.elem) v.items o2 v.xn fun u hu=>ll u hu x.elem) (WW sn S x.key (kG S n x.key) v.keys o1 v.kn fun u hu=>xg u hu x.key); simpa [e] using r
    ·have r:=fits_ev9 sn S t x v (kG S n) h0 wa g e hv hp (WW sn S x.elem (kG S n x.elem) v.items o2 v.xn fun u hu=>ll u hu x.elem); simpa [e] using r
    ·exact absurd pu e
end
theorem rzero_ev (v:Vl) (h:1<=v.kind/\v.kind<=9):fA 182 [.agg (lA v)] (.bool (aE v)):=by
 rcases kinds v.kind with e | e | e | e | e | e | e | e | e | e
 ·exact rzero_ev1 v e
 ·exact rzero_ev2 v e
 ·exact rzero_ev3 v e
 ·exact rzero_ev4 v e
 ·exact rzero_ev5 v e
 ·exact rzero_ev6 v e
 ·exact rzero_ev7 v e
 ·exact rzero_ev8 v e
 ·exact rzero_ev9 v e
 ·exact absurd h e
theorem rest_ev (x:sA) (b:Bool):fA 184 [.agg (qA x),.sl b []] (.bool true):=by
 refine rA (c:=OL) rfl rfl ?_;simp [OL,-V,-y4,-y3,y0,qA];refine gA 0 (fun i s=>(s.env 1).v=.sl b []/\(s.env 5).v=.int .i64 0) (fun e s=>e=.exit 0) (fun i hi s k h ih hk=>?_) _ _ ?_ (fun e s h=>?_)
 ·obtain ⟨e1,e5⟩:=h;refine tA ?_;simp [KO,-V,-y4,-y3,y0,e1,e5];exact hk _ _ rfl
 ·simp
 ·subst h;simp [-V,-y4,-y3,y0]
section
variable (sn:Bool) (S:List sA) (t:Int)
include sn S t
theorem fit_evR (x:sA) (v:Vl) (h0:0<=t) (wa:¬ (S.length:Int)<=t) (g:(S.map qA)[t.toNat]?=some (qA x)) (hk:v.kind=x.kind) (hp:fA 182 [.agg (lA v)] (.bool true)) (hr:v.rest≠[]):fA 151 [uE sn S,.int .i64 t,.agg (lA v),.bool true] (.bool false):=by
 have lb:¬ t<0:=by omega
 have ah:0<v.rest.length:=by
  have:v.rest.length≠0:=fun h=>hr (yO h)
  omega
 simp only [fA,qA,uA,hk] at hp g;refine rA (c:=nA) rfl rfl ?_;rw [uA];simp [nA,-V,-y4,-y3,y0,lb,wa,h0,g,hp,hk,hr,ah]
theorem fit_evO (v:Vl) (h:bB S.length t=true):fA 151 [uE sn S,.int .i64 t,.agg (lA v),.bool true] (.bool false):=by
 refine rA (c:=nA) rfl rfl ?_;rw [uA];by_cases h0:t<0
 ·simp [nA,-V,-y4,-y3,y0,h0]
 ·have h1:(S.length:Int)<=t:=by simpa [bB,h0] using h
  simp [nA,-V,-y4,-y3,y0,h0,h1]
theorem fit_evK (x:sA) (v:Vl) (h0:0<=t) (wa:¬ (S.length:Int)<=t) (g:(S.map qA)[t.toNat]?=some (qA x)) (hk:¬ v.kind=x.kind):fA 151 [uE sn S,.int .i64 t,.agg (lA v),.bool true] (.bool false):=by
 have lb:¬ t<0:=by omega
 simp only [qA] at g;refine rA (c:=nA) rfl rfl ?_;rw [uA];simp [nA,-V,-y4,-y3,y0,lb,wa,h0,g,hk]
theorem fit_evZ (x:sA) (v:Vl) (h0:0<=t) (wa:¬ (S.length:Int)<=t) (g:(S.map qA)[t.toNat]?=some (qA x)) (hk:v.kind=x.kind) (hp:fA 182 [.agg (lA v)] (.bool false)):fA 151 [uE sn S,.int .i64 t,.agg (lA v),.bool true] (.bool false):=by
 have lb:¬ t<0:=by omega
 simp only [fA,qA,uA,hk] at hp g;refine rA (c:=nA) rfl rfl ?_;rw [uA];simp [nA,-V,-y4,-y3,y0,lb,wa,h0,g,hp,hk]
end
theorem fit_ev (sn:Bool) (S:List sA) (hS:kX S):∀ (n:Nat) (t:Int) (v:Vl),SizeOf.sizeOf v<n->v.ok->v.i64->fA 151 [uE sn S,.int .i64 t,.agg (lA v),.bool true] (.bool (kG S n t v)):=by
 intro n
 induction n with
 | zero=>intro t v h; omega
 | succ n ih =>
  intro t v hn na ad;rw [kG];cases ho:bB S.length t with
  | true=>exact fit_evO sn S t v ho
  | false =>
   obtain ⟨h0,wa⟩:0<=t/\¬ (S.length:Int)<=t:=by
    simp [bB] at ho;omega
   have fa:t.toNat<S.length:=by omega
   have ma:S[t.toNat]∈S:=y7 _;have g:(S.map qA)[t.toNat]?=some (qA S[t.toNat]):=by rw [ye,y5 fa]; rfl
   rw [y5 fa];generalize S[t.toNat]=x at *
   obtain ⟨hgx,dx⟩:=hS x ma;have pu:=HI hgx;simp only [Bool.not_false,Bool.true_and];by_cases hk:v.kind=x.kind
   case neg=>rw [decide_eq_false hk]; exact fit_evK sn S t x v h0 wa g hk
   rw [decide_eq_true hk];simp only [Bool.true_and];have hp:=rzero_ev v (by rw [hk]; exact pu);cases hz:aE v with
   | false=>rw [hz] at hp; exact fit_evZ sn S t x v h0 wa g hk hp
   | true =>
    rw [hz] at hp;simp only [Bool.true_and];rw [Vl.ok_def] at na;rw [Vl.i64_def] at ad;obtain ⟨o1,o2,o3,o4,o5,o6⟩:=na;obtain ⟨j1,j2,j3⟩:=ad;have ll:∀ u∈v.items,∀ t',fA 151 [uE sn S,.int .i64 t',.agg (lA u),.bool true] (.bool (kG S n t' u)):=fun u hu t'=>ih t' u (by have:=Vl.items_lt v u hu; omega) (o6 u hu) (j3 u hu)
    have xg:∀ u∈v.keys,∀ t',fA 151 [uE sn S,.int .i64 t',.agg (lA u),.bool true] (.bool (kG S n t' u)):=fun u hu t'=>ih t' u (by have:=Vl.keys_lt v u hu; omega) (o5 u hu) (j2 u hu)
    have jd:x.mems.length<=9223372036854775807:=dx.1.2.1;have tt:x.syms.length<=9223372036854775807:=dx.1.1;by_cases hr:v.rest=[]
    case neg=>rw [rest_fit _ x v hk hz hr]; exact fit_evR sn S t x v h0 wa g hk hp hr
    unfold rU;have hv:=hk;rcases kinds x.kind with e | e | e | e | e | e | e | e | e | e
    all_goals try rw [e] at hv
    ·have r:=fit_ev1 sn S t x v (kG S n) h0 wa g e hv hp hr; simpa [e] using r
    ·have r:=fit_ev2 sn S t x v (kG S n) h0 wa g e hv hp hr; simpa [e] using r
    ·have r:=fit_ev3 sn S t x v (kG S n) h0 wa g e hv hp hr; simpa [e] using r
    ·have r:=fit_ev4 sn S t x v (kG S n) h0 wa g e hv hp hr (Z4 x v.id tt); simpa [e] using r
    ·have r:=fit_ev5 sn S t x v (kG S n) h0 wa g e hv hp hr jd (rest_ev x v.rn) (fun m _ u hu=>ll u hu m.ty); simpa [e,hr] using r
    ·have r:=fit_ev6 sn S t x v (kG S n) h0 wa g e hv hp hr (TT x v.id jd) (fun m _ u hu=>ll u hu m.ty); simpa [e] using r
    ·have r:=fit_ev7 sn S t x v (kG S n) h0 wa g e hv hp hr (T3 sn S x.elem (kG S n x.elem) v.items o2 v.xn fun u hu=>ll u hu x.elem); simpa [e] using r
    ·have r:=fit_ev8 sn S t x v (kG S n) h0 wa g e hv hp hr (lX hgx e) (fun u hu=>((Vl.i64_def u).1 (j2 u hu)).1) (T3 sn S x.elem (kG S n x.elem) v.items o2 v.xn fun u hu=>ll u hu x.elem) (T3 sn S x.key (kG S n x.key) v.keys o1 v.kn fun u hu=>xg u hu x.key); simpa [e] using r
    ·have r:=fit_ev9 sn S t x v (kG S n) h0 wa g e hv hp hr (T3 sn S x.elem (kG S n x.elem) v.items o2 v.xn fun u hu=>ll u hu x.elem); simpa [e] using r
    ·exact absurd pu e
noncomputable def AI (S:List sA) (t:Int) (v:Vl):Bool:=kG S (SizeOf.sizeOf v + 1) t v
theorem plain_v (sn:Bool) (S:List sA) (hS:kX S) (t:Int) (v:Vl) (na:v.ok) (ad:v.i64):fA 215 [uE sn S,.int .i64 t,.agg (lA v)] (.bool (AI S t v)):=by
 have h:=fits_ev sn S hS (SizeOf.sizeOf v + 1) t v (by omega) na ad;simp only [fA,uA] at h ⊢;refine rA (c:=FK) rfl rfl ?_;unfold AI;simp [FK,-V,-y4,-y3,y0,h]
theorem T9 (sn:Bool) (S:List sA) (hS:kX S) (t:Int) (v:Vl) (na:v.ok) (ad:v.i64):fA 121 [uE sn S,.int .i64 t,.agg (lA v)] (.bool (AI S t v)):=by
 have h:=fit_ev sn S hS (SizeOf.sizeOf v + 1) t v (by omega) na ad;simp only [fA,uA] at h ⊢;refine rA (c:=IK) rfl rfl ?_;unfold AI;simp [IK,-V,-y4,-y3,y0,h]
theorem HV {l:List sA}:∀ n i,i + n=l.length->bC l n i=0->∀ j,i<=j->(h:j<l.length)->kC l j l[j]=0
 | 0,i,hi,_,j,hj,h=>by omega
 | n + 1,i,hi,h0,j,hj,h=>by
  have fa:i<l.length:=by omega
  rw [bC,y5 fa] at h0;simp only at h0;by_cases he:kC l i l[i]=0
  ·rw [if_pos he] at h0;rcases Nat.lt_or_eq_of_le hj with h1 | h1
   ·exact HV n (i + 1) (by omega) h0 j h1 h
   ·subst h1; exact he
  ·rw [if_neg he] at h0; exact absurd h0 he
theorem MH {l:List sA} {i:Nat} {t:sA} (h:kC l i t=0):gB t=true/\t.usesL.any (bB l.length)=false:=by
 unfold kC at h;by_cases h1:gB t=false
 ·rw [if_pos h1] at h; cases h
 ·rw [if_neg h1] at h;refine ⟨by simpa using h1,?_⟩;by_cases h2:t.named=true/\t.name∈(l.take i).map sA.name
  ·rw [if_pos h2] at h; cases h
  ·rw [if_neg h2] at h;by_cases h3:t.usesL.any (bB l.length)=true
   ·rw [if_pos h3] at h; cases h
   ·simpa using h3
theorem QG {l:List sA} (h:valid l=0) (j:Nat) (hj:j<l.length):kC l j l[j]=0:=by
 unfold valid at h;by_cases im:32<l.length
 ·rw [if_pos im] at h; cases h
 ·rw [if_neg im] at h;exact HV l.length 0 (by omega) h j (by omega) hj
theorem DO {s:DH} (hs:s.fine) (h:valid s.types=0):kX s.types:=fun x hx=>by
 obtain ⟨j,hj,rfl⟩:=yz hx;exact ⟨(MH (QG h j hj)).1,hs.2 _ hx⟩
noncomputable def fM (S:List sA) (m:SB):Bool:=m.has&&!AI S m.ty m.dflt
noncomputable def NH (S:List sA) (t:sA):Option Int:=(t.mems.find? (fM S)).map SB.id
noncomputable def ED (S:List sA):Nat->Nat->Option (Nat × Int)
 | 0,_=>none
 | n + 1,i=>match S[i]? with
  | some t=>(match NH S t with
   | some d=>some (i,d)
   | none=>ED S n (i + 1))
  | none=>none
def q8:Option (Nat × Int)->AV
 | some (i,d)=>.tup [.int .i64 i,.int .i64 d,.int .i64 1]
 | none=>.tup [.int .i64 0,.int .i64 0,.int .i64 0]
noncomputable def qU (S:List sA):AV:=if valid S=0 then q8 (ED S S.length 0) else .tup [.int .i64 0,.int .i64 0,.int .i64 (valid S)]
def sA.d64 (t:sA):Prop:=∀ m∈t.mems,m.dflt.i64
def DH.d64 (s:DH):Prop:=∀ t∈s.types,t.d64
theorem wX {S:List sA} {i:Nat} (h:i<S.length):ED S (S.length - i) i=match NH S S[i] with
  | some d=>some (i,d)
  | none=>ED S (S.length - (i + 1)) (i + 1):=by
 rw [show S.length - i=(S.length - (i + 1)) + 1 from by omega,ED,y5 h]
theorem dlp (sn:Bool) (S:List sA) (hS:kX S) (t:sA) (ht:t.fine) (ad:t.d64) (b:Bool) (i:Nat) (r:RV) (P:pA->Prop) (hP:∀ s s':pA,(∀ t n,t≠9->s'.mem t n=s.mem t n)->(∀ t,t ∉ [2,3,4,9,27,28,29,30,31,32,33,34,35,36,37,38,39,40,41,42,43,44,26]->s'.env t=s.env t)->P s->P s') (k:Ex->pA->Option RV)
  (hk:∀ s',NH S t=none->P s'->k (.exit 2) s'=some r) (hr:∀ (s':pA) d,NH S t=some d->(s'.env 2).v=.int .i64 i->(s'.env 3).v=.int .i64 d->(s'.env 4).v=.int .i64 1->k .ret s'=some r)
  (s:pA) (hs:P s) (h1:(s.env 1).v=.ptr 1 1 0) (m1:s.mem 1 1=some [⟨.sl sn (S.map qA),.no⟩]) (h6:(s.env 6).v=.int .i64 i) (h24:(s.env 24).v=.sl b (t.mems.map zA)) (h25:(s.env 25).v=.int .i64 t.mems.length) (h26:(s.env 26).v=.int .i64 0):GG dA eA HC s k=some r:=by
 refine gA t.mems.length (fun j s=>P s/\(s.env 1).v=.ptr 1 1 0/\s.mem 1 1=some [⟨.sl sn (S.map qA),.no⟩]/\(s.env 6).v=.int .i64 i/\(s.env 24).v=.sl b (t.mems.map zA)/\(s.env 25).v=.int .i64 t.mems.length/\(s.env 26).v=.int .i64 j/\(t.mems.drop j).find? (fM S)=t.mems.find? (fM S))
  (fun e s=>(e=.exit 2/\NH S t=none/\P s)\/(e=.ret/\∃ d,NH S t=some d/\(s.env 2).v=.int .i64 i/\(s.env 3).v=.int .i64 d/\(s.env 4).v=.int .i64 1)) (fun j hj s k h ih hk=>?_) _ _ ?_ (fun e s h=>?_)
 ·obtain ⟨hp,e1,m1,e6,e24,e25,e26,hs⟩:=h;refine tA ?_;by_cases fa:j<t.mems.length
  ·have ga:(j:Int)<t.mems.length:=by omega
   have g1:(t.mems.map zA)[j]?=some (zA t.mems[j]):=by simp [fa]
   have hw:=GA (i:=j) (by have:=ht.2.2; omega);have oo:=plain_v sn S hS t.mems[j].ty t.mems[j].dflt (ht.1.2.2 _ (y7 _)).1 (ad _ (y7 _));rw [y8 fa,List.find?_cons] at hs;generalize t.mems[j]=m at *
   simp only [zA] at g1;simp only [fA,uA] at oo;have bad:fM S m=true->NH S t=some m.id:=fun h=>by unfold NH; rw [<- hs,h]; rfl
   have good:fM S m=false->(t.mems.drop (j + 1)).find? (fM S)=t.mems.find? (fM S):=fun h=>by rw [<- hs,h]
   have nxt:∀ s':pA,(∀ t n,t≠9->s'.mem t n=s.mem t n)->(∀ t,t ∉ [2,3,4,9,27,28,29,30,31,32,33,34,35,36,37,38,39,40,41,42,43,44,26]->s'.env t=s.env t)->(s'.env 26).v=.int .i64 ((j + 1:Nat):Int)->fM S m=false->GG dA eA HC s' k=some r:=fun s' hm he h26 hb=>by
    refine ih fa _ ⟨hP s s' hm he hp,?_,?_,?_,?_,?_,h26,good hb⟩
    ·rw [he 1 (by decide)]; exact e1
    ·rw [hm 1 1 (by decide)]; exact m1
    ·rw [he 6 (by decide)]; exact e6
    ·rw [he 24 (by decide)]; exact e24
    ·rw [he 25 (by decide)]; exact e25
   cases hh:m.has with
   | false =>
    simp [HC,-V,-y4,-y3,y0,e1,m1,e6,e24,e25,e26,ga,g1,hh,hw];refine nxt _ ?_ ?_ ?_ (by simp [fM,hh])
    ·intro t n ht; simp [wB,ht]
    ·intro t ht;simp only [yh,yH,or_false,not_or] at ht;simp [tG,ht]
    ·simp
   | true =>
    cases kw:AI S m.ty m.dflt with
    | true =>
     rw [kw] at oo;simp [HC,-V,-y4,-y3,y0,e1,m1,e6,e24,e25,e26,ga,g1,hh,oo,hw];refine nxt _ ?_ ?_ ?_ (by simp [fM,hh,kw])
     ·intro t n ht; simp [wB,ht]
     ·intro t ht;simp only [yh,yH,or_false,not_or] at ht;simp [tG,ht]
     ·simp
    | false =>
     rw [kw] at oo;simp [HC,-V,-y4,-y3,y0,e1,m1,e6,e24,e25,e26,ga,g1,hh,oo];exact hk _ _ (.inr ⟨rfl,m.id,bad (by simp [fM,hh,kw]),by simp,by simp,by simp⟩)
  ·have ga:¬ (j:Int)<t.mems.length:=by omega
   simp [HC,-V,-y4,-y3,y0,e25,e26,ga];rw [yc (by omega)] at hs;refine hk _ _ (.inl ⟨rfl,by unfold NH; rw [<- hs]; rfl,hP s _ ?_ ?_ hp⟩)
   ·intro t n _; rfl
   ·intro t ht;simp only [yh,yH,or_false,not_or] at ht;simp [tG,ht]
 ·simp [hs,h1,m1,h6,h24,h25,h26]
 ·rcases h with ⟨rfl,h1,h2⟩ | ⟨rfl,d,h1,h2,h3,h4⟩
  ·exact hk s h1 h2
  ·exact hr s d h1 h2 h3 h4
theorem dflts_ev (s:DH) (hs:s.fine) (ad:s.d64):fA 204 [.agg (TA s)] (qU s.types):=by
 have hv:=uZ s hs;simp only [fA,TA] at hv;refine rA (c:=AF) rfl rfl ?_;unfold qU;by_cases h0:valid s.types=0
 case neg =>
  rw [if_neg h0];simp [AF,-V,-y4,-y3,y0,TA,hv,h0]
 have hS:=DO hs h0;rw [if_pos h0];rw [h0] at hv;simp [AF,-V,-y4,-y3,y0,TA,hv];refine gA s.types.length (fun i σ=>(σ.env 1).v=.ptr 1 1 0/\σ.mem 1 1=some [⟨.sl s.nl (s.types.map qA),.no⟩]/\(σ.env 16).v=.sl s.nl (s.types.map qA)/\(σ.env 17).v=.int .i64 s.types.length/\(σ.env 18).v=.int .i64 i/\ED s.types (s.types.length - i) i=ED s.types s.types.length 0)
  (fun e σ=>(e=.exit 0/\ED s.types s.types.length 0=none)\/(e=.ret/\∃ j d,ED s.types s.types.length 0=some (j,d)/\(σ.env 2).v=.int .i64 j/\(σ.env 3).v=.int .i64 d/\(σ.env 4).v=.int .i64 1)) (fun i hi σ k h ih hk=>?_) _ _ ?_ (fun e σ h=>?_)
 ·obtain ⟨e1,m1,mc,je,zl,hd⟩:=h;refine tA ?_;by_cases fa:i<s.types.length
  ·have ga:(i:Int)<s.types.length:=by omega
   have g1:(s.types.map qA)[i]?=some (qA s.types[i]):=by simp [fa]
   have hw:=GA (i:=i) (by have:=hs.1; omega);have fe:=hs.2 _ (y7 fa);have xy:=ad _ (y7 fa);rw [wX fa] at hd;generalize s.types[i]=t at *
   simp only [qA] at g1;simp [UH,-V,-y4,-y3,y0,e1,m1,mc,je,zl,ga,g1];refine dlp s.nl s.types hS t fe xy t.mn i _ (fun σ2=>(σ2.env 1).v=.ptr 1 1 0/\σ2.mem 1 1=some [⟨.sl s.nl (s.types.map qA),.no⟩]/\(σ2.env 16).v=.sl s.nl (s.types.map qA)/\(σ2.env 17).v=.int .i64 s.types.length/\(σ2.env 18).v=.int .i64 i) (fun a b hm he h=>?_) _ (fun σ2 hn h=>?_) (fun σ2 d hn q2 q3 q4=>?_) _ ⟨?_,?_,?_,?_,?_⟩ ?_ ?_ ?_ ?_ ?_ ?_
   ·rw [hm 1 1 (by decide),he 1 (by decide),he 16 (by decide),he 17 (by decide),he 18 (by decide)];exact h
   ·obtain ⟨f1,fm,f16,f17,f18⟩:=h;simp [-V,-y4,-y3,y0,f18,hw];refine ih fa _ ⟨?_,?_,?_,?_,?_,by rw [<- hd,hn]⟩ <;> simp [f1,fm,f16,f17]
   ·simp [-V,-y4,-y3,y0];exact hk _ _ (.inr ⟨rfl,i,d,by rw [<- hd,hn],q2,q3,q4⟩)
   all_goals simp [e1,m1,mc,je,zl]
  ·have ga:¬ (i:Int)<s.types.length:=by omega
   simp [UH,-V,-y4,-y3,y0,je,zl,ga];exact hk _ _ (.inl ⟨rfl,by rw [<- hd,show s.types.length - i=0 from by omega,ED]⟩)
 ·simp
 ·rcases h with ⟨rfl,h1⟩ | ⟨rfl,j,d,h1,h2,h3,h4⟩
  ·rw [h1]; simp [-V,-y4,-y3,y0,q8]
  ·rw [h1]; simp [-V,-y4,-y3,y0,h2,h3,h4,q8]
theorem rdlp (sn:Bool) (S:List sA) (hS:kX S) (t:sA) (ht:t.fine) (ad:t.d64) (b:Bool) (i:Nat) (r:RV) (P:pA->Prop) (hP:∀ s s':pA,s'.mem=s.mem->(∀ t,t ∉ [2,3,4,8,27,28,29,30,31,32,33,34,35,36,37,38,39,40,41,42,43,44,45,46,47,48,49,50,51,52]->s'.env t=s.env t)->P s->P s') (k:Ex->pA->Option RV)
  (hk:∀ s',NH S t=none->P s'->k (.exit 2) s'=some r) (hr:∀ (s':pA) d,NH S t=some d->(s'.env 2).v=.int .i64 i->(s'.env 3).v=.int .i64 d->(s'.env 4).v=.int .i64 1->k .ret s'=some r)
  (s:pA) (hs:P s) (h1:(s.env 1).v=.ptr 1 1 0) (m1:s.mem 1 1=some [⟨.sl sn (S.map qA),.no⟩]) (h6:(s.env 6).v=.int .i64 i) (h7:(s.env 7).v=.sl b (t.mems.map zA)) (h8:(s.env 8).v=.int .i64 0):GG dA eA GC s k=some r:=by
 refine gA t.mems.length (fun j s=>P s/\(s.env 1).v=.ptr 1 1 0/\s.mem 1 1=some [⟨.sl sn (S.map qA),.no⟩]/\(s.env 6).v=.int .i64 i/\(s.env 7).v=.sl b (t.mems.map zA)/\(s.env 8).v=.int .i64 j/\(t.mems.drop j).find? (fM S)=t.mems.find? (fM S))
  (fun e s=>(e=.exit 2/\NH S t=none/\P s)\/(e=.ret/\∃ d,NH S t=some d/\(s.env 2).v=.int .i64 i/\(s.env 3).v=.int .i64 d/\(s.env 4).v=.int .i64 1)) (fun j hj s k h ih hk=>?_) _ _ ?_ (fun e s h=>?_)
 ·obtain ⟨hp,e1,m1,e6,e7,e8,hs⟩:=h;refine tA ?_;by_cases fa:j<t.mems.length
  ·have ga:(j:Int)<t.mems.length:=by omega
   have g1:(t.mems.map zA)[j]?=some (zA t.mems[j]):=by simp [fa]
   have hw:=GA (i:=j) (by have:=ht.2.2; omega);have oo:=T9 sn S hS t.mems[j].ty t.mems[j].dflt (ht.1.2.2 _ (y7 _)).1 (ad _ (y7 _));rw [y8 fa,List.find?_cons] at hs;generalize t.mems[j]=m at *
   simp only [zA] at g1;simp only [fA,uA] at oo;have bad:fM S m=true->NH S t=some m.id:=fun h=>by unfold NH; rw [<- hs,h]; rfl
   have good:fM S m=false->(t.mems.drop (j + 1)).find? (fM S)=t.mems.find? (fM S):=fun h=>by rw [<- hs,h]
   have nxt:∀ s':pA,s'.mem=s.mem->(∀ t,t ∉ [2,3,4,8,27,28,29,30,31,32,33,34,35,36,37,38,39,40,41,42,43,44,45,46,47,48,49,50,51,52]->s'.env t=s.env t)->(s'.env 8).v=.int .i64 ((j + 1:Nat):Int)->fM S m=false->GG dA eA GC s' k=some r:=fun s' hm he h26 hb=>by
    refine ih fa _ ⟨hP s s' hm he hp,?_,?_,?_,?_,h26,good hb⟩
    ·rw [he 1 (by decide)]; exact e1
    ·rw [hm]; exact m1
    ·rw [he 6 (by decide)]; exact e6
    ·rw [he 7 (by decide)]; exact e7
   cases hh:m.has with
   | false =>
    simp [GC,-V,-y4,-y3,y0,e1,m1,e6,e7,e8,ga,g1,hh,hw];refine nxt _ rfl ?_ ?_ (by simp [fM,hh])
    ·intro t ht;simp only [yh,yH,or_false,not_or] at ht;simp [tG,ht]
    ·simp
   | true =>
    cases kw:AI S m.ty m.dflt with
    | true =>
     rw [kw] at oo;simp [GC,-V,-y4,-y3,y0,e1,m1,e6,e7,e8,ga,g1,hh,oo,hw];refine nxt _ rfl ?_ ?_ (by simp [fM,hh,kw])
     ·intro t ht;simp only [yh,yH,or_false,not_or] at ht;simp [tG,ht]
     ·simp
    | false =>
     rw [kw] at oo;simp [GC,-V,-y4,-y3,y0,e1,m1,e6,e7,e8,ga,g1,hh,oo];exact hk _ _ (.inr ⟨rfl,m.id,bad (by simp [fM,hh,kw]),by simp,by simp,by simp⟩)
  ·have ga:¬ (j:Int)<t.mems.length:=by omega
   simp [GC,-V,-y4,-y3,y0,e7,e8,ga];rw [yc (by omega)] at hs;refine hk _ _ (.inl ⟨rfl,by unfold NH; rw [<- hs]; rfl,hP s _ rfl ?_ hp⟩);intro t ht;simp only [yh,yH,or_false,not_or] at ht;simp [tG,ht]
 ·simp [hs,h1,m1,h6,h7,h8]
 ·rcases h with ⟨rfl,h1,h2⟩ | ⟨rfl,d,h1,h2,h3,h4⟩
  ·exact hk s h1 h2
  ·exact hr s d h1 h2 h3 h4
theorem rdflts_ev (s:DH) (hs:s.fine) (ad:s.d64):fA 206 [.agg (TA s)] (qU s.types):=by
 have hv:=qV s hs;simp only [fA,TA] at hv;refine rA (c:=OF) rfl rfl ?_;unfold qU;by_cases h0:valid s.types=0
 case neg =>
  rw [if_neg h0];simp [OF,-V,-y4,-y3,y0,TA,hv,h0]
 have hS:=DO hs h0;rw [if_pos h0];rw [h0] at hv;simp [OF,-V,-y4,-y3,y0,TA,hv];refine gA s.types.length (fun i σ=>(σ.env 1).v=.ptr 1 1 0/\σ.mem 1 1=some [⟨.sl s.nl (s.types.map qA),.no⟩]/\(σ.env 6).v=.int .i64 i/\ED s.types (s.types.length - i) i=ED s.types s.types.length 0)
  (fun e σ=>(e=.exit 0/\ED s.types s.types.length 0=none)\/(e=.ret/\∃ j d,ED s.types s.types.length 0=some (j,d)/\(σ.env 2).v=.int .i64 j/\(σ.env 3).v=.int .i64 d/\(σ.env 4).v=.int .i64 1)) (fun i hi σ k h ih hk=>?_) _ _ ?_ (fun e σ h=>?_)
 ·obtain ⟨e1,m1,e6,hd⟩:=h;refine tA ?_;by_cases fa:i<s.types.length
  ·have ga:(i:Int)<s.types.length:=by omega
   have g1:(s.types.map qA)[i]?=some (qA s.types[i]):=by simp [fa]
   have hw:=GA (i:=i) (by have:=hs.1; omega);have fe:=hs.2 _ (y7 fa);have xy:=ad _ (y7 fa);rw [wX fa] at hd;generalize s.types[i]=t at *
   simp only [qA] at g1;simp [TH,-V,-y4,-y3,y0,e1,m1,e6,ga,g1];refine rdlp s.nl s.types hS t fe xy t.mn i _ (fun σ2=>(σ2.env 1).v=.ptr 1 1 0/\σ2.mem 1 1=some [⟨.sl s.nl (s.types.map qA),.no⟩]/\(σ2.env 6).v=.int .i64 i) (fun a b hm he h=>?_) _ (fun σ2 hn h=>?_) (fun σ2 d hn q2 q3 q4=>?_) _ ⟨?_,?_,?_⟩ ?_ ?_ ?_ ?_ ?_
   ·rw [hm,he 1 (by decide),he 6 (by decide)];exact h
   ·obtain ⟨f1,fm,f6⟩:=h;simp [-V,-y4,-y3,y0,f6,hw];refine ih fa _ ⟨?_,?_,?_,by rw [<- hd,hn]⟩ <;> simp [f1,fm]
   ·simp [-V,-y4,-y3,y0];exact hk _ _ (.inr ⟨rfl,i,d,by rw [<- hd,hn],q2,q3,q4⟩)
   all_goals simp [e1,m1,e6]
  ·have ga:¬ (i:Int)<s.types.length:=by omega
   simp [TH,-V,-y4,-y3,y0,e1,m1,e6,ga];exact hk _ _ (.inl ⟨rfl,by rw [<- hd,show s.types.length - i=0 from by omega,ED]⟩)
 ·simp
 ·rcases h with ⟨rfl,h1⟩ | ⟨rfl,j,d,h1,h2,h3,h4⟩
  ·rw [h1]; simp [-V,-y4,-y3,y0,q8]
  ·rw [h1]; simp [-V,-y4,-y3,y0,h2,h3,h4,q8]
noncomputable def eE (S:List sA):Int:=if valid S=0 then (match ED S S.length 0 with
 | some _=>1
 | none=>0) else valid S
theorem P0 {S:List sA} (h:valid S=0):∃ i d,qU S=.tup [.int .i64 i,.int .i64 d,.int .i64 (eE S)]:=by
 unfold qU eE;rw [if_pos h,if_pos h];cases ED S S.length 0 with
 | none=>exact ⟨_,_,rfl⟩
 | some p=>exact ⟨_,_,rfl⟩
theorem right_ev (s:DH) (hs:s.fine) (ad:s.d64):fA 173 [.agg (TA s)] (.int .i64 (eE s.types)):=by
 have hv:=uZ s hs;have hd:=dflts_ev s hs ad;refine rA (c:=pG) rfl rfl ?_;simp only [fA,TA] at hv hd;by_cases h0:valid s.types=0
 ·obtain ⟨i,d,hA⟩:=P0 h0;rw [hA] at hd;rw [h0] at hv;simp [pG,-V,-y4,-y3,y0,TA,hv,hd]
 ·unfold eE;rw [if_neg h0];simp [pG,-V,-y4,-y3,y0,TA,hv,h0]
theorem rerror_ev (s:DH) (hs:s.fine) (ad:s.d64):fA 175 [.agg (TA s)] (.int .i64 (eE s.types)):=by
 have hv:=qV s hs;have hd:=rdflts_ev s hs ad;refine rA (c:=KH) rfl rfl ?_;simp only [fA,TA] at hv hd;by_cases h0:valid s.types=0
 ·obtain ⟨i,d,hA⟩:=P0 h0;rw [hA] at hd;rw [h0] at hv;simp [KH,-V,-y4,-y3,y0,TA,hv,hd]
 ·unfold eE;rw [if_neg h0];simp [KH,-V,-y4,-y3,y0,TA,hv,h0]
end Go.Proofs.YtbnlmgncbgaepaaGreat
