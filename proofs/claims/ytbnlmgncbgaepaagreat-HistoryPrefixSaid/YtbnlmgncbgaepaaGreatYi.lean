/- A part of the proof. -/
import Derived.Test.YtbnlmgncbgaepaaGreatYh
set_option linter.all false
set_option maxRecDepth 100000
set_option maxHeartbeats 8000000
open Option renaming bind_some → V
open List renaming range_succ → J, map_map → y0, getElem?_eq_getElem → y4, getElem_mem → y6, drop_eq_getElem_cons → y9, getElem?_map → yc, drop_eq_nil_of_le → ye, mem_cons → yh, map_cons → yj, mem_of_getElem? → yk, map_nil → yt, getElem_of_mem → yB, not_mem_nil → yJ, eq_nil_of_length_eq_zero → yS
open Int renaming toNat_lt → y3
namespace Go.Proofs.YtbnlmgncbgaepaaGreat
open Go
section
variable (sn:Bool) (S:List dA) (t:Int) (x:dA) (v:Vl) (f:Int->Vl->Bool) (h0:0<=t) (za:¬ (S.length:Int)<=t) (g:(S.map rA)[t.toNat]?=some (rA x))
include sn S t x v f h0 za g
theorem fit_ev1 (hk:x.kind=1) (hv:v.kind=1) (hp:fA 182 [.agg (zA v)] (.bool true)) (hr:v.rest=[]):fA 151 [ND sn S,.int .i64 t,.agg (zA v),.bool true] (.bool (true)):=by
 have pb:¬ t<0:=by omega
 simp only [fA,rA,uA,hk,hv] at hp g;refine wA (c:=cA) rfl rfl ?_;rw [uA];simp only [hr,yt] at hp ⊢;simp [cA,-V,-y3,-y0,J,pb,za,h0,g,hp,hk,hv,hr]
theorem fit_ev2 (hk:x.kind=2) (hv:v.kind=2) (hp:fA 182 [.agg (zA v)] (.bool true)) (hr:v.rest=[]):fA 151 [ND sn S,.int .i64 t,.agg (zA v),.bool true] (.bool (decide (x.low<=v.i)&&decide (v.i<=x.high))):=by
 have pb:¬ t<0:=by omega
 simp only [fA,rA,uA,hk,hv] at hp g;refine wA (c:=cA) rfl rfl ?_;rw [uA];simp only [hr,yt] at hp ⊢;by_cases c1:x.low<=v.i
 ·simp [cA,-V,-y3,-y0,J,pb,za,h0,g,hp,hk,hv,hr,c1]
 ·simp [cA,-V,-y3,-y0,J,pb,za,h0,g,hp,hk,hv,hr,c1]
theorem fit_ev3 (hk:x.kind=3) (hv:v.kind=3) (hp:fA 182 [.agg (zA v)] (.bool true)) (hr:v.rest=[]):fA 151 [ND sn S,.int .i64 t,.agg (zA v),.bool true] (.bool (decide ((v.s.size:Int)<=x.max))):=by
 have pb:¬ t<0:=by omega
 simp only [fA,rA,uA,hk,hv] at hp g;refine wA (c:=cA) rfl rfl ?_;rw [uA];simp only [hr,yt] at hp ⊢;simp [cA,-V,-y3,-y0,J,pb,za,h0,g,hp,hk,hv,hr]
theorem fit_ev4 (hk:x.kind=4) (hv:v.kind=4) (hp:fA 182 [.agg (zA v)] (.bool true)) (hr:v.rest=[]) (hs:fA 123 [.agg (rA x),.int .i64 v.id] (BV x.syms v.id)):fA 151 [ND sn S,.int .i64 t,.agg (zA v),.bool true] (.bool (decide (0<=xG x.syms v.id))):=by
 have pb:¬ t<0:=by omega
 simp only [fA,rA,uA,hk,hv] at hp g;refine wA (c:=cA) rfl rfl ?_;rw [uA];simp only [hr,yt] at hp ⊢;simp only [fA,rA,BV,hk] at hs;generalize xG x.syms v.id=ix at *
 by_cases c1:0<=ix
 ·simp only [c1,decide_true] at hs;simp [cA,-V,-y3,-y0,J,pb,za,h0,g,hp,hk,hv,hr,hs,c1]
 ·simp only [c1,decide_false] at hs;cases ho:x.opn <;> simp only [ho] at hs g
  ·simp [cA,-V,-y3,-y0,J,pb,za,h0,g,hp,hk,hv,hr,hs,c1,ho]
  ·simp [cA,-V,-y3,-y0,J,pb,za,h0,g,hp,hk,hv,hr,hs,c1,ho]
theorem fit_ev7 (hk:x.kind=7) (hv:v.kind=7) (hp:fA 182 [.agg (zA v)] (.bool true)) (hr:v.rest=[]) (he:fA 185 [ND sn S,.int .i64 x.elem,.sl v.xn (v.items.map zA),.bool true] (.bool (v.items.all (f x.elem)))):fA 151 [ND sn S,.int .i64 t,.agg (zA v),.bool true] (.bool (decide ((v.items.length:Int)<=x.max)&&v.items.all (f x.elem))):=by
 have pb:¬ t<0:=by omega
 simp only [fA,rA,uA,hk,hv] at hp g;refine wA (c:=cA) rfl rfl ?_;rw [uA];simp only [hr,yt] at hp ⊢;simp only [fA] at he;generalize v.items.all (f x.elem)=E at *
 by_cases c1:(v.items.length:Int)<=x.max
 ·simp [cA,-V,-y3,-y0,J,pb,za,h0,g,hp,hk,hv,hr,c1,he]
 ·simp [cA,-V,-y3,-y0,J,pb,za,h0,g,hp,hk,hv,hr,c1]
theorem fit_ev9 (hk:x.kind=9) (hv:v.kind=9) (hp:fA 182 [.agg (zA v)] (.bool true)) (hr:v.rest=[]) (he:fA 185 [ND sn S,.int .i64 x.elem,.sl v.xn (v.items.map zA),.bool true] (.bool (v.items.all (f x.elem)))):fA 151 [ND sn S,.int .i64 t,.agg (zA v),.bool true] (.bool (decide (v.items.length<=1)&&v.items.all (f x.elem))):=by
 have pb:¬ t<0:=by omega
 simp only [fA,rA,uA,hk,hv] at hp g;refine wA (c:=cA) rfl rfl ?_;rw [uA];simp only [hr,yt] at hp ⊢;simp only [fA] at he;generalize v.items.all (f x.elem)=E at *
 by_cases c1:v.items.length<=1
 ·have c2:(v.items.length:Int)<=1:=by omega
  simp [cA,-V,-y3,-y0,J,pb,za,h0,g,hp,hk,hv,hr,c1,c2,he]
 ·have c2:¬ (v.items.length:Int)<=1:=by omega
  simp [cA,-V,-y3,-y0,J,pb,za,h0,g,hp,hk,hv,hr,c1,c2]
end
section
variable (sn:Bool) (S:List dA) (t:Int) (x:dA) (v:Vl) (f:Int->Vl->Bool) (h0:0<=t) (za:¬ (S.length:Int)<=t) (g:(S.map rA)[t.toNat]?=some (rA x))
include sn S t x v f h0 za g
theorem fit_ev5 (hk:x.kind=5) (hv:v.kind=5) (hp:fA 182 [.agg (zA v)] (.bool true)) (hr:v.rest=[]) (uq:x.mems.length<=9223372036854775807) (jg:fA 184 [.agg (rA x),.sl v.rn []] (.bool true)) (hf:∀ m∈x.mems,∀ u∈v.items,fA 151 [ND sn S,.int .i64 m.ty,.agg (zA u),.bool true] (.bool (f m.ty u))):fA 151 [ND sn S,.int .i64 t,.agg (zA v),.bool true] (.bool (decide (v.items.length=x.mems.length)&&IH f x.mems v.items)):=by
 have pb:¬ t<0:=by omega
 simp only [fA,rA,uA,hk,hv] at hp g;refine wA (c:=cA) rfl rfl ?_;rw [uA];simp only [hr,yt] at hp ⊢;simp only [fA,rA,hk] at jg;by_cases c1:v.items.length=x.mems.length
 ·skip
  simp [cA,-V,-y3,-y0,J,pb,za,h0,g,hp,hk,hv,c1,hr,jg];refine lA v.items.length (fun i s=>(s.env 3).v=.bool true/\(s.env 4).v=.ptr 4 1 0/\s.mem 4 1=some [⟨.sl sn (S.map rA),.no⟩]/\(s.env 6).v=.ptr 6 1 0/\s.mem 6 1=some ([⟨.int .i64 v.kind,.no⟩,⟨.bool v.b,.no⟩,⟨.int .i64 v.i,.no⟩,⟨.str v.s,.no⟩,⟨.int .i64 v.id,.no⟩,⟨.sl v.kn (v.keys.map zA),.no⟩,⟨.sl v.xn (v.items.map zA),.no⟩,⟨.sl v.rn (v.rest.map jO),.no⟩])/\(s.env 9).v=.ptr 9 3 0/\s.mem 9 3=some (jA x)/\(s.env 12).v=.int .i64 i/\IH f (x.mems.drop i) (v.items.drop i)=IH f x.mems v.items)
   (fun e s=>(e=.exit 1/\IH f x.mems v.items=true)\/(e=.ret/\IH f x.mems v.items=false/\(s.env 8).v=.bool false)) (fun i hi s k h ih zc=>?_) _ _ ?_ (fun e s h=>?_)
  ·obtain ⟨e3,e4,m4,e6,m6,e9,m9,e12,hs⟩:=h;refine tA ?_;by_cases fh:i<v.items.length
   ·have ga:(i:Int)<v.items.length:=by omega
    have fa:i<x.mems.length:=by omega
    have g1:(x.mems.map bA)[i]?=some (bA x.mems[i]):=by simp [fa]
    have g2:(v.items.map zA)[i]?=some (zA v.items[i]):=by simp [fh]
    have hw:=ZA (i:=i);have hx:=hf x.mems[i] (y6 _) v.items[i] (y6 _);rw [y9 fa,y9 fh,IH] at hs;generalize x.mems[i]=m at *
    generalize v.items[i]=u at *
    simp only [fA,bA,uA] at g1 g2 hx;cases az:f m.ty u with
    | true =>
     rw [az] at hx hs;simp [uJ,-V,-y3,-y0,J,e3,e4,m4,e6,m6,e9,m9,e12,ga,g1,g2,hx,hw];refine ih fh _ ⟨?_,?_,?_,?_,?_,?_,?_,?_,by simpa using hs⟩ <;> simp [e3,e4,m4,e6,m6,e9,m9]
    | false =>
     rw [az] at hx hs;simp [uJ,-V,-y3,-y0,J,e3,e4,m4,e6,m6,e9,m9,e12,ga,g1,g2,hx];exact zc _ _ (.inr ⟨rfl,by rw [<- hs]; rfl,by simp⟩)
   ·have ga:¬ (i:Int)<v.items.length:=by omega
    simp [uJ,-V,-y3,-y0,J,e6,m6,e12,ga];have hd:x.mems.drop i=[]:=ye (by omega);rw [hd,IH] at hs
    ·exact zc _ _ (.inl ⟨rfl,hs.symm⟩)
    ·intro m r v' q h; cases h
  ·simp [hk,hv,hr]
  ·rcases h with ⟨rfl,h1⟩ | ⟨rfl,h1,h2⟩
   ·simp [-V,-y3,-y0,J,h1]
   ·simp [-V,-y3,-y0,J,h1,h2]
 ·have ni:¬ (v.items.length:Int)=x.mems.length:=by omega
  simp [cA,-V,-y3,-y0,J,pb,za,h0,g,hp,hk,hv,hr,c1,ni]
theorem fit_ev6 (hk:x.kind=6) (hv:v.kind=6) (hp:fA 182 [.agg (zA v)] (.bool true)) (hr:v.rest=[]) (hm:fA 99 [.agg (rA x),.int .i64 v.id] (bQ x.mems v.id)) (hf:∀ m∈x.mems,∀ u∈v.items,fA 151 [ND sn S,.int .i64 m.ty,.agg (zA u),.bool true] (.bool (f m.ty u))):fA 151 [ND sn S,.int .i64 t,.agg (zA v),.bool true] (.bool (UJ f x.mems[(QB x.mems v.id).toNat]? (decide (0<=QB x.mems v.id)) v.rest.isEmpty v.items)):=by
 have pb:¬ t<0:=by omega
 simp only [fA,rA,uA,hk,hv] at hp g;refine wA (c:=cA) rfl rfl ?_;rw [uA];simp only [hr,yt] at hp ⊢;simp only [fA,rA,bQ,hk] at hm;have nz:=NP (fun m:uC=>decide (m.id=v.id)) x.mems;have se:=wF (fun m:uC=>decide (m.id=v.id)) x.mems;change QB x.mems v.id≠-1->_ at nz;change -1<=QB x.mems v.id at se;change ∀ h:QB x.mems v.id≠-1,∃ y,x.mems[(QB x.mems v.id).toNat]?=some y/\_ at nz;generalize QB x.mems v.id=ix at *
 by_cases c1:0<=ix
 ·simp only [c1,decide_true] at hm;obtain ⟨m,ft,_⟩:=nz (by omega);have wu:max ix 0=ix:=Int.max_eq_left c1;rw [wu] at hm;have g2:(x.mems.map bA)[ix.toNat]?=some (bA m):=by rw [yc,ft]; rfl
  simp only [bA] at g2;rw [ft];by_cases c2:v.items.length=1
  ·obtain ⟨u,hu⟩:=List.length_eq_one_iff.1 c2;have hf:=hf m (yk ft) u (by rw [hu]; simp);simp only [fA,uA] at hf;rw [hu] at hp ⊢;simp only [uA,yj,yt] at hp;simp [cA,-V,-y3,-y0,J,pb,za,h0,g,hp,hk,hv,hr,hm,g2,c1,hf,uA,UJ]
  ·have zq:¬ (v.items.length:Int)=1:=by omega
   rw [dT _ _ _ _ _ c2];simp [cA,-V,-y3,-y0,J,pb,za,h0,g,hp,hk,hv,hr,hm,g2,c1,zq]
 ·simp only [c1,decide_false] at hm;rw [decide_eq_false c1,gV];cases ho:x.opn <;> simp only [ho] at hm g
  ·simp [cA,-V,-y3,-y0,J,pb,za,h0,g,hp,hk,hv,hr,hm,ho]
  ·simp [cA,-V,-y3,-y0,J,pb,za,h0,g,hp,hk,hv,hr,hm,ho]
theorem fit_ev8 (hk:x.kind=8) (hv:v.kind=8) (hp:fA 182 [.agg (zA v)] (.bool true)) (hr:v.rest=[]) (wu:x.max<=50) (ur:∀ k∈v.keys,lS k.i) (he:fA 185 [ND sn S,.int .i64 x.elem,.sl v.xn (v.items.map zA),.bool true] (.bool (v.items.all (f x.elem)))) (eh:fA 185 [ND sn S,.int .i64 x.key,.sl v.kn (v.keys.map zA),.bool true] (.bool (v.keys.all (f x.key)))):fA 151 [ND sn S,.int .i64 t,.agg (zA v),.bool true] (.bool (decide ((v.keys.length:Int)<=x.max)&&decide (v.items.length=v.keys.length)&&v.keys.all (f x.key)&&NM v.keys&&v.items.all (f x.elem))):=by
 have pb:¬ t<0:=by omega
 simp only [fA,rA,uA,hk,hv] at hp g;refine wA (c:=cA) rfl rfl ?_;rw [uA];simp only [hr,yt] at hp ⊢;simp only [fA] at he eh;generalize v.items.all (f x.elem)=E at *
 generalize v.keys.all (f x.key)=KE at *
 by_cases c1:x.max<v.keys.length
 ·have ni:¬ (v.keys.length:Int)<=x.max:=by omega
  simp [cA,-V,-y3,-y0,J,pb,za,h0,g,hp,hk,hv,hr,c1,ni]
 have ni:(v.keys.length:Int)<=x.max:=by omega
 have nj:v.keys.length<=50:=by omega
 by_cases c2:v.items.length=v.keys.length
 case neg =>
  have zq:¬ (v.items.length:Int)=v.keys.length:=by omega
  simp [cA,-V,-y3,-y0,J,pb,za,h0,g,hp,hk,hv,hr,c1,ni,c2,zq]
 cases KE with
 | false=>simp [cA,-V,-y3,-y0,J,pb,za,h0,g,hp,hk,hv,hr,c1,ni,c2,eh]
 | true =>
  cases E with
  | false=>simp [cA,-V,-y3,-y0,J,pb,za,h0,g,hp,hk,hv,hr,c1,ni,c2,eh,he]
  | true =>
  simp [cA,-V,-y3,-y0,J,pb,za,h0,g,hp,hk,hv,hr,c1,ni,c2,eh,he];refine lA (v.keys.length - 1) (fun i s=>(s.env 6).v=.ptr 6 1 0/\s.mem 6 1=some (PR v)/\(s.env 15).v=.int .i64 ((i + 1:Nat):Int)/\NM (v.keys.drop i)=NM v.keys)
   (fun e s=>(e=.exit 3/\NM v.keys=true)\/(e=.ret/\NM v.keys=false/\(s.env 8).v=.bool false)) (fun i hi s k h ih zc=>?_) _ _ ?_ (fun e s h=>?_)
  ·obtain ⟨e6,m6,e20,hs⟩:=h;refine tA ?_;by_cases fa:i<v.keys.length - 1
   ·have dq:i<v.keys.length:=by omega
    have gn:i + 1<v.keys.length:=by omega
    have hx:=rvcmp_ev v.keys[i] v.keys[i + 1] (ur _ (y6 _)) (ur _ (y6 _));have g1:(v.keys.map zA)[i]?=some (zA v.keys[i]):=by simp [dq]
    have g2:(v.keys.map zA)[i + 1]?=some (zA v.keys[i + 1]):=by simp [gn]
    rw [y9 dq,y9 gn,NM] at hs;have ei:(decide (AU v.keys[i] v.keys[i + 1]<0)&&NM (v.keys.drop (i + 1)))=NM v.keys:=by rw [<- hs,y9 gn]
    clear hs;generalize v.keys[i]=a at *
    generalize v.keys[i + 1]=b at *
    obtain ⟨z,hz⟩:∃ z:Int,z=((i + 1:Nat):Int):=⟨_,rfl⟩;obtain ⟨y,hy⟩:∃ y:Int,y=(i:Int):=⟨_,rfl⟩;rw [<- hz] at e20;have ec:0<=z:=by omega
    have fi:0<=y:=by omega
    have rj:z<v.keys.length:=by omega
    have pw:IntKind.i64.wrap (z - 1)=y:=by rw [IntWalk.i64_in _ (by omega)]; omega
    have xq:IntKind.i64.wrap (z + 1)=((i + 1 + 1:Nat):Int):=by rw [IntWalk.i64_in _ (by omega)]; omega
    rw [show i=y.toNat from by omega] at g1;rw [show i + 1=z.toNat from by omega] at g2;simp only [fA,uA] at g1 g2 hx;by_cases hc:AU a b<0
    ·have df:¬ 0<=AU a b:=by omega
     simp [tJ,-V,-y3,-y0,J,e6,m6,e20,rj,ec,fi,pw,g1,g2,hx,df,xq];refine ih fa _ ⟨?_,?_,?_,by rw [<- ei,decide_eq_true hc]; rfl⟩ <;> simp [e6,m6]
    ·have df:0<=AU a b:=by omega
     simp [tJ,-V,-y3,-y0,J,e6,m6,e20,rj,ec,fi,pw,g1,g2,hx,df];exact zc _ _ (.inr ⟨rfl,by rw [<- ei,decide_eq_false hc]; rfl,by simp⟩)
   ·obtain ⟨z,hz⟩:∃ z:Int,z=((i + 1:Nat):Int):=⟨_,rfl⟩;rw [<- hz] at e20;have rj:¬ z<v.keys.length:=by omega
    have oy:NM (v.keys.drop i)=true:=by
     match hd:v.keys.drop i with
     | []=>rfl
     | [_]=>rfl
     | a :: b :: r=>have:=congrArg List.length hd; simp at this; omega
    rw [oy] at hs;simp [tJ,-V,-y3,-y0,J,e6,m6,e20,rj];exact zc _ _ (.inl ⟨rfl,hs.symm⟩)
  ·simp [hv,hr]
  ·rcases h with ⟨rfl,h1⟩ | ⟨rfl,h1,h2⟩
   ·simp [-V,-y3,-y0,J,h1]
   ·simp [-V,-y3,-y0,J,h1,h2]
end
section
variable (sn:Bool) (S:List dA) (t:Int) (x:dA) (v:Vl) (f:Int->Vl->Bool) (h0:0<=t) (za:¬ (S.length:Int)<=t) (g:(S.map rA)[t.toNat]?=some (rA x))
include sn S t x v f h0 za g
theorem fits_ev1 (hk:x.kind=1) (hv:v.kind=1) (hp:fA 238 [.agg (zA v)] (.bool true)):fA 227 [ND sn S,.int .i64 t,.agg (zA v),.bool true] (.bool (true)):=by
 have pb:¬ t<0:=by omega
 simp only [fA,rA,uA,hk,hv] at hp g;refine wA (c:=kA) rfl rfl ?_;rw [uA];simp [kA,-V,-y3,-y0,J,pb,za,h0,g,hp,hk,hv]
theorem fits_ev2 (hk:x.kind=2) (hv:v.kind=2) (hp:fA 238 [.agg (zA v)] (.bool true)):fA 227 [ND sn S,.int .i64 t,.agg (zA v),.bool true] (.bool (decide (x.low<=v.i)&&decide (v.i<=x.high))):=by
 have pb:¬ t<0:=by omega
 simp only [fA,rA,uA,hk,hv] at hp g;refine wA (c:=kA) rfl rfl ?_;rw [uA];by_cases c1:x.low<=v.i
 ·simp [kA,-V,-y3,-y0,J,pb,za,h0,g,hp,hk,hv,c1]
 ·simp [kA,-V,-y3,-y0,J,pb,za,h0,g,hp,hk,hv,c1]
theorem fits_ev3 (hk:x.kind=3) (hv:v.kind=3) (hp:fA 238 [.agg (zA v)] (.bool true)):fA 227 [ND sn S,.int .i64 t,.agg (zA v),.bool true] (.bool (decide ((v.s.size:Int)<=x.max))):=by
 have pb:¬ t<0:=by omega
 simp only [fA,rA,uA,hk,hv] at hp g;refine wA (c:=kA) rfl rfl ?_;rw [uA];simp [kA,-V,-y3,-y0,J,pb,za,h0,g,hp,hk,hv]
theorem fits_ev4 (hk:x.kind=4) (hv:v.kind=4) (hp:fA 238 [.agg (zA v)] (.bool true)) (hs:fA 154 [.agg (rA x),.int .i64 v.id] (BV x.syms v.id)):fA 227 [ND sn S,.int .i64 t,.agg (zA v),.bool true] (.bool (decide (0<=xG x.syms v.id))):=by
 have pb:¬ t<0:=by omega
 simp only [fA,rA,uA,hk,hv] at hp g;refine wA (c:=kA) rfl rfl ?_;rw [uA];simp only [fA,rA,BV,hk] at hs;generalize xG x.syms v.id=ix at *
 by_cases c1:0<=ix
 ·simp only [c1,decide_true] at hs;simp [kA,-V,-y3,-y0,J,pb,za,h0,g,hp,hk,hv,hs,c1]
 ·simp only [c1,decide_false] at hs;cases ho:x.opn <;> simp only [ho] at hs g
  ·simp [kA,-V,-y3,-y0,J,pb,za,h0,g,hp,hk,hv,hs,c1,ho]
  ·simp [kA,-V,-y3,-y0,J,pb,za,h0,g,hp,hk,hv,hs,c1,ho]
theorem fits_ev7 (hk:x.kind=7) (hv:v.kind=7) (hp:fA 238 [.agg (zA v)] (.bool true)) (he:fA 240 [ND sn S,.int .i64 x.elem,.sl v.xn (v.items.map zA),.bool true] (.bool (v.items.all (f x.elem)))):fA 227 [ND sn S,.int .i64 t,.agg (zA v),.bool true] (.bool (decide ((v.items.length:Int)<=x.max)&&v.items.all (f x.elem))):=by
 have pb:¬ t<0:=by omega
 simp only [fA,rA,uA,hk,hv] at hp g;refine wA (c:=kA) rfl rfl ?_;rw [uA];simp only [fA] at he;generalize v.items.all (f x.elem)=E at *
 by_cases c1:(v.items.length:Int)<=x.max
 ·simp [kA,-V,-y3,-y0,J,pb,za,h0,g,hp,hk,hv,c1,he]
 ·simp [kA,-V,-y3,-y0,J,pb,za,h0,g,hp,hk,hv,c1]
theorem fits_ev9 (hk:x.kind=9) (hv:v.kind=9) (hp:fA 238 [.agg (zA v)] (.bool true)) (he:fA 240 [ND sn S,.int .i64 x.elem,.sl v.xn (v.items.map zA),.bool true] (.bool (v.items.all (f x.elem)))):fA 227 [ND sn S,.int .i64 t,.agg (zA v),.bool true] (.bool (decide (v.items.length<=1)&&v.items.all (f x.elem))):=by
 have pb:¬ t<0:=by omega
 simp only [fA,rA,uA,hk,hv] at hp g;refine wA (c:=kA) rfl rfl ?_;rw [uA];simp only [fA] at he;generalize v.items.all (f x.elem)=E at *
 by_cases c1:v.items.length<=1
 ·have c2:(v.items.length:Int)<=1:=by omega
  simp [kA,-V,-y3,-y0,J,pb,za,h0,g,hp,hk,hv,c1,c2,he]
 ·have c2:¬ (v.items.length:Int)<=1:=by omega
  simp [kA,-V,-y3,-y0,J,pb,za,h0,g,hp,hk,hv,c1,c2]
end
section
variable (sn:Bool) (S:List dA) (t:Int) (x:dA) (v:Vl) (f:Int->Vl->Bool) (h0:0<=t) (za:¬ (S.length:Int)<=t) (g:(S.map rA)[t.toNat]?=some (rA x))
include sn S t x v f h0 za g
theorem fits_ev5 (hk:x.kind=5) (hv:v.kind=5) (hp:fA 238 [.agg (zA v)] (.bool true)) (uq:x.mems.length<=9223372036854775807) (hf:∀ m∈x.mems,∀ u∈v.items,fA 227 [ND sn S,.int .i64 m.ty,.agg (zA u),.bool true] (.bool (f m.ty u))):fA 227 [ND sn S,.int .i64 t,.agg (zA v),.bool true] (.bool (decide (v.items.length=x.mems.length)&&v.rest.isEmpty&&IH f x.mems v.items)):=by
 have pb:¬ t<0:=by omega
 simp only [fA,rA,uA,hk,hv] at hp g;refine wA (c:=kA) rfl rfl ?_;rw [uA];by_cases c1:v.items.length=x.mems.length
 ·by_cases c2:v.rest=[]
  case neg =>
   have zq:0<v.rest.length:=by
    have:v.rest.length≠0:=fun h=>c2 (yS h)
    omega
   simp [kA,-V,-y3,-y0,J,pb,za,h0,g,hp,hk,hv,c1,c2,zq]
  rw [c2] at hp ⊢;simp only [yt] at hp;simp [kA,-V,-y3,-y0,J,pb,za,h0,g,hp,hk,hv,c1,c2];refine tA ?_;simp [TO,-V,-y3,-y0,J];refine lA x.mems.length (fun i s=>(s.env 3).v=.bool true/\(s.env 4).v=.ptr 4 1 0/\s.mem 4 1=some [⟨.sl sn (S.map rA),.no⟩]/\(s.env 6).v=.ptr 6 1 0/\s.mem 6 1=some ([⟨.int .i64 5,.no⟩,⟨.bool v.b,.no⟩,⟨.int .i64 v.i,.no⟩,⟨.str v.s,.no⟩,⟨.int .i64 v.id,.no⟩,⟨.sl v.kn (v.keys.map zA),.no⟩,⟨.sl v.xn (v.items.map zA),.no⟩,⟨.sl v.rn [],.no⟩])/\(s.env 150).v=.sl x.mn (x.mems.map bA)/\(s.env 151).v=.int .i64 x.mems.length/\(s.env 152).v=.int .i64 i/\IH f (x.mems.drop i) (v.items.drop i)=IH f x.mems v.items)
   (fun e s=>(e=.exit 3/\IH f x.mems v.items=true)\/(e=.ret/\IH f x.mems v.items=false/\(s.env 8).v=.bool false)) (fun i hi s k h ih zc=>?_) _ _ ?_ (fun e s h=>?_)
  ·obtain ⟨e3,e4,m4,e6,m6,xx,kv,zx,hs⟩:=h;refine tA ?_;by_cases fa:i<x.mems.length
   ·have ga:(i:Int)<x.mems.length:=by omega
    have fh:i<v.items.length:=by omega
    have g1:(x.mems.map bA)[i]?=some (bA x.mems[i]):=by simp [fa]
    have g2:(v.items.map zA)[i]?=some (zA v.items[i]):=by simp [fh]
    have hw:=ZA (i:=i);have hx:=hf x.mems[i] (y6 _) v.items[i] (y6 _);rw [y9 fa,y9 fh,IH] at hs;generalize x.mems[i]=m at *
    generalize v.items[i]=u at *
    simp only [fA,bA,uA] at g1 g2 hx;cases az:f m.ty u with
    | true =>
     rw [az] at hx hs;simp [xI,-V,-y3,-y0,J,e3,e4,m4,e6,m6,xx,kv,zx,ga,g1,g2,hx,hw];refine ih fa _ ⟨?_,?_,?_,?_,?_,?_,?_,?_,by simpa using hs⟩ <;> simp [e3,e4,m4,e6,m6,xx,kv]
    | false =>
     rw [az] at hx hs;simp [xI,-V,-y3,-y0,J,e3,e4,m4,e6,m6,xx,kv,zx,ga,g1,g2,hx];exact zc _ _ (.inr ⟨rfl,by rw [<- hs]; rfl,by simp⟩)
   ·have ga:¬ (i:Int)<x.mems.length:=by omega
    simp [xI,-V,-y3,-y0,J,kv,zx,ga];rw [ye (by omega),IH] at hs
    ·exact zc _ _ (.inl ⟨rfl,hs.symm⟩)
    ·intro m r v' q h; cases h
  ·simp [-V,-y3,-y0,J]
  ·rcases h with ⟨rfl,h1⟩ | ⟨rfl,h1,h2⟩
   ·simp [-V,-y3,-y0,J,h1]
   ·simp [-V,-y3,-y0,J,h1,h2]
 ·have ni:¬ (v.items.length:Int)=x.mems.length:=by omega
  simp [kA,-V,-y3,-y0,J,pb,za,h0,g,hp,hk,hv,c1,ni]
theorem fits_ev6 (hk:x.kind=6) (hv:v.kind=6) (hp:fA 238 [.agg (zA v)] (.bool true)) (hm:fA 137 [.agg (rA x),.int .i64 v.id] (bQ x.mems v.id)) (hf:∀ m∈x.mems,∀ u∈v.items,fA 227 [ND sn S,.int .i64 m.ty,.agg (zA u),.bool true] (.bool (f m.ty u))):fA 227 [ND sn S,.int .i64 t,.agg (zA v),.bool true] (.bool (UJ f x.mems[(QB x.mems v.id).toNat]? (decide (0<=QB x.mems v.id)) v.rest.isEmpty v.items)):=by
 have pb:¬ t<0:=by omega
 simp only [fA,rA,uA,hk,hv] at hp g;refine wA (c:=kA) rfl rfl ?_;rw [uA];simp only [fA,rA,bQ,hk] at hm;have nz:=NP (fun m:uC=>decide (m.id=v.id)) x.mems;have se:=wF (fun m:uC=>decide (m.id=v.id)) x.mems;change QB x.mems v.id≠-1->_ at nz;change -1<=QB x.mems v.id at se;change ∀ h:QB x.mems v.id≠-1,∃ y,x.mems[(QB x.mems v.id).toNat]?=some y/\_ at nz;generalize QB x.mems v.id=ix at *
 by_cases c1:0<=ix
 ·simp only [c1,decide_true] at hm;obtain ⟨m,ft,_⟩:=nz (by omega);have wu:max ix 0=ix:=Int.max_eq_left c1;rw [wu] at hm;have g2:(x.mems.map bA)[ix.toNat]?=some (bA m):=by rw [yc,ft]; rfl
  simp only [bA] at g2;rw [ft];by_cases c2:v.items.length=1
  ·obtain ⟨u,hu⟩:=List.length_eq_one_iff.1 c2;have hf:=hf m (yk ft) u (by rw [hu]; simp);simp only [fA,uA] at hf;rw [hu] at hp ⊢;simp only [uA,yj,yt] at hp;by_cases c3:v.rest=[]
   ·rw [c3] at hp ⊢;simp only [yt] at hp;simp [kA,-V,-y3,-y0,J,pb,za,h0,g,hp,hk,hv,hm,g2,c1,hf,uA,UJ]
   ·simp [kA,-V,-y3,-y0,J,pb,za,h0,g,hp,hk,hv,hm,g2,c1,c3,uA,UJ]
  ·have zq:¬ (v.items.length:Int)=1:=by omega
   rw [dT _ _ _ _ _ c2];simp [kA,-V,-y3,-y0,J,pb,za,h0,g,hp,hk,hv,hm,g2,c1,zq]
 ·simp only [c1,decide_false] at hm;rw [decide_eq_false c1,gV];cases ho:x.opn <;> simp only [ho] at hm g
  ·simp [kA,-V,-y3,-y0,J,pb,za,h0,g,hp,hk,hv,hm,ho]
  ·simp [kA,-V,-y3,-y0,J,pb,za,h0,g,hp,hk,hv,hm,ho]
theorem fits_ev8 (hk:x.kind=8) (hv:v.kind=8) (hp:fA 238 [.agg (zA v)] (.bool true)) (hr:v.rest=[]) (wu:x.max<=50) (ur:∀ k∈v.keys,lS k.i) (he:fA 240 [ND sn S,.int .i64 x.elem,.sl v.xn (v.items.map zA),.bool true] (.bool (v.items.all (f x.elem)))) (eh:fA 240 [ND sn S,.int .i64 x.key,.sl v.kn (v.keys.map zA),.bool true] (.bool (v.keys.all (f x.key)))):fA 227 [ND sn S,.int .i64 t,.agg (zA v),.bool true] (.bool (decide ((v.keys.length:Int)<=x.max)&&decide (v.items.length=v.keys.length)&&v.keys.all (f x.key)&&NM v.keys&&v.items.all (f x.elem))):=by
 have pb:¬ t<0:=by omega
 simp only [fA,rA,uA,hk,hv] at hp g;refine wA (c:=kA) rfl rfl ?_;rw [uA];simp only [hr,yt] at hp ⊢;simp only [fA] at he eh;generalize v.items.all (f x.elem)=E at *
 generalize v.keys.all (f x.key)=KE at *
 by_cases c1:x.max<v.keys.length
 ·have ni:¬ (v.keys.length:Int)<=x.max:=by omega
  simp [kA,-V,-y3,-y0,J,pb,za,h0,g,hp,hk,hv,hr,c1,ni]
 have ni:(v.keys.length:Int)<=x.max:=by omega
 have nj:v.keys.length<=50:=by omega
 by_cases c2:v.items.length=v.keys.length
 case neg =>
  have zq:¬ (v.items.length:Int)=v.keys.length:=by omega
  simp [kA,-V,-y3,-y0,J,pb,za,h0,g,hp,hk,hv,hr,c1,ni,c2,zq]
 cases KE with
 | false=>simp [kA,-V,-y3,-y0,J,pb,za,h0,g,hp,hk,hv,hr,c1,ni,c2,eh]
 | true =>
  simp [kA,-V,-y3,-y0,J,pb,za,h0,g,hp,hk,hv,hr,c1,ni,c2,eh];refine lA (v.keys.length - 1) (fun i s=>(s.env 3).v=.bool true/\(s.env 4).v=.ptr 4 1 0/\s.mem 4 1=some [⟨.sl sn (S.map rA),.no⟩]/\(s.env 9).v=.ptr 9 3 0/\s.mem 9 3=some (jA x)/\(s.env 6).v=.ptr 6 1 0/\s.mem 6 1=some (PR v)/\(s.env 20).v=.int .i64 ((i + 1:Nat):Int)/\NM (v.keys.drop i)=NM v.keys)
   (fun e s=>(e=.exit 5/\NM v.keys=true/\(s.env 3).v=.bool true/\(s.env 4).v=.ptr 4 1 0/\s.mem 4 1=some [⟨.sl sn (S.map rA),.no⟩]/\(s.env 9).v=.ptr 9 3 0/\s.mem 9 3=some (jA x)/\(s.env 6).v=.ptr 6 1 0/\s.mem 6 1=some (PR v))\/(e=.ret/\NM v.keys=false/\(s.env 8).v=.bool false)) (fun i hi s k h ih zc=>?_) _ _ ?_ (fun e s h=>?_)
  ·obtain ⟨e3,e4,m4,e9,m9,e6,m6,e20,hs⟩:=h;refine tA ?_;by_cases fa:i<v.keys.length - 1
   ·have dq:i<v.keys.length:=by omega
    have gn:i + 1<v.keys.length:=by omega
    have hx:=vcmp_ev v.keys[i] v.keys[i + 1] (ur _ (y6 _)) (ur _ (y6 _));have g1:(v.keys.map zA)[i]?=some (zA v.keys[i]):=by simp [dq]
    have g2:(v.keys.map zA)[i + 1]?=some (zA v.keys[i + 1]):=by simp [gn]
    rw [y9 dq,y9 gn,NM] at hs;have ei:(decide (AU v.keys[i] v.keys[i + 1]<0)&&NM (v.keys.drop (i + 1)))=NM v.keys:=by rw [<- hs,y9 gn]
    clear hs;generalize v.keys[i]=a at *
    generalize v.keys[i + 1]=b at *
    obtain ⟨z,hz⟩:∃ z:Int,z=((i + 1:Nat):Int):=⟨_,rfl⟩;obtain ⟨y,hy⟩:∃ y:Int,y=(i:Int):=⟨_,rfl⟩;rw [<- hz] at e20;have ec:0<=z:=by omega
    have fi:0<=y:=by omega
    have rj:z<v.keys.length:=by omega
    have pw:IntKind.i64.wrap (z - 1)=y:=by rw [IntWalk.i64_in _ (by omega)]; omega
    have xq:IntKind.i64.wrap (z + 1)=((i + 1 + 1:Nat):Int):=by rw [IntWalk.i64_in _ (by omega)]; omega
    rw [show i=y.toNat from by omega] at g1;rw [show i + 1=z.toNat from by omega] at g2;simp only [fA,uA] at g1 g2 hx;by_cases hc:AU a b<0
    ·have df:¬ 0<=AU a b:=by omega
     simp [zI,-V,-y3,-y0,J,e6,m6,e20,rj,ec,fi,pw,g1,g2,hx,df,xq];refine ih fa _ ⟨?_,?_,?_,?_,?_,?_,?_,?_,by rw [<- ei,decide_eq_true hc]; rfl⟩ <;> simp [e6,m6,e3,e4,m4,e9,m9]
    ·have df:0<=AU a b:=by omega
     simp [zI,-V,-y3,-y0,J,e6,m6,e20,rj,ec,fi,pw,g1,g2,hx,df];exact zc _ _ (.inr ⟨rfl,by rw [<- ei,decide_eq_false hc]; rfl,by simp⟩)
   ·obtain ⟨z,hz⟩:∃ z:Int,z=((i + 1:Nat):Int):=⟨_,rfl⟩;rw [<- hz] at e20;have rj:¬ z<v.keys.length:=by omega
    have oy:NM (v.keys.drop i)=true:=by
     match hd:v.keys.drop i with
     | []=>rfl
     | [_]=>rfl
     | a :: b :: r=>have:=congrArg List.length hd; simp at this; omega
    rw [oy] at hs;simp [zI,-V,-y3,-y0,J,e6,m6,e20,rj];exact zc _ _ (.inl ⟨rfl,hs.symm,by simp [e3],by simp [e4],by simp [m4],by simp [e9],by simp [m9],by simp [e6],by simp [m6]⟩)
  ·simp [hk,hv,hr]
  ·rcases h with ⟨rfl,h1,e3,e4,m4,e9,m9,e6,m6⟩ | ⟨rfl,h1,h2⟩
   ·simp [-V,-y3,-y0,J,h1,e3,e4,m4,e9,m9,e6,m6,he,hk]
   ·simp [-V,-y3,-y0,J,h1,h2]
end
def LW (S:List dA):Prop:=∀ x∈S,mB x=true/\x.fine
theorem ZW {x:dA} (h:mB x=true) (hk:x.kind=8):x.max<=50:=by
 unfold mB JI at h;simp [hk] at h;omega
theorem rest_fit (f:Int->Vl->Bool) (x:dA) (v:Vl) (hk:v.kind=x.kind) (hz:rE v=true) (hr:v.rest≠[]):ST f x v=false:=by
 have jg:v.rest.isEmpty=false:=by simpa using hr
 by_cases h5:x.kind=5
 ·simp [ST,h5,jg]
 ·by_cases h6:x.kind=6
  ·simp [ST,h6,jg,M8]
  ·simp [rE,hk,h5,h6,hr] at hz
section
variable (sn:Bool) (S:List dA)
include sn S
theorem fits_evO (t:Int) (v:Vl) (h:cB S.length t=true):fA 227 [ND sn S,.int .i64 t,.agg (zA v),.bool true] (.bool false):=by
 refine wA (c:=kA) rfl rfl ?_;rw [uA];by_cases h0:t<0
 ·simp [kA,-V,-y3,-y0,J,h0]
 ·have h1:(S.length:Int)<=t:=by simpa [cB,h0] using h
  simp [kA,-V,-y3,-y0,J,h0,h1]
theorem fits_evK (t:Int) (x:dA) (v:Vl) (h0:0<=t) (za:¬ (S.length:Int)<=t) (g:(S.map rA)[t.toNat]?=some (rA x)) (hk:¬ v.kind=x.kind):fA 227 [ND sn S,.int .i64 t,.agg (zA v),.bool true] (.bool false):=by
 have pb:¬ t<0:=by omega
 simp only [rA] at g;refine wA (c:=kA) rfl rfl ?_;rw [uA];simp [kA,-V,-y3,-y0,J,pb,za,h0,g,hk]
theorem fits_evZ (t:Int) (x:dA) (v:Vl) (h0:0<=t) (za:¬ (S.length:Int)<=t) (g:(S.map rA)[t.toNat]?=some (rA x)) (hk:v.kind=x.kind) (hp:fA 238 [.agg (zA v)] (.bool false)):fA 227 [ND sn S,.int .i64 t,.agg (zA v),.bool true] (.bool false):=by
 have pb:¬ t<0:=by omega
 simp only [fA,rA,uA,hk] at hp g;refine wA (c:=kA) rfl rfl ?_;rw [uA];simp [kA,-V,-y3,-y0,J,pb,za,h0,g,hp,hk]
theorem fits_ev (hS:LW S):∀ (n:Nat) (t:Int) (v:Vl),SizeOf.sizeOf v<n->v.ok->v.i64->fA 227 [ND sn S,.int .i64 t,.agg (zA v),.bool true] (.bool (gG S n t v)):=by
 intro n
 induction n with
 | zero=>intro t v h; omega
 | succ n ih =>
  intro t v hn la nd;rw [gG];cases ho:cB S.length t with
  | true=>exact fits_evO sn S t v ho
  | false =>
   obtain ⟨h0,za⟩:0<=t/\¬ (S.length:Int)<=t:=by
    simp [cB] at ho;omega
   have fa:t.toNat<S.length:=by omega
   have ra:S[t.toNat]∈S:=y6 _;have g:(S.map rA)[t.toNat]?=some (rA S[t.toNat]):=by rw [yc,y4 fa]; rfl
   rw [y4 fa];generalize S[t.toNat]=x at *
   obtain ⟨hgx,bx⟩:=hS x ra;have su:=pK hgx;simp only [Bool.not_false,Bool.true_and];by_cases hk:v.kind=x.kind
   case neg=>rw [decide_eq_false hk]; exact fits_evK sn S t x v h0 za g hk
   rw [decide_eq_true hk];simp only [Bool.true_and];have hp:=proper_ev v (by rw [hk]; exact su);cases hz:rE v with
   | false=>rw [hz] at hp; exact fits_evZ sn S t x v h0 za g hk hp
   | true =>
    rw [hz] at hp;simp only [Bool.true_and];rw [Vl.ok_def] at la;rw [Vl.i64_def] at nd;obtain ⟨o1,o2,o3,o4,o5,o6⟩:=la;obtain ⟨j1,j2,j3⟩:=nd;have dk:∀ u∈v.items,∀ t',fA 227 [ND sn S,.int .i64 t',.agg (zA u),.bool true] (.bool (gG S n t' u)):=fun u hu t'=>ih t' u (by have:=Vl.items_lt v u hu; omega) (o6 u hu) (j3 u hu)
    have eh:∀ u∈v.keys,∀ t',fA 227 [ND sn S,.int .i64 t',.agg (zA u),.bool true] (.bool (gG S n t' u)):=fun u hu t'=>ih t' u (by have:=Vl.keys_lt v u hu; omega) (o5 u hu) (j2 u hu)
    have gc:x.mems.length<=9223372036854775807:=bx.1.2.1;have gu:x.syms.length<=9223372036854775807:=bx.1.1;unfold ST;have hv:=hk;rcases kinds x.kind with e | e | e | e | e | e | e | e | e | e
    all_goals try rw [e] at hv
    ·have r:=fits_ev1 sn S t x v (gG S n) h0 za g e hv hp; simpa [e] using r
    ·have r:=fits_ev2 sn S t x v (gG S n) h0 za g e hv hp; simpa [e] using r
    ·have r:=fits_ev3 sn S t x v (gG S n) h0 za g e hv hp; simpa [e] using r
    ·have r:=fits_ev4 sn S t x v (gG S n) h0 za g e hv hp (sym_ev x v.id gu); simpa [e] using r
    ·have r:=fits_ev5 sn S t x v (gG S n) h0 za g e hv hp gc (fun m _ u hu=>dk u hu m.ty); simpa [e] using r
    ·have r:=fits_ev6 sn S t x v (gG S n) h0 za g e hv hp (jX x v.id gc) (fun m _ u hu=>dk u hu m.ty); simpa [e] using r
    ·have r:=fits_ev7 sn S t x v (gG S n) h0 za g e hv hp (qW sn S x.elem (gG S n x.elem) v.items o2 v.xn fun u hu=>dk u hu x.elem); simpa [e] using r
    ·have r:=fits_ev8 sn S t x v (gG S n) h0 za g e hv hp (by simp [rE,hv] at hz; simp [hz]) (ZW hgx e) (fun u hu=>((Vl.i64_def u).1 (j2 u hu)).1) (qW sn S x.elem (gG S n x.elem) v.items o2 v.xn fun u hu=>dk u hu x.elem) (qW sn S x.key (gG S n x.key) v.keys o1 v.kn fun u hu=>eh u hu x.key); simpa [e] using r
    ·have r:=fits_ev9 sn S t x v (gG S n) h0 za g e hv hp (qW sn S x.elem (gG S n x.elem) v.items o2 v.xn fun u hu=>dk u hu x.elem); simpa [e] using r
    ·exact absurd su e
end
theorem rzero_ev (v:Vl) (h:1<=v.kind/\v.kind<=9):fA 182 [.agg (zA v)] (.bool (rE v)):=by
 rcases kinds v.kind with e | e | e | e | e | e | e | e | e | e
 ·exact rzero_ev1 v e
 ·exact rzero_ev2 v e
 ·exact rzero_ev3 v e
 ·exact rzero_ev4 v e
 ·exact rzero_ev5 v e
 ·exact rzero_ev6 v e
 ·exact rzero_ev7 v e
 ·exact rzero_ev8 v e
 ·exact rzero_ev9 v e
 ·exact absurd h e
theorem rest_ev (x:dA) (b:Bool):fA 184 [.agg (rA x),.sl b []] (.bool true):=by
 refine wA (c:=xL) rfl rfl ?_;simp [xL,-V,-y3,-y0,J,rA];refine lA 0 (fun i s=>(s.env 1).v=.sl b []/\(s.env 5).v=.int .i64 0) (fun e s=>e=.exit 0) (fun i hi s k h ih hk=>?_) _ _ ?_ (fun e s h=>?_)
 ·obtain ⟨e1,e5⟩:=h;refine tA ?_;simp [EO,-V,-y3,-y0,J,e1,e5];exact hk _ _ rfl
 ·simp
 ·subst h;simp [-V,-y3,-y0,J]
section
variable (sn:Bool) (S:List dA) (t:Int)
include sn S t
theorem fit_evR (x:dA) (v:Vl) (h0:0<=t) (za:¬ (S.length:Int)<=t) (g:(S.map rA)[t.toNat]?=some (rA x)) (hk:v.kind=x.kind) (hp:fA 182 [.agg (zA v)] (.bool true)) (hr:v.rest≠[]):fA 151 [ND sn S,.int .i64 t,.agg (zA v),.bool true] (.bool false):=by
 have pb:¬ t<0:=by omega
 have ph:0<v.rest.length:=by
  have:v.rest.length≠0:=fun h=>hr (yS h)
  omega
 simp only [fA,rA,uA,hk] at hp g;refine wA (c:=cA) rfl rfl ?_;rw [uA];simp [cA,-V,-y3,-y0,J,pb,za,h0,g,hp,hk,hr,ph]
theorem fit_evO (v:Vl) (h:cB S.length t=true):fA 151 [ND sn S,.int .i64 t,.agg (zA v),.bool true] (.bool false):=by
 refine wA (c:=cA) rfl rfl ?_;rw [uA];by_cases h0:t<0
 ·simp [cA,-V,-y3,-y0,J,h0]
 ·have h1:(S.length:Int)<=t:=by simpa [cB,h0] using h
  simp [cA,-V,-y3,-y0,J,h0,h1]
theorem fit_evK (x:dA) (v:Vl) (h0:0<=t) (za:¬ (S.length:Int)<=t) (g:(S.map rA)[t.toNat]?=some (rA x)) (hk:¬ v.kind=x.kind):fA 151 [ND sn S,.int .i64 t,.agg (zA v),.bool true] (.bool false):=by
 have pb:¬ t<0:=by omega
 simp only [rA] at g;refine wA (c:=cA) rfl rfl ?_;rw [uA];simp [cA,-V,-y3,-y0,J,pb,za,h0,g,hk]
theorem fit_evZ (x:dA) (v:Vl) (h0:0<=t) (za:¬ (S.length:Int)<=t) (g:(S.map rA)[t.toNat]?=some (rA x)) (hk:v.kind=x.kind) (hp:fA 182 [.agg (zA v)] (.bool false)):fA 151 [ND sn S,.int .i64 t,.agg (zA v),.bool true] (.bool false):=by
 have pb:¬ t<0:=by omega
 simp only [fA,rA,uA,hk] at hp g;refine wA (c:=cA) rfl rfl ?_;rw [uA];simp [cA,-V,-y3,-y0,J,pb,za,h0,g,hp,hk]
end
theorem fit_ev (sn:Bool) (S:List dA) (hS:LW S):∀ (n:Nat) (t:Int) (v:Vl),SizeOf.sizeOf v<n->v.ok->v.i64->fA 151 [ND sn S,.int .i64 t,.agg (zA v),.bool true] (.bool (gG S n t v)):=by
 intro n
 induction n with
 | zero=>intro t v h; omega
 | succ n ih =>
  intro t v hn la nd;rw [gG];cases ho:cB S.length t with
  | true=>exact fit_evO sn S t v ho
  | false =>
   obtain ⟨h0,za⟩:0<=t/\¬ (S.length:Int)<=t:=by
    simp [cB] at ho;omega
   have fa:t.toNat<S.length:=by omega
   have ra:S[t.toNat]∈S:=y6 _;have g:(S.map rA)[t.toNat]?=some (rA S[t.toNat]):=by rw [yc,y4 fa]; rfl
   rw [y4 fa];generalize S[t.toNat]=x at *
   obtain ⟨hgx,bx⟩:=hS x ra;have su:=pK hgx;simp only [Bool.not_false,Bool.true_and];by_cases hk:v.kind=x.kind
   case neg=>rw [decide_eq_false hk]; exact fit_evK sn S t x v h0 za g hk
   rw [decide_eq_true hk];simp only [Bool.true_and];have hp:=rzero_ev v (by rw [hk]; exact su);cases hz:rE v with
   | false=>rw [hz] at hp; exact fit_evZ sn S t x v h0 za g hk hp
   | true =>
    rw [hz] at hp;simp only [Bool.true_and];rw [Vl.ok_def] at la;rw [Vl.i64_def] at nd;obtain ⟨o1,o2,o3,o4,o5,o6⟩:=la;obtain ⟨j1,j2,j3⟩:=nd;have dk:∀ u∈v.items,∀ t',fA 151 [ND sn S,.int .i64 t',.agg (zA u),.bool true] (.bool (gG S n t' u)):=fun u hu t'=>ih t' u (by have:=Vl.items_lt v u hu; omega) (o6 u hu) (j3 u hu)
    have eh:∀ u∈v.keys,∀ t',fA 151 [ND sn S,.int .i64 t',.agg (zA u),.bool true] (.bool (gG S n t' u)):=fun u hu t'=>ih t' u (by have:=Vl.keys_lt v u hu; omega) (o5 u hu) (j2 u hu)
    have gc:x.mems.length<=9223372036854775807:=bx.1.2.1;have gu:x.syms.length<=9223372036854775807:=bx.1.1;by_cases hr:v.rest=[]
    case neg=>rw [rest_fit _ x v hk hz hr]; exact fit_evR sn S t x v h0 za g hk hp hr
    unfold ST;have hv:=hk;rcases kinds x.kind with e | e | e | e | e | e | e | e | e | e
    all_goals try rw [e] at hv
    ·have r:=fit_ev1 sn S t x v (gG S n) h0 za g e hv hp hr; simpa [e] using r
    ·have r:=fit_ev2 sn S t x v (gG S n) h0 za g e hv hp hr; simpa [e] using r
    ·have r:=fit_ev3 sn S t x v (gG S n) h0 za g e hv hp hr; simpa [e] using r
    ·have r:=fit_ev4 sn S t x v (gG S n) h0 za g e hv hp hr (O3 x v.id gu); simpa [e] using r
    ·have r:=fit_ev5 sn S t x v (gG S n) h0 za g e hv hp hr gc (rest_ev x v.rn) (fun m _ u hu=>dk u hu m.ty); simpa [e,hr] using r
    ·have r:=fit_ev6 sn S t x v (gG S n) h0 za g e hv hp hr (oT x v.id gc) (fun m _ u hu=>dk u hu m.ty); simpa [e] using r
    ·have r:=fit_ev7 sn S t x v (gG S n) h0 za g e hv hp hr (C1 sn S x.elem (gG S n x.elem) v.items o2 v.xn fun u hu=>dk u hu x.elem); simpa [e] using r
    ·have r:=fit_ev8 sn S t x v (gG S n) h0 za g e hv hp hr (ZW hgx e) (fun u hu=>((Vl.i64_def u).1 (j2 u hu)).1) (C1 sn S x.elem (gG S n x.elem) v.items o2 v.xn fun u hu=>dk u hu x.elem) (C1 sn S x.key (gG S n x.key) v.keys o1 v.kn fun u hu=>eh u hu x.key); simpa [e] using r
    ·have r:=fit_ev9 sn S t x v (gG S n) h0 za g e hv hp hr (C1 sn S x.elem (gG S n x.elem) v.items o2 v.xn fun u hu=>dk u hu x.elem); simpa [e] using r
    ·exact absurd su e
noncomputable def OI (S:List dA) (t:Int) (v:Vl):Bool:=gG S (SizeOf.sizeOf v + 1) t v
theorem plain_v (sn:Bool) (S:List dA) (hS:LW S) (t:Int) (v:Vl) (la:v.ok) (nd:v.i64):fA 215 [ND sn S,.int .i64 t,.agg (zA v)] (.bool (OI S t v)):=by
 have h:=fits_ev sn S hS (SizeOf.sizeOf v + 1) t v (by omega) la nd;simp only [fA,uA] at h ⊢;refine wA (c:=TK) rfl rfl ?_;unfold OI;simp [TK,-V,-y3,-y0,J,h]
theorem O8 (sn:Bool) (S:List dA) (hS:LW S) (t:Int) (v:Vl) (la:v.ok) (nd:v.i64):fA 121 [ND sn S,.int .i64 t,.agg (zA v)] (.bool (OI S t v)):=by
 have h:=fit_ev sn S hS (SizeOf.sizeOf v + 1) t v (by omega) la nd;simp only [fA,uA] at h ⊢;refine wA (c:=nK) rfl rfl ?_;unfold OI;simp [nK,-V,-y3,-y0,J,h]
theorem jV {l:List dA}:∀ n i,i + n=l.length->GC l n i=0->∀ j,i<=j->(h:j<l.length)->SC l j l[j]=0
 | 0,i,hi,_,j,hj,h=>by omega
 | n + 1,i,hi,h0,j,hj,h=>by
  have fa:i<l.length:=by omega
  rw [GC,y4 fa] at h0;simp only at h0;by_cases he:SC l i l[i]=0
  ·rw [if_pos he] at h0;rcases Nat.lt_or_eq_of_le hj with h1 | h1
   ·exact jV n (i + 1) (by omega) h0 j h1 h
   ·subst h1; exact he
  ·rw [if_neg he] at h0; exact absurd h0 he
theorem XH {l:List dA} {i:Nat} {t:dA} (h:SC l i t=0):mB t=true/\t.usesL.any (cB l.length)=false:=by
 unfold SC at h;by_cases h1:mB t=false
 ·rw [if_pos h1] at h; cases h
 ·rw [if_neg h1] at h;refine ⟨by simpa using h1,?_⟩;by_cases h2:t.named=true/\t.name∈(l.take i).map dA.name
  ·rw [if_pos h2] at h; cases h
  ·rw [if_neg h2] at h;by_cases h3:t.usesL.any (cB l.length)=true
   ·rw [if_pos h3] at h; cases h
   ·simpa using h3
theorem WG {l:List dA} (h:valid l=0) (j:Nat) (hj:j<l.length):SC l j l[j]=0:=by
 unfold valid at h;by_cases lu:32<l.length
 ·rw [if_pos lu] at h; cases h
 ·rw [if_neg lu] at h;exact jV l.length 0 (by omega) h j (by omega) hj
theorem mO {s:wI} (hs:s.fine) (h:valid s.types=0):LW s.types:=fun x hx=>by
 obtain ⟨j,hj,rfl⟩:=yB hx;exact ⟨(XH (WG h j hj)).1,hs.2 _ hx⟩
noncomputable def ML (S:List dA) (m:uC):Bool:=m.has&&!OI S m.ty m.dflt
noncomputable def ZH (S:List dA) (t:dA):Option Int:=(t.mems.find? (ML S)).map uC.id
noncomputable def bD (S:List dA):Nat->Nat->Option (Nat × Int)
 | 0,_=>none
 | n + 1,i=>match S[i]? with
  | some t=>(match ZH S t with
   | some d=>some (i,d)
   | none=>bD S n (i + 1))
  | none=>none
def w7:Option (Nat × Int)->AV
 | some (i,d)=>.tup [.int .i64 i,.int .i64 d,.int .i64 1]
 | none=>.tup [.int .i64 0,.int .i64 0,.int .i64 0]
noncomputable def IT (S:List dA):AV:=if valid S=0 then w7 (bD S S.length 0) else .tup [.int .i64 0,.int .i64 0,.int .i64 (valid S)]
def dA.d64 (t:dA):Prop:=∀ m∈t.mems,m.dflt.i64
def wI.d64 (s:wI):Prop:=∀ t∈s.types,t.d64
theorem UW {S:List dA} {i:Nat} (h:i<S.length):bD S (S.length - i) i=match ZH S S[i] with
  | some d=>some (i,d)
  | none=>bD S (S.length - (i + 1)) (i + 1):=by
 rw [show S.length - i=(S.length - (i + 1)) + 1 from by omega,bD,y4 h]
theorem dlp (sn:Bool) (S:List dA) (hS:LW S) (t:dA) (ht:t.fine) (nd:t.d64) (b:Bool) (i:Nat) (r:RV) (P:pA->Prop) (hP:∀ s s':pA,(∀ t n,t≠9->s'.mem t n=s.mem t n)->(∀ t,t ∉ [2,3,4,9,27,28,29,30,31,32,33,34,35,36,37,38,39,40,41,42,43,44,26]->s'.env t=s.env t)->P s->P s') (k:Ex->pA->Option RV)
  (hk:∀ s',ZH S t=none->P s'->k (.exit 2) s'=some r) (hr:∀ (s':pA) d,ZH S t=some d->(s'.env 2).v=.int .i64 i->(s'.env 3).v=.int .i64 d->(s'.env 4).v=.int .i64 1->k .ret s'=some r)
  (s:pA) (hs:P s) (h1:(s.env 1).v=.ptr 1 1 0) (m1:s.mem 1 1=some [⟨.sl sn (S.map rA),.no⟩]) (h6:(s.env 6).v=.int .i64 i) (h24:(s.env 24).v=.sl b (t.mems.map bA)) (h25:(s.env 25).v=.int .i64 t.mems.length) (h26:(s.env 26).v=.int .i64 0):TH gA eA OC s k=some r:=by
 refine lA t.mems.length (fun j s=>P s/\(s.env 1).v=.ptr 1 1 0/\s.mem 1 1=some [⟨.sl sn (S.map rA),.no⟩]/\(s.env 6).v=.int .i64 i/\(s.env 24).v=.sl b (t.mems.map bA)/\(s.env 25).v=.int .i64 t.mems.length/\(s.env 26).v=.int .i64 j/\(t.mems.drop j).find? (ML S)=t.mems.find? (ML S))
  (fun e s=>(e=.exit 2/\ZH S t=none/\P s)\/(e=.ret/\∃ d,ZH S t=some d/\(s.env 2).v=.int .i64 i/\(s.env 3).v=.int .i64 d/\(s.env 4).v=.int .i64 1)) (fun j hj s k h ih hk=>?_) _ _ ?_ (fun e s h=>?_)
 ·obtain ⟨hp,e1,m1,e6,e24,e25,ww,hs⟩:=h;refine tA ?_;by_cases fa:j<t.mems.length
  ·have ga:(j:Int)<t.mems.length:=by omega
   have g1:(t.mems.map bA)[j]?=some (bA t.mems[j]):=by simp [fa]
   have hw:=ZA (i:=j) (by have:=ht.2.2; omega);have wo:=plain_v sn S hS t.mems[j].ty t.mems[j].dflt (ht.1.2.2 _ (y6 _)).1 (nd _ (y6 _));rw [y9 fa,List.find?_cons] at hs;generalize t.mems[j]=m at *
   simp only [bA] at g1;simp only [fA,uA] at wo;have bad:ML S m=true->ZH S t=some m.id:=fun h=>by unfold ZH; rw [<- hs,h]; rfl
   have good:ML S m=false->(t.mems.drop (j + 1)).find? (ML S)=t.mems.find? (ML S):=fun h=>by rw [<- hs,h]
   have nxt:∀ s':pA,(∀ t n,t≠9->s'.mem t n=s.mem t n)->(∀ t,t ∉ [2,3,4,9,27,28,29,30,31,32,33,34,35,36,37,38,39,40,41,42,43,44,26]->s'.env t=s.env t)->(s'.env 26).v=.int .i64 ((j + 1:Nat):Int)->ML S m=false->TH gA eA OC s' k=some r:=fun s' hm he h26 hb=>by
    refine ih fa _ ⟨hP s s' hm he hp,?_,?_,?_,?_,?_,h26,good hb⟩
    ·rw [he 1 (by decide)]; exact e1
    ·rw [hm 1 1 (by decide)]; exact m1
    ·rw [he 6 (by decide)]; exact e6
    ·rw [he 24 (by decide)]; exact e24
    ·rw [he 25 (by decide)]; exact e25
   cases hh:m.has with
   | false =>
    simp [OC,-V,-y3,-y0,J,e1,m1,e6,e24,e25,ww,ga,g1,hh,hw];refine nxt _ ?_ ?_ ?_ (by simp [ML,hh])
    ·intro t n ht; simp [DA,ht]
    ·intro t ht;simp only [yh,yJ,or_false,not_or] at ht;simp [qG,ht]
    ·simp
   | true =>
    cases cw:OI S m.ty m.dflt with
    | true =>
     rw [cw] at wo;simp [OC,-V,-y3,-y0,J,e1,m1,e6,e24,e25,ww,ga,g1,hh,wo,hw];refine nxt _ ?_ ?_ ?_ (by simp [ML,hh,cw])
     ·intro t n ht; simp [DA,ht]
     ·intro t ht;simp only [yh,yJ,or_false,not_or] at ht;simp [qG,ht]
     ·simp
    | false =>
     rw [cw] at wo;simp [OC,-V,-y3,-y0,J,e1,m1,e6,e24,e25,ww,ga,g1,hh,wo];exact hk _ _ (.inr ⟨rfl,m.id,bad (by simp [ML,hh,cw]),by simp,by simp,by simp⟩)
  ·have ga:¬ (j:Int)<t.mems.length:=by omega
   simp [OC,-V,-y3,-y0,J,e25,ww,ga];rw [ye (by omega)] at hs;refine hk _ _ (.inl ⟨rfl,by unfold ZH; rw [<- hs]; rfl,hP s _ ?_ ?_ hp⟩)
   ·intro t n _; rfl
   ·intro t ht;simp only [yh,yJ,or_false,not_or] at ht;simp [qG,ht]
 ·simp [hs,h1,m1,h6,h24,h25,h26]
 ·rcases h with ⟨rfl,h1,h2⟩ | ⟨rfl,d,h1,h2,h3,h4⟩
  ·exact hk s h1 h2
  ·exact hr s d h1 h2 h3 h4
theorem dflts_ev (s:wI) (hs:s.fine) (nd:s.d64):fA 204 [.agg (UA s)] (IT s.types):=by
 have hv:=RY s hs;simp only [fA,UA] at hv;refine wA (c:=TF) rfl rfl ?_;unfold IT;by_cases h0:valid s.types=0
 case neg =>
  rw [if_neg h0];simp [TF,-V,-y3,-y0,J,UA,hv,h0]
 have hS:=mO hs h0;rw [if_pos h0];rw [h0] at hv;simp [TF,-V,-y3,-y0,J,UA,hv];refine lA s.types.length (fun i σ=>(σ.env 1).v=.ptr 1 1 0/\σ.mem 1 1=some [⟨.sl s.nl (s.types.map rA),.no⟩]/\(σ.env 16).v=.sl s.nl (s.types.map rA)/\(σ.env 17).v=.int .i64 s.types.length/\(σ.env 18).v=.int .i64 i/\bD s.types (s.types.length - i) i=bD s.types s.types.length 0)
  (fun e σ=>(e=.exit 0/\bD s.types s.types.length 0=none)\/(e=.ret/\∃ j d,bD s.types s.types.length 0=some (j,d)/\(σ.env 2).v=.int .i64 j/\(σ.env 3).v=.int .i64 d/\(σ.env 4).v=.int .i64 1)) (fun i hi σ k h ih hk=>?_) _ _ ?_ (fun e σ h=>?_)
 ·obtain ⟨e1,m1,e16,bh,dm,hd⟩:=h;refine tA ?_;by_cases fa:i<s.types.length
  ·have ga:(i:Int)<s.types.length:=by omega
   have g1:(s.types.map rA)[i]?=some (rA s.types[i]):=by simp [fa]
   have hw:=ZA (i:=i) (by have:=hs.1; omega);have je:=hs.2 _ (y6 fa);have zy:=nd _ (y6 fa);rw [UW fa] at hd;generalize s.types[i]=t at *
   simp only [rA] at g1;simp [RH,-V,-y3,-y0,J,e1,m1,e16,bh,dm,ga,g1];refine dlp s.nl s.types hS t je zy t.mn i _ (fun σ2=>(σ2.env 1).v=.ptr 1 1 0/\σ2.mem 1 1=some [⟨.sl s.nl (s.types.map rA),.no⟩]/\(σ2.env 16).v=.sl s.nl (s.types.map rA)/\(σ2.env 17).v=.int .i64 s.types.length/\(σ2.env 18).v=.int .i64 i) (fun a b hm he h=>?_) _ (fun σ2 hn h=>?_) (fun σ2 d hn q2 q3 q4=>?_) _ ⟨?_,?_,?_,?_,?_⟩ ?_ ?_ ?_ ?_ ?_ ?_
   ·rw [hm 1 1 (by decide),he 1 (by decide),he 16 (by decide),he 17 (by decide),he 18 (by decide)];exact h
   ·obtain ⟨f1,fm,f16,f17,f18⟩:=h;simp [-V,-y3,-y0,J,f18,hw];refine ih fa _ ⟨?_,?_,?_,?_,?_,by rw [<- hd,hn]⟩ <;> simp [f1,fm,f16,f17]
   ·simp [-V,-y3,-y0,J];exact hk _ _ (.inr ⟨rfl,i,d,by rw [<- hd,hn],q2,q3,q4⟩)
   all_goals simp [e1,m1,e16,bh,dm]
  ·have ga:¬ (i:Int)<s.types.length:=by omega
   simp [RH,-V,-y3,-y0,J,bh,dm,ga];exact hk _ _ (.inl ⟨rfl,by rw [<- hd,show s.types.length - i=0 from by omega,bD]⟩)
 ·simp
 ·rcases h with ⟨rfl,h1⟩ | ⟨rfl,j,d,h1,h2,h3,h4⟩
  ·rw [h1]; simp [-V,-y3,-y0,J,w7]
  ·rw [h1]; simp [-V,-y3,-y0,J,h2,h3,h4,w7]
theorem rdlp (sn:Bool) (S:List dA) (hS:LW S) (t:dA) (ht:t.fine) (nd:t.d64) (b:Bool) (i:Nat) (r:RV) (P:pA->Prop) (hP:∀ s s':pA,s'.mem=s.mem->(∀ t,t ∉ [2,3,4,8,27,28,29,30,31,32,33,34,35,36,37,38,39,40,41,42,43,44,45,46,47,48,49,50,51,52]->s'.env t=s.env t)->P s->P s') (k:Ex->pA->Option RV)
  (hk:∀ s',ZH S t=none->P s'->k (.exit 2) s'=some r) (hr:∀ (s':pA) d,ZH S t=some d->(s'.env 2).v=.int .i64 i->(s'.env 3).v=.int .i64 d->(s'.env 4).v=.int .i64 1->k .ret s'=some r)
  (s:pA) (hs:P s) (h1:(s.env 1).v=.ptr 1 1 0) (m1:s.mem 1 1=some [⟨.sl sn (S.map rA),.no⟩]) (h6:(s.env 6).v=.int .i64 i) (h7:(s.env 7).v=.sl b (t.mems.map bA)) (h8:(s.env 8).v=.int .i64 0):TH gA eA IC s k=some r:=by
 refine lA t.mems.length (fun j s=>P s/\(s.env 1).v=.ptr 1 1 0/\s.mem 1 1=some [⟨.sl sn (S.map rA),.no⟩]/\(s.env 6).v=.int .i64 i/\(s.env 7).v=.sl b (t.mems.map bA)/\(s.env 8).v=.int .i64 j/\(t.mems.drop j).find? (ML S)=t.mems.find? (ML S))
  (fun e s=>(e=.exit 2/\ZH S t=none/\P s)\/(e=.ret/\∃ d,ZH S t=some d/\(s.env 2).v=.int .i64 i/\(s.env 3).v=.int .i64 d/\(s.env 4).v=.int .i64 1)) (fun j hj s k h ih hk=>?_) _ _ ?_ (fun e s h=>?_)
 ·obtain ⟨hp,e1,m1,e6,e7,e8,hs⟩:=h;refine tA ?_;by_cases fa:j<t.mems.length
  ·have ga:(j:Int)<t.mems.length:=by omega
   have g1:(t.mems.map bA)[j]?=some (bA t.mems[j]):=by simp [fa]
   have hw:=ZA (i:=j) (by have:=ht.2.2; omega);have wo:=O8 sn S hS t.mems[j].ty t.mems[j].dflt (ht.1.2.2 _ (y6 _)).1 (nd _ (y6 _));rw [y9 fa,List.find?_cons] at hs;generalize t.mems[j]=m at *
   simp only [bA] at g1;simp only [fA,uA] at wo;have bad:ML S m=true->ZH S t=some m.id:=fun h=>by unfold ZH; rw [<- hs,h]; rfl
   have good:ML S m=false->(t.mems.drop (j + 1)).find? (ML S)=t.mems.find? (ML S):=fun h=>by rw [<- hs,h]
   have nxt:∀ s':pA,s'.mem=s.mem->(∀ t,t ∉ [2,3,4,8,27,28,29,30,31,32,33,34,35,36,37,38,39,40,41,42,43,44,45,46,47,48,49,50,51,52]->s'.env t=s.env t)->(s'.env 8).v=.int .i64 ((j + 1:Nat):Int)->ML S m=false->TH gA eA IC s' k=some r:=fun s' hm he h26 hb=>by
    refine ih fa _ ⟨hP s s' hm he hp,?_,?_,?_,?_,h26,good hb⟩
    ·rw [he 1 (by decide)]; exact e1
    ·rw [hm]; exact m1
    ·rw [he 6 (by decide)]; exact e6
    ·rw [he 7 (by decide)]; exact e7
   cases hh:m.has with
   | false =>
    simp [IC,-V,-y3,-y0,J,e1,m1,e6,e7,e8,ga,g1,hh,hw];refine nxt _ rfl ?_ ?_ (by simp [ML,hh])
    ·intro t ht;simp only [yh,yJ,or_false,not_or] at ht;simp [qG,ht]
    ·simp
   | true =>
    cases cw:OI S m.ty m.dflt with
    | true =>
     rw [cw] at wo;simp [IC,-V,-y3,-y0,J,e1,m1,e6,e7,e8,ga,g1,hh,wo,hw];refine nxt _ rfl ?_ ?_ (by simp [ML,hh,cw])
     ·intro t ht;simp only [yh,yJ,or_false,not_or] at ht;simp [qG,ht]
     ·simp
    | false =>
     rw [cw] at wo;simp [IC,-V,-y3,-y0,J,e1,m1,e6,e7,e8,ga,g1,hh,wo];exact hk _ _ (.inr ⟨rfl,m.id,bad (by simp [ML,hh,cw]),by simp,by simp,by simp⟩)
  ·have ga:¬ (j:Int)<t.mems.length:=by omega
   simp [IC,-V,-y3,-y0,J,e7,e8,ga];rw [ye (by omega)] at hs;refine hk _ _ (.inl ⟨rfl,by unfold ZH; rw [<- hs]; rfl,hP s _ rfl ?_ hp⟩);intro t ht;simp only [yh,yJ,or_false,not_or] at ht;simp [qG,ht]
 ·simp [hs,h1,m1,h6,h7,h8]
 ·rcases h with ⟨rfl,h1,h2⟩ | ⟨rfl,d,h1,h2,h3,h4⟩
  ·exact hk s h1 h2
  ·exact hr s d h1 h2 h3 h4
theorem rdflts_ev (s:wI) (hs:s.fine) (nd:s.d64):fA 206 [.agg (UA s)] (IT s.types):=by
 have hv:=RU s hs;simp only [fA,UA] at hv;refine wA (c:=WF) rfl rfl ?_;unfold IT;by_cases h0:valid s.types=0
 case neg =>
  rw [if_neg h0];simp [WF,-V,-y3,-y0,J,UA,hv,h0]
 have hS:=mO hs h0;rw [if_pos h0];rw [h0] at hv;simp [WF,-V,-y3,-y0,J,UA,hv];refine lA s.types.length (fun i σ=>(σ.env 1).v=.ptr 1 1 0/\σ.mem 1 1=some [⟨.sl s.nl (s.types.map rA),.no⟩]/\(σ.env 6).v=.int .i64 i/\bD s.types (s.types.length - i) i=bD s.types s.types.length 0)
  (fun e σ=>(e=.exit 0/\bD s.types s.types.length 0=none)\/(e=.ret/\∃ j d,bD s.types s.types.length 0=some (j,d)/\(σ.env 2).v=.int .i64 j/\(σ.env 3).v=.int .i64 d/\(σ.env 4).v=.int .i64 1)) (fun i hi σ k h ih hk=>?_) _ _ ?_ (fun e σ h=>?_)
 ·obtain ⟨e1,m1,e6,hd⟩:=h;refine tA ?_;by_cases fa:i<s.types.length
  ·have ga:(i:Int)<s.types.length:=by omega
   have g1:(s.types.map rA)[i]?=some (rA s.types[i]):=by simp [fa]
   have hw:=ZA (i:=i) (by have:=hs.1; omega);have je:=hs.2 _ (y6 fa);have zy:=nd _ (y6 fa);rw [UW fa] at hd;generalize s.types[i]=t at *
   simp only [rA] at g1;simp [EH,-V,-y3,-y0,J,e1,m1,e6,ga,g1];refine rdlp s.nl s.types hS t je zy t.mn i _ (fun σ2=>(σ2.env 1).v=.ptr 1 1 0/\σ2.mem 1 1=some [⟨.sl s.nl (s.types.map rA),.no⟩]/\(σ2.env 6).v=.int .i64 i) (fun a b hm he h=>?_) _ (fun σ2 hn h=>?_) (fun σ2 d hn q2 q3 q4=>?_) _ ⟨?_,?_,?_⟩ ?_ ?_ ?_ ?_ ?_
   ·rw [hm,he 1 (by decide),he 6 (by decide)];exact h
   ·obtain ⟨f1,fm,f6⟩:=h;simp [-V,-y3,-y0,J,f6,hw];refine ih fa _ ⟨?_,?_,?_,by rw [<- hd,hn]⟩ <;> simp [f1,fm]
   ·simp [-V,-y3,-y0,J];exact hk _ _ (.inr ⟨rfl,i,d,by rw [<- hd,hn],q2,q3,q4⟩)
   all_goals simp [e1,m1,e6]
  ·have ga:¬ (i:Int)<s.types.length:=by omega
   simp [EH,-V,-y3,-y0,J,e1,m1,e6,ga];exact hk _ _ (.inl ⟨rfl,by rw [<- hd,show s.types.length - i=0 from by omega,bD]⟩)
 ·simp
 ·rcases h with ⟨rfl,h1⟩ | ⟨rfl,j,d,h1,h2,h3,h4⟩
  ·rw [h1]; simp [-V,-y3,-y0,J,w7]
  ·rw [h1]; simp [-V,-y3,-y0,J,h2,h3,h4,w7]
noncomputable def uE (S:List dA):Int:=if valid S=0 then (match bD S S.length 0 with
 | some _=>1
 | none=>0) else valid S
theorem TZ {S:List dA} (h:valid S=0):∃ i d,IT S=.tup [.int .i64 i,.int .i64 d,.int .i64 (uE S)]:=by
 unfold IT uE;rw [if_pos h,if_pos h];cases bD S S.length 0 with
 | none=>exact ⟨_,_,rfl⟩
 | some p=>exact ⟨_,_,rfl⟩
theorem right_ev (s:wI) (hs:s.fine) (nd:s.d64):fA 173 [.agg (UA s)] (.int .i64 (uE s.types)):=by
 have hv:=RY s hs;have hd:=dflts_ev s hs nd;refine wA (c:=tG) rfl rfl ?_;simp only [fA,UA] at hv hd;by_cases h0:valid s.types=0
 ·obtain ⟨i,d,hA⟩:=TZ h0;rw [hA] at hd;rw [h0] at hv;simp [tG,-V,-y3,-y0,J,UA,hv,hd]
 ·unfold uE;rw [if_neg h0];simp [tG,-V,-y3,-y0,J,UA,hv,h0]
theorem rerror_ev (s:wI) (hs:s.fine) (nd:s.d64):fA 175 [.agg (UA s)] (.int .i64 (uE s.types)):=by
 have hv:=RU s hs;have hd:=rdflts_ev s hs nd;refine wA (c:=DH) rfl rfl ?_;simp only [fA,UA] at hv hd;by_cases h0:valid s.types=0
 ·obtain ⟨i,d,hA⟩:=TZ h0;rw [hA] at hd;rw [h0] at hv;simp [DH,-V,-y3,-y0,J,UA,hv,hd]
 ·unfold uE;rw [if_neg h0];simp [DH,-V,-y3,-y0,J,UA,hv,h0]
end Go.Proofs.YtbnlmgncbgaepaaGreat
