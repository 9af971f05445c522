/- A part of the proof. -/
import Derived.Test.YtbnlmgncbgaepaaGreatXh
set_option linter.all false
set_option maxRecDepth 100000
set_option maxHeartbeats 8000000
open Option renaming bind_some → V
open List renaming range_succ → J, map_map → y0, getElem?_eq_getElem → y4, getElem_mem → y6, drop_eq_getElem_cons → yb, getElem?_map → yc, drop_eq_nil_of_le → ye, mem_cons → yf, map_cons → yg, mem_of_getElem? → yj, map_nil → yn, getElem_of_mem → yB, not_mem_nil → yJ, eq_nil_of_length_eq_zero → yM
open Int renaming toNat_lt → y3
namespace Go.Proofs.YtbnlmgncbgaepaaGreat
open Go
section
variable (sn:Bool) (S:List fA) (t:Int) (x:fA) (v:Vl) (f:Int->Vl->Bool) (h0:0<=t) (za:¬ (S.length:Int)<=t) (g:(S.map eA)[t.toNat]?=some (eA x))
include sn S t x v f h0 za g
theorem fit_ev1 (hk:x.kind=1) (hv:v.kind=1) (hp:gA 182 [.agg (zA v)] (.bool true)) (hr:v.rest=[]):gA 151 [sE sn S,.int .i64 t,.agg (zA v),.bool true] (.bool (true)):=by
 have mb:¬ t<0:=by omega
 simp only [gA,eA,iA,hk,hv] at hp g;refine wA (c:=bA) rfl rfl ?_;rw [iA];simp only [hr,yn] at hp ⊢;simp [bA,-V,-y3,-y0,J,mb,za,h0,g,hp,hk,hv,hr]
theorem fit_ev2 (hk:x.kind=2) (hv:v.kind=2) (hp:gA 182 [.agg (zA v)] (.bool true)) (hr:v.rest=[]):gA 151 [sE sn S,.int .i64 t,.agg (zA v),.bool true] (.bool (decide (x.low<=v.i)&&decide (v.i<=x.high))):=by
 have mb:¬ t<0:=by omega
 simp only [gA,eA,iA,hk,hv] at hp g;refine wA (c:=bA) rfl rfl ?_;rw [iA];simp only [hr,yn] at hp ⊢;by_cases c1:x.low<=v.i
 ·simp [bA,-V,-y3,-y0,J,mb,za,h0,g,hp,hk,hv,hr,c1]
 ·simp [bA,-V,-y3,-y0,J,mb,za,h0,g,hp,hk,hv,hr,c1]
theorem fit_ev3 (hk:x.kind=3) (hv:v.kind=3) (hp:gA 182 [.agg (zA v)] (.bool true)) (hr:v.rest=[]):gA 151 [sE sn S,.int .i64 t,.agg (zA v),.bool true] (.bool (decide ((v.s.size:Int)<=x.max))):=by
 have mb:¬ t<0:=by omega
 simp only [gA,eA,iA,hk,hv] at hp g;refine wA (c:=bA) rfl rfl ?_;rw [iA];simp only [hr,yn] at hp ⊢;simp [bA,-V,-y3,-y0,J,mb,za,h0,g,hp,hk,hv,hr]
theorem fit_ev4 (hk:x.kind=4) (hv:v.kind=4) (hp:gA 182 [.agg (zA v)] (.bool true)) (hr:v.rest=[]) (hs:gA 123 [.agg (eA x),.int .i64 v.id] (ZU x.syms v.id)):gA 151 [sE sn S,.int .i64 t,.agg (zA v),.bool true] (.bool (decide (0<=wG x.syms v.id))):=by
 have mb:¬ t<0:=by omega
 simp only [gA,eA,iA,hk,hv] at hp g;refine wA (c:=bA) rfl rfl ?_;rw [iA];simp only [hr,yn] at hp ⊢;simp only [gA,eA,ZU,hk] at hs;generalize wG x.syms v.id=ix at *
 by_cases c1:0<=ix
 ·simp only [c1,decide_true] at hs;simp [bA,-V,-y3,-y0,J,mb,za,h0,g,hp,hk,hv,hr,hs,c1]
 ·simp only [c1,decide_false] at hs;cases ho:x.opn <;> simp only [ho] at hs g
  ·simp [bA,-V,-y3,-y0,J,mb,za,h0,g,hp,hk,hv,hr,hs,c1,ho]
  ·simp [bA,-V,-y3,-y0,J,mb,za,h0,g,hp,hk,hv,hr,hs,c1,ho]
theorem fit_ev7 (hk:x.kind=7) (hv:v.kind=7) (hp:gA 182 [.agg (zA v)] (.bool true)) (hr:v.rest=[]) (he:gA 185 [sE sn S,.int .i64 x.elem,.sl v.xn (v.items.map zA),.bool true] (.bool (v.items.all (f x.elem)))):gA 151 [sE sn S,.int .i64 t,.agg (zA v),.bool true] (.bool (decide ((v.items.length:Int)<=x.max)&&v.items.all (f x.elem))):=by
 have mb:¬ t<0:=by omega
 simp only [gA,eA,iA,hk,hv] at hp g;refine wA (c:=bA) rfl rfl ?_;rw [iA];simp only [hr,yn] at hp ⊢;simp only [gA] at he;generalize v.items.all (f x.elem)=E at *
 by_cases c1:(v.items.length:Int)<=x.max
 ·simp [bA,-V,-y3,-y0,J,mb,za,h0,g,hp,hk,hv,hr,c1,he]
 ·simp [bA,-V,-y3,-y0,J,mb,za,h0,g,hp,hk,hv,hr,c1]
theorem fit_ev9 (hk:x.kind=9) (hv:v.kind=9) (hp:gA 182 [.agg (zA v)] (.bool true)) (hr:v.rest=[]) (he:gA 185 [sE sn S,.int .i64 x.elem,.sl v.xn (v.items.map zA),.bool true] (.bool (v.items.all (f x.elem)))):gA 151 [sE sn S,.int .i64 t,.agg (zA v),.bool true] (.bool (decide (v.items.length<=1)&&v.items.all (f x.elem))):=by
 have mb:¬ t<0:=by omega
 simp only [gA,eA,iA,hk,hv] at hp g;refine wA (c:=bA) rfl rfl ?_;rw [iA];simp only [hr,yn] at hp ⊢;simp only [gA] at he;generalize v.items.all (f x.elem)=E at *
 by_cases c1:v.items.length<=1
 ·have c2:(v.items.length:Int)<=1:=by omega
  simp [bA,-V,-y3,-y0,J,mb,za,h0,g,hp,hk,hv,hr,c1,c2,he]
 ·have c2:¬ (v.items.length:Int)<=1:=by omega
  simp [bA,-V,-y3,-y0,J,mb,za,h0,g,hp,hk,hv,hr,c1,c2]
end
section
variable (sn:Bool) (S:List fA) (t:Int) (x:fA) (v:Vl) (f:Int->Vl->Bool) (h0:0<=t) (za:¬ (S.length:Int)<=t) (g:(S.map eA)[t.toNat]?=some (eA x))
include sn S t x v f h0 za g
theorem fit_ev5 (hk:x.kind=5) (hv:v.kind=5) (hp:gA 182 [.agg (zA v)] (.bool true)) (hr:v.rest=[]) (wo:x.mems.length<=9223372036854775807) (ze:gA 184 [.agg (eA x),.sl v.rn []] (.bool true)) (hf:∀ m∈x.mems,∀ u∈v.items,gA 151 [sE sn S,.int .i64 m.ty,.agg (zA u),.bool true] (.bool (f m.ty u))):gA 151 [sE sn S,.int .i64 t,.agg (zA v),.bool true] (.bool (decide (v.items.length=x.mems.length)&&JH f x.mems v.items)):=by
 have mb:¬ t<0:=by omega
 simp only [gA,eA,iA,hk,hv] at hp g;refine wA (c:=bA) rfl rfl ?_;rw [iA];simp only [hr,yn] at hp ⊢;simp only [gA,eA,hk] at ze;by_cases c1:v.items.length=x.mems.length
 ·skip
  simp [bA,-V,-y3,-y0,J,mb,za,h0,g,hp,hk,hv,c1,hr,ze];refine xA v.items.length (fun i s=>(s.env 3).v=.bool true/\(s.env 4).v=.ptr 4 1 0/\s.mem 4 1=some [⟨.sl sn (S.map eA),.no⟩]/\(s.env 6).v=.ptr 6 1 0/\s.mem 6 1=some ([⟨.int .i64 v.kind,.no⟩,⟨.bool v.b,.no⟩,⟨.int .i64 v.i,.no⟩,⟨.str v.s,.no⟩,⟨.int .i64 v.id,.no⟩,⟨.sl v.kn (v.keys.map zA),.no⟩,⟨.sl v.xn (v.items.map zA),.no⟩,⟨.sl v.rn (v.rest.map kO),.no⟩])/\(s.env 9).v=.ptr 9 3 0/\s.mem 9 3=some (kA x)/\(s.env 12).v=.int .i64 i/\JH f (x.mems.drop i) (v.items.drop i)=JH f x.mems v.items)
   (fun e s=>(e=.exit 1/\JH f x.mems v.items=true)\/(e=.ret/\JH f x.mems v.items=false/\(s.env 8).v=.bool false)) (fun i hi s k h ih tc=>?_) _ _ ?_ (fun e s h=>?_)
  ·obtain ⟨e3,e4,m4,e6,m6,e9,m9,e12,hs⟩:=h;refine tA ?_;by_cases kf:i<v.items.length
   ·have fa:(i:Int)<v.items.length:=by omega
    have da:i<x.mems.length:=by omega
    have g1:(x.mems.map nA)[i]?=some (nA x.mems[i]):=by simp [da]
    have g2:(v.items.map zA)[i]?=some (zA v.items[i]):=by simp [kf]
    have hw:=ZA (i:=i);have hx:=hf x.mems[i] (y6 _) v.items[i] (y6 _);rw [yb da,yb kf,JH] at hs;generalize x.mems[i]=m at *
    generalize v.items[i]=u at *
    simp only [gA,nA,iA] at g1 g2 hx;cases uz:f m.ty u with
    | true =>
     rw [uz] at hx hs;simp [fJ,-V,-y3,-y0,J,e3,e4,m4,e6,m6,e9,m9,e12,fa,g1,g2,hx,hw];refine ih kf _ ⟨?_,?_,?_,?_,?_,?_,?_,?_,by simpa using hs⟩ <;> simp [e3,e4,m4,e6,m6,e9,m9]
    | false =>
     rw [uz] at hx hs;simp [fJ,-V,-y3,-y0,J,e3,e4,m4,e6,m6,e9,m9,e12,fa,g1,g2,hx];exact tc _ _ (.inr ⟨rfl,by rw [<- hs]; rfl,by simp⟩)
   ·have fa:¬ (i:Int)<v.items.length:=by omega
    simp [fJ,-V,-y3,-y0,J,e6,m6,e12,fa];have hd:x.mems.drop i=[]:=ye (by omega);rw [hd,JH] at hs
    ·exact tc _ _ (.inl ⟨rfl,hs.symm⟩)
    ·intro m r v' q h; cases h
  ·simp [hk,hv,hr]
  ·rcases h with ⟨rfl,h1⟩ | ⟨rfl,h1,h2⟩
   ·simp [-V,-y3,-y0,J,h1]
   ·simp [-V,-y3,-y0,J,h1,h2]
 ·have zi:¬ (v.items.length:Int)=x.mems.length:=by omega
  simp [bA,-V,-y3,-y0,J,mb,za,h0,g,hp,hk,hv,hr,c1,zi]
theorem fit_ev6 (hk:x.kind=6) (hv:v.kind=6) (hp:gA 182 [.agg (zA v)] (.bool true)) (hr:v.rest=[]) (hm:gA 99 [.agg (eA x),.int .i64 v.id] (wQ x.mems v.id)) (hf:∀ m∈x.mems,∀ u∈v.items,gA 151 [sE sn S,.int .i64 m.ty,.agg (zA u),.bool true] (.bool (f m.ty u))):gA 151 [sE sn S,.int .i64 t,.agg (zA v),.bool true] (.bool (FJ f x.mems[(xB x.mems v.id).toNat]? (decide (0<=xB x.mems v.id)) v.rest.isEmpty v.items)):=by
 have mb:¬ t<0:=by omega
 simp only [gA,eA,iA,hk,hv] at hp g;refine wA (c:=bA) rfl rfl ?_;rw [iA];simp only [hr,yn] at hp ⊢;simp only [gA,eA,wQ,hk] at hm;have hix:=mN (fun m:BB=>decide (m.id=v.id)) x.mems;have ne:=WE (fun m:BB=>decide (m.id=v.id)) x.mems;change xB x.mems v.id≠-1->_ at hix;change -1<=xB x.mems v.id at ne;change ∀ h:xB x.mems v.id≠-1,∃ y,x.mems[(xB x.mems v.id).toNat]?=some y/\_ at hix;generalize xB x.mems v.id=ix at *
 by_cases c1:0<=ix
 ·simp only [c1,decide_true] at hm;obtain ⟨m,hm1,_⟩:=hix (by omega);have sv:max ix 0=ix:=Int.max_eq_left c1;rw [sv] at hm;have g2:(x.mems.map nA)[ix.toNat]?=some (nA m):=by rw [yc,hm1]; rfl
  simp only [nA] at g2;rw [hm1];by_cases c2:v.items.length=1
  ·obtain ⟨u,hu⟩:=List.length_eq_one_iff.1 c2;have hf:=hf m (yj hm1) u (by rw [hu]; simp);simp only [gA,iA] at hf;rw [hu] at hp ⊢;simp only [iA,yg,yn] at hp;simp [bA,-V,-y3,-y0,J,mb,za,h0,g,hp,hk,hv,hr,hm,g2,c1,hf,iA,FJ]
  ·have eo:¬ (v.items.length:Int)=1:=by omega
   rw [nS _ _ _ _ _ c2];simp [bA,-V,-y3,-y0,J,mb,za,h0,g,hp,hk,hv,hr,hm,g2,c1,eo]
 ·simp only [c1,decide_false] at hm;rw [decide_eq_false c1,lU];cases ho:x.opn <;> simp only [ho] at hm g
  ·simp [bA,-V,-y3,-y0,J,mb,za,h0,g,hp,hk,hv,hr,hm,ho]
  ·simp [bA,-V,-y3,-y0,J,mb,za,h0,g,hp,hk,hv,hr,hm,ho]
theorem fit_ev8 (hk:x.kind=8) (hv:v.kind=8) (hp:gA 182 [.agg (zA v)] (.bool true)) (hr:v.rest=[]) (sv:x.max<=50) (jt:∀ k∈v.keys,IR k.i) (he:gA 185 [sE sn S,.int .i64 x.elem,.sl v.xn (v.items.map zA),.bool true] (.bool (v.items.all (f x.elem)))) (dh:gA 185 [sE sn S,.int .i64 x.key,.sl v.kn (v.keys.map zA),.bool true] (.bool (v.keys.all (f x.key)))):gA 151 [sE sn S,.int .i64 t,.agg (zA v),.bool true] (.bool (decide ((v.keys.length:Int)<=x.max)&&decide (v.items.length=v.keys.length)&&v.keys.all (f x.key)&&qN v.keys&&v.items.all (f x.elem))):=by
 have mb:¬ t<0:=by omega
 simp only [gA,eA,iA,hk,hv] at hp g;refine wA (c:=bA) rfl rfl ?_;rw [iA];simp only [hr,yn] at hp ⊢;simp only [gA] at he dh;generalize v.items.all (f x.elem)=E at *
 generalize v.keys.all (f x.key)=KE at *
 by_cases c1:x.max<v.keys.length
 ·have zi:¬ (v.keys.length:Int)<=x.max:=by omega
  simp [bA,-V,-y3,-y0,J,mb,za,h0,g,hp,hk,hv,hr,c1,zi]
 have zi:(v.keys.length:Int)<=x.max:=by omega
 have zh:v.keys.length<=50:=by omega
 by_cases c2:v.items.length=v.keys.length
 case neg =>
  have eo:¬ (v.items.length:Int)=v.keys.length:=by omega
  simp [bA,-V,-y3,-y0,J,mb,za,h0,g,hp,hk,hv,hr,c1,zi,c2,eo]
 cases KE with
 | false=>simp [bA,-V,-y3,-y0,J,mb,za,h0,g,hp,hk,hv,hr,c1,zi,c2,dh]
 | true =>
  cases E with
  | false=>simp [bA,-V,-y3,-y0,J,mb,za,h0,g,hp,hk,hv,hr,c1,zi,c2,dh,he]
  | true =>
  simp [bA,-V,-y3,-y0,J,mb,za,h0,g,hp,hk,hv,hr,c1,zi,c2,dh,he];refine xA (v.keys.length - 1) (fun i s=>(s.env 6).v=.ptr 6 1 0/\s.mem 6 1=some (uR v)/\(s.env 15).v=.int .i64 ((i + 1:Nat):Int)/\qN (v.keys.drop i)=qN v.keys)
   (fun e s=>(e=.exit 3/\qN v.keys=true)\/(e=.ret/\qN v.keys=false/\(s.env 8).v=.bool false)) (fun i hi s k h ih tc=>?_) _ _ ?_ (fun e s h=>?_)
  ·obtain ⟨e6,m6,mq,hs⟩:=h;refine tA ?_;by_cases da:i<v.keys.length - 1
   ·have up:i<v.keys.length:=by omega
    have rk:i + 1<v.keys.length:=by omega
    have hx:=rvcmp_ev v.keys[i] v.keys[i + 1] (jt _ (y6 _)) (jt _ (y6 _));have g1:(v.keys.map zA)[i]?=some (zA v.keys[i]):=by simp [up]
    have g2:(v.keys.map zA)[i + 1]?=some (zA v.keys[i + 1]):=by simp [rk]
    rw [yb up,yb rk,qN] at hs;have ji:(decide (KT v.keys[i] v.keys[i + 1]<0)&&qN (v.keys.drop (i + 1)))=qN v.keys:=by rw [<- hs,yb rk]
    clear hs;generalize v.keys[i]=a at *
    generalize v.keys[i + 1]=b at *
    obtain ⟨z,hz⟩:∃ z:Int,z=((i + 1:Nat):Int):=⟨_,rfl⟩;obtain ⟨y,hy⟩:∃ y:Int,y=(i:Int):=⟨_,rfl⟩;rw [<- hz] at mq;have gc:0<=z:=by omega
    have ii:0<=y:=by omega
    have fk:z<v.keys.length:=by omega
    have xx:IntKind.i64.wrap (z - 1)=y:=by rw [IntWalk.i64_in _ (by omega)]; omega
    have jr:IntKind.i64.wrap (z + 1)=((i + 1 + 1:Nat):Int):=by rw [IntWalk.i64_in _ (by omega)]; omega
    rw [show i=y.toNat from by omega] at g1;rw [show i + 1=z.toNat from by omega] at g2;simp only [gA,iA] at g1 g2 hx;by_cases hc:KT a b<0
    ·have pf:¬ 0<=KT a b:=by omega
     simp [dJ,-V,-y3,-y0,J,e6,m6,mq,fk,gc,ii,xx,g1,g2,hx,pf,jr];refine ih da _ ⟨?_,?_,?_,by rw [<- ji,decide_eq_true hc]; rfl⟩ <;> simp [e6,m6]
    ·have pf:0<=KT a b:=by omega
     simp [dJ,-V,-y3,-y0,J,e6,m6,mq,fk,gc,ii,xx,g1,g2,hx,pf];exact tc _ _ (.inr ⟨rfl,by rw [<- ji,decide_eq_false hc]; rfl,by simp⟩)
   ·obtain ⟨z,hz⟩:∃ z:Int,z=((i + 1:Nat):Int):=⟨_,rfl⟩;rw [<- hz] at mq;have fk:¬ z<v.keys.length:=by omega
    have ml:qN (v.keys.drop i)=true:=by
     match hd:v.keys.drop i with
     | []=>rfl
     | [_]=>rfl
     | a :: b :: r=>have:=congrArg List.length hd; simp at this; omega
    rw [ml] at hs;simp [dJ,-V,-y3,-y0,J,e6,m6,mq,fk];exact tc _ _ (.inl ⟨rfl,hs.symm⟩)
  ·simp [hv,hr]
  ·rcases h with ⟨rfl,h1⟩ | ⟨rfl,h1,h2⟩
   ·simp [-V,-y3,-y0,J,h1]
   ·simp [-V,-y3,-y0,J,h1,h2]
end
section
variable (sn:Bool) (S:List fA) (t:Int) (x:fA) (v:Vl) (f:Int->Vl->Bool) (h0:0<=t) (za:¬ (S.length:Int)<=t) (g:(S.map eA)[t.toNat]?=some (eA x))
include sn S t x v f h0 za g
theorem fits_ev1 (hk:x.kind=1) (hv:v.kind=1) (hp:gA 238 [.agg (zA v)] (.bool true)):gA 227 [sE sn S,.int .i64 t,.agg (zA v),.bool true] (.bool (true)):=by
 have mb:¬ t<0:=by omega
 simp only [gA,eA,iA,hk,hv] at hp g;refine wA (c:=lA) rfl rfl ?_;rw [iA];simp [lA,-V,-y3,-y0,J,mb,za,h0,g,hp,hk,hv]
theorem fits_ev2 (hk:x.kind=2) (hv:v.kind=2) (hp:gA 238 [.agg (zA v)] (.bool true)):gA 227 [sE sn S,.int .i64 t,.agg (zA v),.bool true] (.bool (decide (x.low<=v.i)&&decide (v.i<=x.high))):=by
 have mb:¬ t<0:=by omega
 simp only [gA,eA,iA,hk,hv] at hp g;refine wA (c:=lA) rfl rfl ?_;rw [iA];by_cases c1:x.low<=v.i
 ·simp [lA,-V,-y3,-y0,J,mb,za,h0,g,hp,hk,hv,c1]
 ·simp [lA,-V,-y3,-y0,J,mb,za,h0,g,hp,hk,hv,c1]
theorem fits_ev3 (hk:x.kind=3) (hv:v.kind=3) (hp:gA 238 [.agg (zA v)] (.bool true)):gA 227 [sE sn S,.int .i64 t,.agg (zA v),.bool true] (.bool (decide ((v.s.size:Int)<=x.max))):=by
 have mb:¬ t<0:=by omega
 simp only [gA,eA,iA,hk,hv] at hp g;refine wA (c:=lA) rfl rfl ?_;rw [iA];simp [lA,-V,-y3,-y0,J,mb,za,h0,g,hp,hk,hv]
theorem fits_ev4 (hk:x.kind=4) (hv:v.kind=4) (hp:gA 238 [.agg (zA v)] (.bool true)) (hs:gA 154 [.agg (eA x),.int .i64 v.id] (ZU x.syms v.id)):gA 227 [sE sn S,.int .i64 t,.agg (zA v),.bool true] (.bool (decide (0<=wG x.syms v.id))):=by
 have mb:¬ t<0:=by omega
 simp only [gA,eA,iA,hk,hv] at hp g;refine wA (c:=lA) rfl rfl ?_;rw [iA];simp only [gA,eA,ZU,hk] at hs;generalize wG x.syms v.id=ix at *
 by_cases c1:0<=ix
 ·simp only [c1,decide_true] at hs;simp [lA,-V,-y3,-y0,J,mb,za,h0,g,hp,hk,hv,hs,c1]
 ·simp only [c1,decide_false] at hs;cases ho:x.opn <;> simp only [ho] at hs g
  ·simp [lA,-V,-y3,-y0,J,mb,za,h0,g,hp,hk,hv,hs,c1,ho]
  ·simp [lA,-V,-y3,-y0,J,mb,za,h0,g,hp,hk,hv,hs,c1,ho]
theorem fits_ev7 (hk:x.kind=7) (hv:v.kind=7) (hp:gA 238 [.agg (zA v)] (.bool true)) (he:gA 240 [sE sn S,.int .i64 x.elem,.sl v.xn (v.items.map zA),.bool true] (.bool (v.items.all (f x.elem)))):gA 227 [sE sn S,.int .i64 t,.agg (zA v),.bool true] (.bool (decide ((v.items.length:Int)<=x.max)&&v.items.all (f x.elem))):=by
 have mb:¬ t<0:=by omega
 simp only [gA,eA,iA,hk,hv] at hp g;refine wA (c:=lA) rfl rfl ?_;rw [iA];simp only [gA] at he;generalize v.items.all (f x.elem)=E at *
 by_cases c1:(v.items.length:Int)<=x.max
 ·simp [lA,-V,-y3,-y0,J,mb,za,h0,g,hp,hk,hv,c1,he]
 ·simp [lA,-V,-y3,-y0,J,mb,za,h0,g,hp,hk,hv,c1]
theorem fits_ev9 (hk:x.kind=9) (hv:v.kind=9) (hp:gA 238 [.agg (zA v)] (.bool true)) (he:gA 240 [sE sn S,.int .i64 x.elem,.sl v.xn (v.items.map zA),.bool true] (.bool (v.items.all (f x.elem)))):gA 227 [sE sn S,.int .i64 t,.agg (zA v),.bool true] (.bool (decide (v.items.length<=1)&&v.items.all (f x.elem))):=by
 have mb:¬ t<0:=by omega
 simp only [gA,eA,iA,hk,hv] at hp g;refine wA (c:=lA) rfl rfl ?_;rw [iA];simp only [gA] at he;generalize v.items.all (f x.elem)=E at *
 by_cases c1:v.items.length<=1
 ·have c2:(v.items.length:Int)<=1:=by omega
  simp [lA,-V,-y3,-y0,J,mb,za,h0,g,hp,hk,hv,c1,c2,he]
 ·have c2:¬ (v.items.length:Int)<=1:=by omega
  simp [lA,-V,-y3,-y0,J,mb,za,h0,g,hp,hk,hv,c1,c2]
end
section
variable (sn:Bool) (S:List fA) (t:Int) (x:fA) (v:Vl) (f:Int->Vl->Bool) (h0:0<=t) (za:¬ (S.length:Int)<=t) (g:(S.map eA)[t.toNat]?=some (eA x))
include sn S t x v f h0 za g
theorem fits_ev5 (hk:x.kind=5) (hv:v.kind=5) (hp:gA 238 [.agg (zA v)] (.bool true)) (wo:x.mems.length<=9223372036854775807) (hf:∀ m∈x.mems,∀ u∈v.items,gA 227 [sE sn S,.int .i64 m.ty,.agg (zA u),.bool true] (.bool (f m.ty u))):gA 227 [sE sn S,.int .i64 t,.agg (zA v),.bool true] (.bool (decide (v.items.length=x.mems.length)&&v.rest.isEmpty&&JH f x.mems v.items)):=by
 have mb:¬ t<0:=by omega
 simp only [gA,eA,iA,hk,hv] at hp g;refine wA (c:=lA) rfl rfl ?_;rw [iA];by_cases c1:v.items.length=x.mems.length
 ·by_cases c2:v.rest=[]
  case neg =>
   have eo:0<v.rest.length:=by
    have:v.rest.length≠0:=fun h=>c2 (yM h)
    omega
   simp [lA,-V,-y3,-y0,J,mb,za,h0,g,hp,hk,hv,c1,c2,eo]
  rw [c2] at hp ⊢;simp only [yn] at hp;simp [lA,-V,-y3,-y0,J,mb,za,h0,g,hp,hk,hv,c1,c2];refine tA ?_;simp [EO,-V,-y3,-y0,J];refine xA x.mems.length (fun i s=>(s.env 3).v=.bool true/\(s.env 4).v=.ptr 4 1 0/\s.mem 4 1=some [⟨.sl sn (S.map eA),.no⟩]/\(s.env 6).v=.ptr 6 1 0/\s.mem 6 1=some ([⟨.int .i64 5,.no⟩,⟨.bool v.b,.no⟩,⟨.int .i64 v.i,.no⟩,⟨.str v.s,.no⟩,⟨.int .i64 v.id,.no⟩,⟨.sl v.kn (v.keys.map zA),.no⟩,⟨.sl v.xn (v.items.map zA),.no⟩,⟨.sl v.rn [],.no⟩])/\(s.env 150).v=.sl x.mn (x.mems.map nA)/\(s.env 151).v=.int .i64 x.mems.length/\(s.env 152).v=.int .i64 i/\JH f (x.mems.drop i) (v.items.drop i)=JH f x.mems v.items)
   (fun e s=>(e=.exit 3/\JH f x.mems v.items=true)\/(e=.ret/\JH f x.mems v.items=false/\(s.env 8).v=.bool false)) (fun i hi s k h ih tc=>?_) _ _ ?_ (fun e s h=>?_)
  ·obtain ⟨e3,e4,m4,e6,m6,dz,jw,az,hs⟩:=h;refine tA ?_;by_cases da:i<x.mems.length
   ·have fa:(i:Int)<x.mems.length:=by omega
    have kf:i<v.items.length:=by omega
    have g1:(x.mems.map nA)[i]?=some (nA x.mems[i]):=by simp [da]
    have g2:(v.items.map zA)[i]?=some (zA v.items[i]):=by simp [kf]
    have hw:=ZA (i:=i);have hx:=hf x.mems[i] (y6 _) v.items[i] (y6 _);rw [yb da,yb kf,JH] at hs;generalize x.mems[i]=m at *
    generalize v.items[i]=u at *
    simp only [gA,nA,iA] at g1 g2 hx;cases uz:f m.ty u with
    | true =>
     rw [uz] at hx hs;simp [QI,-V,-y3,-y0,J,e3,e4,m4,e6,m6,dz,jw,az,fa,g1,g2,hx,hw];refine ih da _ ⟨?_,?_,?_,?_,?_,?_,?_,?_,by simpa using hs⟩ <;> simp [e3,e4,m4,e6,m6,dz,jw]
    | false =>
     rw [uz] at hx hs;simp [QI,-V,-y3,-y0,J,e3,e4,m4,e6,m6,dz,jw,az,fa,g1,g2,hx];exact tc _ _ (.inr ⟨rfl,by rw [<- hs]; rfl,by simp⟩)
   ·have fa:¬ (i:Int)<x.mems.length:=by omega
    simp [QI,-V,-y3,-y0,J,jw,az,fa];rw [ye (by omega),JH] at hs
    ·exact tc _ _ (.inl ⟨rfl,hs.symm⟩)
    ·intro m r v' q h; cases h
  ·simp [-V,-y3,-y0,J]
  ·rcases h with ⟨rfl,h1⟩ | ⟨rfl,h1,h2⟩
   ·simp [-V,-y3,-y0,J,h1]
   ·simp [-V,-y3,-y0,J,h1,h2]
 ·have zi:¬ (v.items.length:Int)=x.mems.length:=by omega
  simp [lA,-V,-y3,-y0,J,mb,za,h0,g,hp,hk,hv,c1,zi]
theorem fits_ev6 (hk:x.kind=6) (hv:v.kind=6) (hp:gA 238 [.agg (zA v)] (.bool true)) (hm:gA 137 [.agg (eA x),.int .i64 v.id] (wQ x.mems v.id)) (hf:∀ m∈x.mems,∀ u∈v.items,gA 227 [sE sn S,.int .i64 m.ty,.agg (zA u),.bool true] (.bool (f m.ty u))):gA 227 [sE sn S,.int .i64 t,.agg (zA v),.bool true] (.bool (FJ f x.mems[(xB x.mems v.id).toNat]? (decide (0<=xB x.mems v.id)) v.rest.isEmpty v.items)):=by
 have mb:¬ t<0:=by omega
 simp only [gA,eA,iA,hk,hv] at hp g;refine wA (c:=lA) rfl rfl ?_;rw [iA];simp only [gA,eA,wQ,hk] at hm;have hix:=mN (fun m:BB=>decide (m.id=v.id)) x.mems;have ne:=WE (fun m:BB=>decide (m.id=v.id)) x.mems;change xB x.mems v.id≠-1->_ at hix;change -1<=xB x.mems v.id at ne;change ∀ h:xB x.mems v.id≠-1,∃ y,x.mems[(xB x.mems v.id).toNat]?=some y/\_ at hix;generalize xB x.mems v.id=ix at *
 by_cases c1:0<=ix
 ·simp only [c1,decide_true] at hm;obtain ⟨m,hm1,_⟩:=hix (by omega);have sv:max ix 0=ix:=Int.max_eq_left c1;rw [sv] at hm;have g2:(x.mems.map nA)[ix.toNat]?=some (nA m):=by rw [yc,hm1]; rfl
  simp only [nA] at g2;rw [hm1];by_cases c2:v.items.length=1
  ·obtain ⟨u,hu⟩:=List.length_eq_one_iff.1 c2;have hf:=hf m (yj hm1) u (by rw [hu]; simp);simp only [gA,iA] at hf;rw [hu] at hp ⊢;simp only [iA,yg,yn] at hp;by_cases c3:v.rest=[]
   ·rw [c3] at hp ⊢;simp only [yn] at hp;simp [lA,-V,-y3,-y0,J,mb,za,h0,g,hp,hk,hv,hm,g2,c1,hf,iA,FJ]
   ·simp [lA,-V,-y3,-y0,J,mb,za,h0,g,hp,hk,hv,hm,g2,c1,c3,iA,FJ]
  ·have eo:¬ (v.items.length:Int)=1:=by omega
   rw [nS _ _ _ _ _ c2];simp [lA,-V,-y3,-y0,J,mb,za,h0,g,hp,hk,hv,hm,g2,c1,eo]
 ·simp only [c1,decide_false] at hm;rw [decide_eq_false c1,lU];cases ho:x.opn <;> simp only [ho] at hm g
  ·simp [lA,-V,-y3,-y0,J,mb,za,h0,g,hp,hk,hv,hm,ho]
  ·simp [lA,-V,-y3,-y0,J,mb,za,h0,g,hp,hk,hv,hm,ho]
theorem fits_ev8 (hk:x.kind=8) (hv:v.kind=8) (hp:gA 238 [.agg (zA v)] (.bool true)) (hr:v.rest=[]) (sv:x.max<=50) (jt:∀ k∈v.keys,IR k.i) (he:gA 240 [sE sn S,.int .i64 x.elem,.sl v.xn (v.items.map zA),.bool true] (.bool (v.items.all (f x.elem)))) (dh:gA 240 [sE sn S,.int .i64 x.key,.sl v.kn (v.keys.map zA),.bool true] (.bool (v.keys.all (f x.key)))):gA 227 [sE sn S,.int .i64 t,.agg (zA v),.bool true] (.bool (decide ((v.keys.length:Int)<=x.max)&&decide (v.items.length=v.keys.length)&&v.keys.all (f x.key)&&qN v.keys&&v.items.all (f x.elem))):=by
 have mb:¬ t<0:=by omega
 simp only [gA,eA,iA,hk,hv] at hp g;refine wA (c:=lA) rfl rfl ?_;rw [iA];simp only [hr,yn] at hp ⊢;simp only [gA] at he dh;generalize v.items.all (f x.elem)=E at *
 generalize v.keys.all (f x.key)=KE at *
 by_cases c1:x.max<v.keys.length
 ·have zi:¬ (v.keys.length:Int)<=x.max:=by omega
  simp [lA,-V,-y3,-y0,J,mb,za,h0,g,hp,hk,hv,hr,c1,zi]
 have zi:(v.keys.length:Int)<=x.max:=by omega
 have zh:v.keys.length<=50:=by omega
 by_cases c2:v.items.length=v.keys.length
 case neg =>
  have eo:¬ (v.items.length:Int)=v.keys.length:=by omega
  simp [lA,-V,-y3,-y0,J,mb,za,h0,g,hp,hk,hv,hr,c1,zi,c2,eo]
 cases KE with
 | false=>simp [lA,-V,-y3,-y0,J,mb,za,h0,g,hp,hk,hv,hr,c1,zi,c2,dh]
 | true =>
  simp [lA,-V,-y3,-y0,J,mb,za,h0,g,hp,hk,hv,hr,c1,zi,c2,dh];refine xA (v.keys.length - 1) (fun i s=>(s.env 3).v=.bool true/\(s.env 4).v=.ptr 4 1 0/\s.mem 4 1=some [⟨.sl sn (S.map eA),.no⟩]/\(s.env 9).v=.ptr 9 3 0/\s.mem 9 3=some (kA x)/\(s.env 6).v=.ptr 6 1 0/\s.mem 6 1=some (uR v)/\(s.env 20).v=.int .i64 ((i + 1:Nat):Int)/\qN (v.keys.drop i)=qN v.keys)
   (fun e s=>(e=.exit 5/\qN v.keys=true/\(s.env 3).v=.bool true/\(s.env 4).v=.ptr 4 1 0/\s.mem 4 1=some [⟨.sl sn (S.map eA),.no⟩]/\(s.env 9).v=.ptr 9 3 0/\s.mem 9 3=some (kA x)/\(s.env 6).v=.ptr 6 1 0/\s.mem 6 1=some (uR v))\/(e=.ret/\qN v.keys=false/\(s.env 8).v=.bool false)) (fun i hi s k h ih tc=>?_) _ _ ?_ (fun e s h=>?_)
  ·obtain ⟨e3,e4,m4,e9,m9,e6,m6,mq,hs⟩:=h;refine tA ?_;by_cases da:i<v.keys.length - 1
   ·have up:i<v.keys.length:=by omega
    have rk:i + 1<v.keys.length:=by omega
    have hx:=vcmp_ev v.keys[i] v.keys[i + 1] (jt _ (y6 _)) (jt _ (y6 _));have g1:(v.keys.map zA)[i]?=some (zA v.keys[i]):=by simp [up]
    have g2:(v.keys.map zA)[i + 1]?=some (zA v.keys[i + 1]):=by simp [rk]
    rw [yb up,yb rk,qN] at hs;have ji:(decide (KT v.keys[i] v.keys[i + 1]<0)&&qN (v.keys.drop (i + 1)))=qN v.keys:=by rw [<- hs,yb rk]
    clear hs;generalize v.keys[i]=a at *
    generalize v.keys[i + 1]=b at *
    obtain ⟨z,hz⟩:∃ z:Int,z=((i + 1:Nat):Int):=⟨_,rfl⟩;obtain ⟨y,hy⟩:∃ y:Int,y=(i:Int):=⟨_,rfl⟩;rw [<- hz] at mq;have gc:0<=z:=by omega
    have ii:0<=y:=by omega
    have fk:z<v.keys.length:=by omega
    have xx:IntKind.i64.wrap (z - 1)=y:=by rw [IntWalk.i64_in _ (by omega)]; omega
    have jr:IntKind.i64.wrap (z + 1)=((i + 1 + 1:Nat):Int):=by rw [IntWalk.i64_in _ (by omega)]; omega
    rw [show i=y.toNat from by omega] at g1;rw [show i + 1=z.toNat from by omega] at g2;simp only [gA,iA] at g1 g2 hx;by_cases hc:KT a b<0
    ·have pf:¬ 0<=KT a b:=by omega
     simp [mI,-V,-y3,-y0,J,e6,m6,mq,fk,gc,ii,xx,g1,g2,hx,pf,jr];refine ih da _ ⟨?_,?_,?_,?_,?_,?_,?_,?_,by rw [<- ji,decide_eq_true hc]; rfl⟩ <;> simp [e6,m6,e3,e4,m4,e9,m9]
    ·have pf:0<=KT a b:=by omega
     simp [mI,-V,-y3,-y0,J,e6,m6,mq,fk,gc,ii,xx,g1,g2,hx,pf];exact tc _ _ (.inr ⟨rfl,by rw [<- ji,decide_eq_false hc]; rfl,by simp⟩)
   ·obtain ⟨z,hz⟩:∃ z:Int,z=((i + 1:Nat):Int):=⟨_,rfl⟩;rw [<- hz] at mq;have fk:¬ z<v.keys.length:=by omega
    have ml:qN (v.keys.drop i)=true:=by
     match hd:v.keys.drop i with
     | []=>rfl
     | [_]=>rfl
     | a :: b :: r=>have:=congrArg List.length hd; simp at this; omega
    rw [ml] at hs;simp [mI,-V,-y3,-y0,J,e6,m6,mq,fk];exact tc _ _ (.inl ⟨rfl,hs.symm,by simp [e3],by simp [e4],by simp [m4],by simp [e9],by simp [m9],by simp [e6],by simp [m6]⟩)
  ·simp [hk,hv,hr]
  ·rcases h with ⟨rfl,h1,e3,e4,m4,e9,m9,e6,m6⟩ | ⟨rfl,h1,h2⟩
   ·simp [-V,-y3,-y0,J,h1,e3,e4,m4,e9,m9,e6,m6,he,hk]
   ·simp [-V,-y3,-y0,J,h1,h2]
end
def HV (S:List fA):Prop:=∀ x∈S,bB x=true/\x.fine
theorem JV {x:fA} (h:bB x=true) (hk:x.kind=8):x.max<=50:=by
 unfold bB PH at h;simp [hk] at h;omega
theorem rest_fit (f:Int->Vl->Bool) (x:fA) (v:Vl) (hk:v.kind=x.kind) (hz:kE v=true) (hr:v.rest≠[]):DQ f x v=false:=by
 have ze:v.rest.isEmpty=false:=by simpa using hr
 by_cases h5:x.kind=5
 ·simp [DQ,h5,ze]
 ·by_cases h6:x.kind=6
  ·simp [DQ,h6,ze,N5]
  ·simp [kE,hk,h5,h6,hr] at hz
section
variable (sn:Bool) (S:List fA)
include sn S
theorem fits_evO (t:Int) (v:Vl) (h:mB S.length t=true):gA 227 [sE sn S,.int .i64 t,.agg (zA v),.bool true] (.bool false):=by
 refine wA (c:=lA) rfl rfl ?_;rw [iA];by_cases h0:t<0
 ·simp [lA,-V,-y3,-y0,J,h0]
 ·have h1:(S.length:Int)<=t:=by simpa [mB,h0] using h
  simp [lA,-V,-y3,-y0,J,h0,h1]
theorem fits_evK (t:Int) (x:fA) (v:Vl) (h0:0<=t) (za:¬ (S.length:Int)<=t) (g:(S.map eA)[t.toNat]?=some (eA x)) (hk:¬ v.kind=x.kind):gA 227 [sE sn S,.int .i64 t,.agg (zA v),.bool true] (.bool false):=by
 have mb:¬ t<0:=by omega
 simp only [eA] at g;refine wA (c:=lA) rfl rfl ?_;rw [iA];simp [lA,-V,-y3,-y0,J,mb,za,h0,g,hk]
theorem fits_evZ (t:Int) (x:fA) (v:Vl) (h0:0<=t) (za:¬ (S.length:Int)<=t) (g:(S.map eA)[t.toNat]?=some (eA x)) (hk:v.kind=x.kind) (hp:gA 238 [.agg (zA v)] (.bool false)):gA 227 [sE sn S,.int .i64 t,.agg (zA v),.bool true] (.bool false):=by
 have mb:¬ t<0:=by omega
 simp only [gA,eA,iA,hk] at hp g;refine wA (c:=lA) rfl rfl ?_;rw [iA];simp [lA,-V,-y3,-y0,J,mb,za,h0,g,hp,hk]
theorem fits_ev (hS:HV S):∀ (n:Nat) (t:Int) (v:Vl),SizeOf.sizeOf v<n->v.ok->v.i64->gA 227 [sE sn S,.int .i64 t,.agg (zA v),.bool true] (.bool (jG S n t v)):=by
 intro n
 induction n with
 | zero=>intro t v h; omega
 | succ n ih =>
  intro t v hn ra pd;rw [jG];cases ho:mB S.length t with
  | true=>exact fits_evO sn S t v ho
  | false =>
   obtain ⟨h0,za⟩:0<=t/\¬ (S.length:Int)<=t:=by
    simp [mB] at ho;omega
   have da:t.toNat<S.length:=by omega
   have ma:S[t.toNat]∈S:=y6 _;have g:(S.map eA)[t.toNat]?=some (eA S[t.toNat]):=by rw [yc,y4 da]; rfl
   rw [y4 da];generalize S[t.toNat]=x at *
   obtain ⟨hgx,my⟩:=hS x ma;have nv:=dK hgx;simp only [Bool.not_false,Bool.true_and];by_cases hk:v.kind=x.kind
   case neg=>rw [decide_eq_false hk]; exact fits_evK sn S t x v h0 za g hk
   rw [decide_eq_true hk];simp only [Bool.true_and];have hp:=proper_ev v (by rw [hk]; exact nv);cases hz:kE v with
   | false=>rw [hz] at hp; exact fits_evZ sn S t x v h0 za g hk hp
   | true =>
    rw [hz] at hp;simp only [Bool.true_and];rw [Vl.ok_def] at ra;rw [Vl.i64_def] at pd;obtain ⟨o1,o2,o3,o4,o5,o6⟩:=ra;obtain ⟨j1,j2,j3⟩:=pd;have pk:∀ u∈v.items,∀ t',gA 227 [sE sn S,.int .i64 t',.agg (zA u),.bool true] (.bool (jG S n t' u)):=fun u hu t'=>ih t' u (by have:=Vl.items_lt v u hu; omega) (o6 u hu) (j3 u hu)
    have dh:∀ u∈v.keys,∀ t',gA 227 [sE sn S,.int .i64 t',.agg (zA u),.bool true] (.bool (jG S n t' u)):=fun u hu t'=>ih t' u (by have:=Vl.keys_lt v u hu; omega) (o5 u hu) (j2 u hu)
    have ld:x.mems.length<=9223372036854775807:=my.1.2.1;have pu:x.syms.length<=9223372036854775807:=my.1.1;unfold DQ;have hv:=hk;rcases kinds x.kind with e | e | e | e | e | e | e | e | e | e
    all_goals try rw [e] at hv
    ·have r:=fits_ev1 sn S t x v (jG S n) h0 za g e hv hp; simpa [e] using r
    ·have r:=fits_ev2 sn S t x v (jG S n) h0 za g e hv hp; simpa [e] using r
    ·have r:=fits_ev3 sn S t x v (jG S n) h0 za g e hv hp; simpa [e] using r
    ·have r:=fits_ev4 sn S t x v (jG S n) h0 za g e hv hp (Z7 x v.id pu); simpa [e] using r
    ·have r:=fits_ev5 sn S t x v (jG S n) h0 za g e hv hp ld (fun m _ u hu=>pk u hu m.ty); simpa [e] using r
    ·have r:=fits_ev6 sn S t x v (jG S n) h0 za g e hv hp (sW x v.id ld) (fun m _ u hu=>pk u hu m.ty); simpa [e] using r
    ·have r:=fits_ev7 sn S t x v (jG S n) h0 za g e hv hp (CU sn S x.elem (jG S n x.elem) v.items o2 v.xn fun u hu=>pk u hu x.elem); simpa [e] using r
    ·have r:=fits_ev8 sn S t x v (jG S n) h0 za g e hv hp (by simp [kE,hv] at hz; simp [hz]) (JV hgx e) (fun u hu=>((Vl.i64_def u).1 (j2 u hu)).1) (CU sn S x.elem (jG S n x.elem) v.items o2 v.xn fun u hu=>pk u hu x.elem) (CU sn S x.key (jG S n x.key) v.keys o1 v.kn fun u hu=>dh u hu x.key); simpa [e] using r
    ·have r:=fits_ev9 sn S t x v (jG S n) h0 za g e hv hp (CU sn S x.elem (jG S n x.elem) v.items o2 v.xn fun u hu=>pk u hu x.elem); simpa [e] using r
    ·exact absurd nv e
end
theorem rzero_ev (v:Vl) (h:1<=v.kind/\v.kind<=9):gA 182 [.agg (zA v)] (.bool (kE v)):=by
 rcases kinds v.kind with e | e | e | e | e | e | e | e | e | e
 ·exact rzero_ev1 v e
 ·exact rzero_ev2 v e
 ·exact rzero_ev3 v e
 ·exact rzero_ev4 v e
 ·exact rzero_ev5 v e
 ·exact rzero_ev6 v e
 ·exact rzero_ev7 v e
 ·exact rzero_ev8 v e
 ·exact rzero_ev9 v e
 ·exact absurd h e
theorem rest_ev (x:fA) (b:Bool):gA 184 [.agg (eA x),.sl b []] (.bool true):=by
 refine wA (c:=UL) rfl rfl ?_;simp [UL,-V,-y3,-y0,J,eA];refine xA 0 (fun i s=>(s.env 1).v=.sl b []/\(s.env 5).v=.int .i64 0) (fun e s=>e=.exit 0) (fun i hi s k h ih hk=>?_) _ _ ?_ (fun e s h=>?_)
 ·obtain ⟨e1,e5⟩:=h;refine tA ?_;simp [WO,-V,-y3,-y0,J,e1,e5];exact hk _ _ rfl
 ·simp
 ·subst h;simp [-V,-y3,-y0,J]
section
variable (sn:Bool) (S:List fA) (t:Int)
include sn S t
theorem fit_evR (x:fA) (v:Vl) (h0:0<=t) (za:¬ (S.length:Int)<=t) (g:(S.map eA)[t.toNat]?=some (eA x)) (hk:v.kind=x.kind) (hp:gA 182 [.agg (zA v)] (.bool true)) (hr:v.rest≠[]):gA 151 [sE sn S,.int .i64 t,.agg (zA v),.bool true] (.bool false):=by
 have mb:¬ t<0:=by omega
 have sh:0<v.rest.length:=by
  have:v.rest.length≠0:=fun h=>hr (yM h)
  omega
 simp only [gA,eA,iA,hk] at hp g;refine wA (c:=bA) rfl rfl ?_;rw [iA];simp [bA,-V,-y3,-y0,J,mb,za,h0,g,hp,hk,hr,sh]
theorem fit_evO (v:Vl) (h:mB S.length t=true):gA 151 [sE sn S,.int .i64 t,.agg (zA v),.bool true] (.bool false):=by
 refine wA (c:=bA) rfl rfl ?_;rw [iA];by_cases h0:t<0
 ·simp [bA,-V,-y3,-y0,J,h0]
 ·have h1:(S.length:Int)<=t:=by simpa [mB,h0] using h
  simp [bA,-V,-y3,-y0,J,h0,h1]
theorem fit_evK (x:fA) (v:Vl) (h0:0<=t) (za:¬ (S.length:Int)<=t) (g:(S.map eA)[t.toNat]?=some (eA x)) (hk:¬ v.kind=x.kind):gA 151 [sE sn S,.int .i64 t,.agg (zA v),.bool true] (.bool false):=by
 have mb:¬ t<0:=by omega
 simp only [eA] at g;refine wA (c:=bA) rfl rfl ?_;rw [iA];simp [bA,-V,-y3,-y0,J,mb,za,h0,g,hk]
theorem fit_evZ (x:fA) (v:Vl) (h0:0<=t) (za:¬ (S.length:Int)<=t) (g:(S.map eA)[t.toNat]?=some (eA x)) (hk:v.kind=x.kind) (hp:gA 182 [.agg (zA v)] (.bool false)):gA 151 [sE sn S,.int .i64 t,.agg (zA v),.bool true] (.bool false):=by
 have mb:¬ t<0:=by omega
 simp only [gA,eA,iA,hk] at hp g;refine wA (c:=bA) rfl rfl ?_;rw [iA];simp [bA,-V,-y3,-y0,J,mb,za,h0,g,hp,hk]
end
theorem fit_ev (sn:Bool) (S:List fA) (hS:HV S):∀ (n:Nat) (t:Int) (v:Vl),SizeOf.sizeOf v<n->v.ok->v.i64->gA 151 [sE sn S,.int .i64 t,.agg (zA v),.bool true] (.bool (jG S n t v)):=by
 intro n
 induction n with
 | zero=>intro t v h; omega
 | succ n ih =>
  intro t v hn ra pd;rw [jG];cases ho:mB S.length t with
  | true=>exact fit_evO sn S t v ho
  | false =>
   obtain ⟨h0,za⟩:0<=t/\¬ (S.length:Int)<=t:=by
    simp [mB] at ho;omega
   have da:t.toNat<S.length:=by omega
   have ma:S[t.toNat]∈S:=y6 _;have g:(S.map eA)[t.toNat]?=some (eA S[t.toNat]):=by rw [yc,y4 da]; rfl
   rw [y4 da];generalize S[t.toNat]=x at *
   obtain ⟨hgx,my⟩:=hS x ma;have nv:=dK hgx;simp only [Bool.not_false,Bool.true_and];by_cases hk:v.kind=x.kind
   case neg=>rw [decide_eq_false hk]; exact fit_evK sn S t x v h0 za g hk
   rw [decide_eq_true hk];simp only [Bool.true_and];have hp:=rzero_ev v (by rw [hk]; exact nv);cases hz:kE v with
   | false=>rw [hz] at hp; exact fit_evZ sn S t x v h0 za g hk hp
   | true =>
    rw [hz] at hp;simp only [Bool.true_and];rw [Vl.ok_def] at ra;rw [Vl.i64_def] at pd;obtain ⟨o1,o2,o3,o4,o5,o6⟩:=ra;obtain ⟨j1,j2,j3⟩:=pd;have pk:∀ u∈v.items,∀ t',gA 151 [sE sn S,.int .i64 t',.agg (zA u),.bool true] (.bool (jG S n t' u)):=fun u hu t'=>ih t' u (by have:=Vl.items_lt v u hu; omega) (o6 u hu) (j3 u hu)
    have dh:∀ u∈v.keys,∀ t',gA 151 [sE sn S,.int .i64 t',.agg (zA u),.bool true] (.bool (jG S n t' u)):=fun u hu t'=>ih t' u (by have:=Vl.keys_lt v u hu; omega) (o5 u hu) (j2 u hu)
    have ld:x.mems.length<=9223372036854775807:=my.1.2.1;have pu:x.syms.length<=9223372036854775807:=my.1.1;by_cases hr:v.rest=[]
    case neg=>rw [rest_fit _ x v hk hz hr]; exact fit_evR sn S t x v h0 za g hk hp hr
    unfold DQ;have hv:=hk;rcases kinds x.kind with e | e | e | e | e | e | e | e | e | e
    all_goals try rw [e] at hv
    ·have r:=fit_ev1 sn S t x v (jG S n) h0 za g e hv hp hr; simpa [e] using r
    ·have r:=fit_ev2 sn S t x v (jG S n) h0 za g e hv hp hr; simpa [e] using r
    ·have r:=fit_ev3 sn S t x v (jG S n) h0 za g e hv hp hr; simpa [e] using r
    ·have r:=fit_ev4 sn S t x v (jG S n) h0 za g e hv hp hr (D1 x v.id pu); simpa [e] using r
    ·have r:=fit_ev5 sn S t x v (jG S n) h0 za g e hv hp hr ld (rest_ev x v.rn) (fun m _ u hu=>pk u hu m.ty); simpa [e,hr] using r
    ·have r:=fit_ev6 sn S t x v (jG S n) h0 za g e hv hp hr (jS x v.id ld) (fun m _ u hu=>pk u hu m.ty); simpa [e] using r
    ·have r:=fit_ev7 sn S t x v (jG S n) h0 za g e hv hp hr (UZ sn S x.elem (jG S n x.elem) v.items o2 v.xn fun u hu=>pk u hu x.elem); simpa [e] using r
    ·have r:=fit_ev8 sn S t x v (jG S n) h0 za g e hv hp hr (JV hgx e) (fun u hu=>((Vl.i64_def u).1 (j2 u hu)).1) (UZ sn S x.elem (jG S n x.elem) v.items o2 v.xn fun u hu=>pk u hu x.elem) (UZ sn S x.key (jG S n x.key) v.keys o1 v.kn fun u hu=>dh u hu x.key); simpa [e] using r
    ·have r:=fit_ev9 sn S t x v (jG S n) h0 za g e hv hp hr (UZ sn S x.elem (jG S n x.elem) v.items o2 v.xn fun u hu=>pk u hu x.elem); simpa [e] using r
    ·exact absurd nv e
noncomputable def KH (S:List fA) (t:Int) (v:Vl):Bool:=jG S (SizeOf.sizeOf v + 1) t v
theorem plain_v (sn:Bool) (S:List fA) (hS:HV S) (t:Int) (v:Vl) (ra:v.ok) (pd:v.i64):gA 215 [sE sn S,.int .i64 t,.agg (zA v)] (.bool (KH S t v)):=by
 have h:=fits_ev sn S hS (SizeOf.sizeOf v + 1) t v (by omega) ra pd;simp only [gA,iA] at h ⊢;refine wA (c:=FK) rfl rfl ?_;unfold KH;simp [FK,-V,-y3,-y0,J,h]
theorem I5 (sn:Bool) (S:List fA) (hS:HV S) (t:Int) (v:Vl) (ra:v.ok) (pd:v.i64):gA 121 [sE sn S,.int .i64 t,.agg (zA v)] (.bool (KH S t v)):=by
 have h:=fit_ev sn S hS (SizeOf.sizeOf v + 1) t v (by omega) ra pd;simp only [gA,iA] at h ⊢;refine wA (c:=RK) rfl rfl ?_;unfold KH;simp [RK,-V,-y3,-y0,J,h]
theorem zU {l:List fA}:∀ n i,i + n=l.length->NC l n i=0->∀ j,i<=j->(h:j<l.length)->XC l j l[j]=0
 | 0,i,hi,_,j,hj,h=>by omega
 | n + 1,i,hi,h0,j,hj,h=>by
  have da:i<l.length:=by omega
  rw [NC,y4 da] at h0;simp only at h0;by_cases he:XC l i l[i]=0
  ·rw [if_pos he] at h0;rcases Nat.lt_or_eq_of_le hj with h1 | h1
   ·exact zU n (i + 1) (by omega) h0 j h1 h
   ·subst h1; exact he
  ·rw [if_neg he] at h0; exact absurd h0 he
theorem aH {l:List fA} {i:Nat} {t:fA} (h:XC l i t=0):bB t=true/\t.usesL.any (mB l.length)=false:=by
 unfold XC at h;by_cases h1:bB t=false
 ·rw [if_pos h1] at h; cases h
 ·rw [if_neg h1] at h;refine ⟨by simpa using h1,?_⟩;by_cases h2:t.named=true/\t.name∈(l.take i).map fA.name
  ·rw [if_pos h2] at h; cases h
  ·rw [if_neg h2] at h;by_cases h3:t.usesL.any (mB l.length)=true
   ·rw [if_pos h3] at h; cases h
   ·simpa using h3
theorem MF {l:List fA} (h:valid l=0) (j:Nat) (hj:j<l.length):XC l j l[j]=0:=by
 unfold valid at h;by_cases dv:32<l.length
 ·rw [if_pos dv] at h; cases h
 ·rw [if_neg dv] at h;exact zU l.length 0 (by omega) h j (by omega) hj
theorem mO {s:SG} (hs:s.fine) (h:valid s.types=0):HV s.types:=fun x hx=>by
 obtain ⟨j,hj,rfl⟩:=yB hx;exact ⟨(aH (MF h j hj)).1,hs.2 _ hx⟩
noncomputable def iM (S:List fA) (m:BB):Bool:=m.has&&!KH S m.ty m.dflt
noncomputable def rI (S:List fA) (t:fA):Option Int:=(t.mems.find? (iM S)).map BB.id
noncomputable def AD (S:List fA):Nat->Nat->Option (Nat × Int)
 | 0,_=>none
 | n + 1,i=>match S[i]? with
  | some t=>(match rI S t with
   | some d=>some (i,d)
   | none=>AD S n (i + 1))
  | none=>none
def S3:Option (Nat × Int)->AV
 | some (i,d)=>.tup [.int .i64 i,.int .i64 d,.int .i64 1]
 | none=>.tup [.int .i64 0,.int .i64 0,.int .i64 0]
noncomputable def FS (S:List fA):AV:=if valid S=0 then S3 (AD S S.length 0) else .tup [.int .i64 0,.int .i64 0,.int .i64 (valid S)]
def fA.d64 (t:fA):Prop:=∀ m∈t.mems,m.dflt.i64
def SG.d64 (s:SG):Prop:=∀ t∈s.types,t.d64
theorem WV {S:List fA} {i:Nat} (h:i<S.length):AD S (S.length - i) i=match rI S S[i] with
  | some d=>some (i,d)
  | none=>AD S (S.length - (i + 1)) (i + 1):=by
 rw [show S.length - i=(S.length - (i + 1)) + 1 from by omega,AD,y4 h]
theorem dlp (sn:Bool) (S:List fA) (hS:HV S) (t:fA) (ht:t.fine) (pd:t.d64) (b:Bool) (i:Nat) (r:RV) (P:aA->Prop) (hP:∀ s s':aA,(∀ t n,t≠9->s'.mem t n=s.mem t n)->(∀ t,t ∉ [2,3,4,9,27,28,29,30,31,32,33,34,35,36,37,38,39,40,41,42,43,44,26]->s'.env t=s.env t)->P s->P s') (k:Ex->aA->Option RV)
  (hk:∀ s',rI S t=none->P s'->k (.exit 2) s'=some r) (hr:∀ (s':aA) d,rI S t=some d->(s'.env 2).v=.int .i64 i->(s'.env 3).v=.int .i64 d->(s'.env 4).v=.int .i64 1->k .ret s'=some r)
  (s:aA) (hs:P s) (h1:(s.env 1).v=.ptr 1 1 0) (m1:s.mem 1 1=some [⟨.sl sn (S.map eA),.no⟩]) (h6:(s.env 6).v=.int .i64 i) (h24:(s.env 24).v=.sl b (t.mems.map nA)) (h25:(s.env 25).v=.int .i64 t.mems.length) (h26:(s.env 26).v=.int .i64 0):OI jA rA LC s k=some r:=by
 refine xA t.mems.length (fun j s=>P s/\(s.env 1).v=.ptr 1 1 0/\s.mem 1 1=some [⟨.sl sn (S.map eA),.no⟩]/\(s.env 6).v=.int .i64 i/\(s.env 24).v=.sl b (t.mems.map nA)/\(s.env 25).v=.int .i64 t.mems.length/\(s.env 26).v=.int .i64 j/\(t.mems.drop j).find? (iM S)=t.mems.find? (iM S))
  (fun e s=>(e=.exit 2/\rI S t=none/\P s)\/(e=.ret/\∃ d,rI S t=some d/\(s.env 2).v=.int .i64 i/\(s.env 3).v=.int .i64 d/\(s.env 4).v=.int .i64 1)) (fun j hj s k h ih hk=>?_) _ _ ?_ (fun e s h=>?_)
 ·obtain ⟨hp,e1,m1,e6,e24,e25,dy,hs⟩:=h;refine tA ?_;by_cases da:j<t.mems.length
  ·have fa:(j:Int)<t.mems.length:=by omega
   have g1:(t.mems.map nA)[j]?=some (nA t.mems[j]):=by simp [da]
   have hw:=ZA (i:=j) (by have:=ht.2.2; omega);have nn:=plain_v sn S hS t.mems[j].ty t.mems[j].dflt (ht.1.2.2 _ (y6 _)).1 (pd _ (y6 _));rw [yb da,List.find?_cons] at hs;generalize t.mems[j]=m at *
   simp only [nA] at g1;simp only [gA,iA] at nn;have bad:iM S m=true->rI S t=some m.id:=fun h=>by unfold rI; rw [<- hs,h]; rfl
   have good:iM S m=false->(t.mems.drop (j + 1)).find? (iM S)=t.mems.find? (iM S):=fun h=>by rw [<- hs,h]
   have nxt:∀ s':aA,(∀ t n,t≠9->s'.mem t n=s.mem t n)->(∀ t,t ∉ [2,3,4,9,27,28,29,30,31,32,33,34,35,36,37,38,39,40,41,42,43,44,26]->s'.env t=s.env t)->(s'.env 26).v=.int .i64 ((j + 1:Nat):Int)->iM S m=false->OI jA rA LC s' k=some r:=fun s' hm he h26 hb=>by
    refine ih da _ ⟨hP s s' hm he hp,?_,?_,?_,?_,?_,h26,good hb⟩
    ·rw [he 1 (by decide)]; exact e1
    ·rw [hm 1 1 (by decide)]; exact m1
    ·rw [he 6 (by decide)]; exact e6
    ·rw [he 24 (by decide)]; exact e24
    ·rw [he 25 (by decide)]; exact e25
   cases hh:m.has with
   | false =>
    simp [LC,-V,-y3,-y0,J,e1,m1,e6,e24,e25,dy,fa,g1,hh,hw];refine nxt _ ?_ ?_ ?_ (by simp [iM,hh])
    ·intro t n ht; simp [rB,ht]
    ·intro t ht;simp only [yf,yJ,or_false,not_or] at ht;simp [zG,ht]
    ·simp
   | true =>
    cases lx:KH S m.ty m.dflt with
    | true =>
     rw [lx] at nn;simp [LC,-V,-y3,-y0,J,e1,m1,e6,e24,e25,dy,fa,g1,hh,nn,hw];refine nxt _ ?_ ?_ ?_ (by simp [iM,hh,lx])
     ·intro t n ht; simp [rB,ht]
     ·intro t ht;simp only [yf,yJ,or_false,not_or] at ht;simp [zG,ht]
     ·simp
    | false =>
     rw [lx] at nn;simp [LC,-V,-y3,-y0,J,e1,m1,e6,e24,e25,dy,fa,g1,hh,nn];exact hk _ _ (.inr ⟨rfl,m.id,bad (by simp [iM,hh,lx]),by simp,by simp,by simp⟩)
  ·have fa:¬ (j:Int)<t.mems.length:=by omega
   simp [LC,-V,-y3,-y0,J,e25,dy,fa];rw [ye (by omega)] at hs;refine hk _ _ (.inl ⟨rfl,by unfold rI; rw [<- hs]; rfl,hP s _ ?_ ?_ hp⟩)
   ·intro t n _; rfl
   ·intro t ht;simp only [yf,yJ,or_false,not_or] at ht;simp [zG,ht]
 ·simp [hs,h1,m1,h6,h24,h25,h26]
 ·rcases h with ⟨rfl,h1,h2⟩ | ⟨rfl,d,h1,h2,h3,h4⟩
  ·exact hk s h1 h2
  ·exact hr s d h1 h2 h3 h4
theorem dflts_ev (s:SG) (hs:s.fine) (pd:s.d64):gA 204 [.agg (WA s)] (FS s.types):=by
 have hv:=WX s hs;simp only [gA,WA] at hv;refine wA (c:=BF) rfl rfl ?_;unfold FS;by_cases h0:valid s.types=0
 case neg =>
  rw [if_neg h0];simp [BF,-V,-y3,-y0,J,WA,hv,h0]
 have hS:=mO hs h0;rw [if_pos h0];rw [h0] at hv;simp [BF,-V,-y3,-y0,J,WA,hv];refine xA s.types.length (fun i σ=>(σ.env 1).v=.ptr 1 1 0/\σ.mem 1 1=some [⟨.sl s.nl (s.types.map eA),.no⟩]/\(σ.env 16).v=.sl s.nl (s.types.map eA)/\(σ.env 17).v=.int .i64 s.types.length/\(σ.env 18).v=.int .i64 i/\AD s.types (s.types.length - i) i=AD s.types s.types.length 0)
  (fun e σ=>(e=.exit 0/\AD s.types s.types.length 0=none)\/(e=.ret/\∃ j d,AD s.types s.types.length 0=some (j,d)/\(σ.env 2).v=.int .i64 j/\(σ.env 3).v=.int .i64 d/\(σ.env 4).v=.int .i64 1)) (fun i hi σ k h ih hk=>?_) _ _ ?_ (fun e σ h=>?_)
 ·obtain ⟨e1,m1,wd,mh,ao,hd⟩:=h;refine tA ?_;by_cases da:i<s.types.length
  ·have fa:(i:Int)<s.types.length:=by omega
   have g1:(s.types.map eA)[i]?=some (eA s.types[i]):=by simp [da]
   have hw:=ZA (i:=i) (by have:=hs.1; omega);have pe:=hs.2 _ (y6 da);have pz:=pd _ (y6 da);rw [WV da] at hd;generalize s.types[i]=t at *
   simp only [eA] at g1;simp [GH,-V,-y3,-y0,J,e1,m1,wd,mh,ao,fa,g1];refine dlp s.nl s.types hS t pe pz t.mn i _ (fun σ2=>(σ2.env 1).v=.ptr 1 1 0/\σ2.mem 1 1=some [⟨.sl s.nl (s.types.map eA),.no⟩]/\(σ2.env 16).v=.sl s.nl (s.types.map eA)/\(σ2.env 17).v=.int .i64 s.types.length/\(σ2.env 18).v=.int .i64 i) (fun a b hm he h=>?_) _ (fun σ2 hn h=>?_) (fun σ2 d hn q2 q3 q4=>?_) _ ⟨?_,?_,?_,?_,?_⟩ ?_ ?_ ?_ ?_ ?_ ?_
   ·rw [hm 1 1 (by decide),he 1 (by decide),he 16 (by decide),he 17 (by decide),he 18 (by decide)];exact h
   ·obtain ⟨f1,fm,ik,f17,f18⟩:=h;simp [-V,-y3,-y0,J,f18,hw];refine ih da _ ⟨?_,?_,?_,?_,?_,by rw [<- hd,hn]⟩ <;> simp [f1,fm,ik,f17]
   ·simp [-V,-y3,-y0,J];exact hk _ _ (.inr ⟨rfl,i,d,by rw [<- hd,hn],q2,q3,q4⟩)
   all_goals simp [e1,m1,wd,mh,ao]
  ·have fa:¬ (i:Int)<s.types.length:=by omega
   simp [GH,-V,-y3,-y0,J,mh,ao,fa];exact hk _ _ (.inl ⟨rfl,by rw [<- hd,show s.types.length - i=0 from by omega,AD]⟩)
 ·simp
 ·rcases h with ⟨rfl,h1⟩ | ⟨rfl,j,d,h1,h2,h3,h4⟩
  ·rw [h1]; simp [-V,-y3,-y0,J,S3]
  ·rw [h1]; simp [-V,-y3,-y0,J,h2,h3,h4,S3]
theorem rdlp (sn:Bool) (S:List fA) (hS:HV S) (t:fA) (ht:t.fine) (pd:t.d64) (b:Bool) (i:Nat) (r:RV) (P:aA->Prop) (hP:∀ s s':aA,s'.mem=s.mem->(∀ t,t ∉ [2,3,4,8,27,28,29,30,31,32,33,34,35,36,37,38,39,40,41,42,43,44,45,46,47,48,49,50,51,52]->s'.env t=s.env t)->P s->P s') (k:Ex->aA->Option RV)
  (hk:∀ s',rI S t=none->P s'->k (.exit 2) s'=some r) (hr:∀ (s':aA) d,rI S t=some d->(s'.env 2).v=.int .i64 i->(s'.env 3).v=.int .i64 d->(s'.env 4).v=.int .i64 1->k .ret s'=some r)
  (s:aA) (hs:P s) (h1:(s.env 1).v=.ptr 1 1 0) (m1:s.mem 1 1=some [⟨.sl sn (S.map eA),.no⟩]) (h6:(s.env 6).v=.int .i64 i) (h7:(s.env 7).v=.sl b (t.mems.map nA)) (h8:(s.env 8).v=.int .i64 0):OI jA rA KC s k=some r:=by
 refine xA t.mems.length (fun j s=>P s/\(s.env 1).v=.ptr 1 1 0/\s.mem 1 1=some [⟨.sl sn (S.map eA),.no⟩]/\(s.env 6).v=.int .i64 i/\(s.env 7).v=.sl b (t.mems.map nA)/\(s.env 8).v=.int .i64 j/\(t.mems.drop j).find? (iM S)=t.mems.find? (iM S))
  (fun e s=>(e=.exit 2/\rI S t=none/\P s)\/(e=.ret/\∃ d,rI S t=some d/\(s.env 2).v=.int .i64 i/\(s.env 3).v=.int .i64 d/\(s.env 4).v=.int .i64 1)) (fun j hj s k h ih hk=>?_) _ _ ?_ (fun e s h=>?_)
 ·obtain ⟨hp,e1,m1,e6,e7,e8,hs⟩:=h;refine tA ?_;by_cases da:j<t.mems.length
  ·have fa:(j:Int)<t.mems.length:=by omega
   have g1:(t.mems.map nA)[j]?=some (nA t.mems[j]):=by simp [da]
   have hw:=ZA (i:=j) (by have:=ht.2.2; omega);have nn:=I5 sn S hS t.mems[j].ty t.mems[j].dflt (ht.1.2.2 _ (y6 _)).1 (pd _ (y6 _));rw [yb da,List.find?_cons] at hs;generalize t.mems[j]=m at *
   simp only [nA] at g1;simp only [gA,iA] at nn;have bad:iM S m=true->rI S t=some m.id:=fun h=>by unfold rI; rw [<- hs,h]; rfl
   have good:iM S m=false->(t.mems.drop (j + 1)).find? (iM S)=t.mems.find? (iM S):=fun h=>by rw [<- hs,h]
   have nxt:∀ s':aA,s'.mem=s.mem->(∀ t,t ∉ [2,3,4,8,27,28,29,30,31,32,33,34,35,36,37,38,39,40,41,42,43,44,45,46,47,48,49,50,51,52]->s'.env t=s.env t)->(s'.env 8).v=.int .i64 ((j + 1:Nat):Int)->iM S m=false->OI jA rA KC s' k=some r:=fun s' hm he h26 hb=>by
    refine ih da _ ⟨hP s s' hm he hp,?_,?_,?_,?_,h26,good hb⟩
    ·rw [he 1 (by decide)]; exact e1
    ·rw [hm]; exact m1
    ·rw [he 6 (by decide)]; exact e6
    ·rw [he 7 (by decide)]; exact e7
   cases hh:m.has with
   | false =>
    simp [KC,-V,-y3,-y0,J,e1,m1,e6,e7,e8,fa,g1,hh,hw];refine nxt _ rfl ?_ ?_ (by simp [iM,hh])
    ·intro t ht;simp only [yf,yJ,or_false,not_or] at ht;simp [zG,ht]
    ·simp
   | true =>
    cases lx:KH S m.ty m.dflt with
    | true =>
     rw [lx] at nn;simp [KC,-V,-y3,-y0,J,e1,m1,e6,e7,e8,fa,g1,hh,nn,hw];refine nxt _ rfl ?_ ?_ (by simp [iM,hh,lx])
     ·intro t ht;simp only [yf,yJ,or_false,not_or] at ht;simp [zG,ht]
     ·simp
    | false =>
     rw [lx] at nn;simp [KC,-V,-y3,-y0,J,e1,m1,e6,e7,e8,fa,g1,hh,nn];exact hk _ _ (.inr ⟨rfl,m.id,bad (by simp [iM,hh,lx]),by simp,by simp,by simp⟩)
  ·have fa:¬ (j:Int)<t.mems.length:=by omega
   simp [KC,-V,-y3,-y0,J,e7,e8,fa];rw [ye (by omega)] at hs;refine hk _ _ (.inl ⟨rfl,by unfold rI; rw [<- hs]; rfl,hP s _ rfl ?_ hp⟩);intro t ht;simp only [yf,yJ,or_false,not_or] at ht;simp [zG,ht]
 ·simp [hs,h1,m1,h6,h7,h8]
 ·rcases h with ⟨rfl,h1,h2⟩ | ⟨rfl,d,h1,h2,h3,h4⟩
  ·exact hk s h1 h2
  ·exact hr s d h1 h2 h3 h4
theorem rdflts_ev (s:SG) (hs:s.fine) (pd:s.d64):gA 206 [.agg (WA s)] (FS s.types):=by
 have hv:=PT s hs;simp only [gA,WA] at hv;refine wA (c:=FF) rfl rfl ?_;unfold FS;by_cases h0:valid s.types=0
 case neg =>
  rw [if_neg h0];simp [FF,-V,-y3,-y0,J,WA,hv,h0]
 have hS:=mO hs h0;rw [if_pos h0];rw [h0] at hv;simp [FF,-V,-y3,-y0,J,WA,hv];refine xA s.types.length (fun i σ=>(σ.env 1).v=.ptr 1 1 0/\σ.mem 1 1=some [⟨.sl s.nl (s.types.map eA),.no⟩]/\(σ.env 6).v=.int .i64 i/\AD s.types (s.types.length - i) i=AD s.types s.types.length 0)
  (fun e σ=>(e=.exit 0/\AD s.types s.types.length 0=none)\/(e=.ret/\∃ j d,AD s.types s.types.length 0=some (j,d)/\(σ.env 2).v=.int .i64 j/\(σ.env 3).v=.int .i64 d/\(σ.env 4).v=.int .i64 1)) (fun i hi σ k h ih hk=>?_) _ _ ?_ (fun e σ h=>?_)
 ·obtain ⟨e1,m1,e6,hd⟩:=h;refine tA ?_;by_cases da:i<s.types.length
  ·have fa:(i:Int)<s.types.length:=by omega
   have g1:(s.types.map eA)[i]?=some (eA s.types[i]):=by simp [da]
   have hw:=ZA (i:=i) (by have:=hs.1; omega);have pe:=hs.2 _ (y6 da);have pz:=pd _ (y6 da);rw [WV da] at hd;generalize s.types[i]=t at *
   simp only [eA] at g1;simp [FH,-V,-y3,-y0,J,e1,m1,e6,fa,g1];refine rdlp s.nl s.types hS t pe pz t.mn i _ (fun σ2=>(σ2.env 1).v=.ptr 1 1 0/\σ2.mem 1 1=some [⟨.sl s.nl (s.types.map eA),.no⟩]/\(σ2.env 6).v=.int .i64 i) (fun a b hm he h=>?_) _ (fun σ2 hn h=>?_) (fun σ2 d hn q2 q3 q4=>?_) _ ⟨?_,?_,?_⟩ ?_ ?_ ?_ ?_ ?_
   ·rw [hm,he 1 (by decide),he 6 (by decide)];exact h
   ·obtain ⟨f1,fm,f6⟩:=h;simp [-V,-y3,-y0,J,f6,hw];refine ih da _ ⟨?_,?_,?_,by rw [<- hd,hn]⟩ <;> simp [f1,fm]
   ·simp [-V,-y3,-y0,J];exact hk _ _ (.inr ⟨rfl,i,d,by rw [<- hd,hn],q2,q3,q4⟩)
   all_goals simp [e1,m1,e6]
  ·have fa:¬ (i:Int)<s.types.length:=by omega
   simp [FH,-V,-y3,-y0,J,e1,m1,e6,fa];exact hk _ _ (.inl ⟨rfl,by rw [<- hd,show s.types.length - i=0 from by omega,AD]⟩)
 ·simp
 ·rcases h with ⟨rfl,h1⟩ | ⟨rfl,j,d,h1,h2,h3,h4⟩
  ·rw [h1]; simp [-V,-y3,-y0,J,S3]
  ·rw [h1]; simp [-V,-y3,-y0,J,h2,h3,h4,S3]
noncomputable def xE (S:List fA):Int:=if valid S=0 then (match AD S S.length 0 with
 | some _=>1
 | none=>0) else valid S
theorem mY {S:List fA} (h:valid S=0):∃ i d,FS S=.tup [.int .i64 i,.int .i64 d,.int .i64 (xE S)]:=by
 unfold FS xE;rw [if_pos h,if_pos h];cases AD S S.length 0 with
 | none=>exact ⟨_,_,rfl⟩
 | some p=>exact ⟨_,_,rfl⟩
theorem right_ev (s:SG) (hs:s.fine) (pd:s.d64):gA 173 [.agg (WA s)] (.int .i64 (xE s.types)):=by
 have hv:=WX s hs;have hd:=dflts_ev s hs pd;refine wA (c:=bG) rfl rfl ?_;simp only [gA,WA] at hv hd;by_cases h0:valid s.types=0
 ·obtain ⟨i,d,hA⟩:=mY h0;rw [hA] at hd;rw [h0] at hv;simp [bG,-V,-y3,-y0,J,WA,hv,hd]
 ·unfold xE;rw [if_neg h0];simp [bG,-V,-y3,-y0,J,WA,hv,h0]
theorem rerror_ev (s:SG) (hs:s.fine) (pd:s.d64):gA 175 [.agg (WA s)] (.int .i64 (xE s.types)):=by
 have hv:=PT s hs;have hd:=rdflts_ev s hs pd;refine wA (c:=BH) rfl rfl ?_;simp only [gA,WA] at hv hd;by_cases h0:valid s.types=0
 ·obtain ⟨i,d,hA⟩:=mY h0;rw [hA] at hd;rw [h0] at hv;simp [BH,-V,-y3,-y0,J,WA,hv,hd]
 ·unfold xE;rw [if_neg h0];simp [BH,-V,-y3,-y0,J,WA,hv,h0]
end Go.Proofs.YtbnlmgncbgaepaaGreat
