/- A part of the proof. -/
import Derived.Test.YtjoaiabjebpbjaaGreatSi
set_option linter.all false
set_option maxRecDepth 100000
set_option maxHeartbeats 8000000
open Option renaming bind_some → V
open List renaming range_succ → J, map_map → y0, getElem?_eq_getElem → y4, getElem_mem → y5, getElem?_map → y8, drop_eq_getElem_cons → y9, mem_cons → yc, drop_eq_nil_of_le → ye, map_cons → yl, map_nil → yo, getElem_of_mem → yy, eq_nil_of_length_eq_zero → yF, not_mem_nil → yH, mem_of_getElem? → yQ
open Int renaming toNat_lt → y3
namespace Go.Proofs.YtjoaiabjebpbjaaGreat
open Go
section
variable (sn:Bool) (S:List gA) (t:Int) (x:gA) (v:Vl) (f:Int->Vl->Bool) (h0:0<=t) (ra:¬ (S.length:Int)<=t) (g:(S.map eA)[t.toNat]?=some (eA x))
include sn S t x v f h0 ra g
theorem fit_ev1 (hk:x.kind=1) (hv:v.kind=1) (hp:sA 159 [.agg (pA v)] (.bool true)) (hr:v.rest=[]):sA 121 [WB sn S,.int .i64 t,.agg (pA v),.bool true] (.bool (true)):=by
 have kb:¬ t<0:=by omega
 simp only [sA,eA,qA,hk,hv] at hp g;refine wA (c:=WA) rfl rfl ?_;rw [qA];simp only [hr,yo] at hp ⊢;simp [WA,-V,-y3,-y0,J,kb,ra,h0,g,hp,hk,hv,hr]
theorem fit_ev2 (hk:x.kind=2) (hv:v.kind=2) (hp:sA 159 [.agg (pA v)] (.bool true)) (hr:v.rest=[]):sA 121 [WB sn S,.int .i64 t,.agg (pA v),.bool true] (.bool (decide (x.low<=v.i)&&decide (v.i<=x.high))):=by
 have kb:¬ t<0:=by omega
 simp only [sA,eA,qA,hk,hv] at hp g;refine wA (c:=WA) rfl rfl ?_;rw [qA];simp only [hr,yo] at hp ⊢;by_cases c1:x.low<=v.i
 ·simp [WA,-V,-y3,-y0,J,kb,ra,h0,g,hp,hk,hv,hr,c1]
 ·simp [WA,-V,-y3,-y0,J,kb,ra,h0,g,hp,hk,hv,hr,c1]
theorem fit_ev3 (hk:x.kind=3) (hv:v.kind=3) (hp:sA 159 [.agg (pA v)] (.bool true)) (hr:v.rest=[]):sA 121 [WB sn S,.int .i64 t,.agg (pA v),.bool true] (.bool (decide ((v.s.size:Int)<=x.max))):=by
 have kb:¬ t<0:=by omega
 simp only [sA,eA,qA,hk,hv] at hp g;refine wA (c:=WA) rfl rfl ?_;rw [qA];simp only [hr,yo] at hp ⊢;simp [WA,-V,-y3,-y0,J,kb,ra,h0,g,hp,hk,hv,hr]
theorem fit_ev4 (hk:x.kind=4) (hv:v.kind=4) (hp:sA 159 [.agg (pA v)] (.bool true)) (hr:v.rest=[]) (hs:sA 88 [.agg (eA x),.int .i64 v.id] (A1 x.syms v.id)):sA 121 [WB sn S,.int .i64 t,.agg (pA v),.bool true] (.bool (decide (0<=AN x.syms v.id))):=by
 have kb:¬ t<0:=by omega
 simp only [sA,eA,qA,hk,hv] at hp g;refine wA (c:=WA) rfl rfl ?_;rw [qA];simp only [hr,yo] at hp ⊢;simp only [sA,eA,A1,hk] at hs;generalize AN x.syms v.id=ix at *
 by_cases c1:0<=ix
 ·simp only [c1,decide_true] at hs;simp [WA,-V,-y3,-y0,J,kb,ra,h0,g,hp,hk,hv,hr,hs,c1]
 ·simp only [c1,decide_false] at hs;cases ho:x.opn <;> simp only [ho] at hs g
  ·simp [WA,-V,-y3,-y0,J,kb,ra,h0,g,hp,hk,hv,hr,hs,c1,ho]
  ·simp [WA,-V,-y3,-y0,J,kb,ra,h0,g,hp,hk,hv,hr,hs,c1,ho]
theorem fit_ev7 (hk:x.kind=7) (hv:v.kind=7) (hp:sA 159 [.agg (pA v)] (.bool true)) (hr:v.rest=[]) (he:sA 162 [WB sn S,.int .i64 x.elem,.sl v.xn (v.items.map pA),.bool true] (.bool (v.items.all (f x.elem)))):sA 121 [WB sn S,.int .i64 t,.agg (pA v),.bool true] (.bool (decide ((v.items.length:Int)<=x.max)&&v.items.all (f x.elem))):=by
 have kb:¬ t<0:=by omega
 simp only [sA,eA,qA,hk,hv] at hp g;refine wA (c:=WA) rfl rfl ?_;rw [qA];simp only [hr,yo] at hp ⊢;simp only [sA] at he;generalize v.items.all (f x.elem)=E at *
 by_cases c1:(v.items.length:Int)<=x.max
 ·simp [WA,-V,-y3,-y0,J,kb,ra,h0,g,hp,hk,hv,hr,c1,he]
 ·simp [WA,-V,-y3,-y0,J,kb,ra,h0,g,hp,hk,hv,hr,c1]
theorem fit_ev9 (hk:x.kind=9) (hv:v.kind=9) (hp:sA 159 [.agg (pA v)] (.bool true)) (hr:v.rest=[]) (he:sA 162 [WB sn S,.int .i64 x.elem,.sl v.xn (v.items.map pA),.bool true] (.bool (v.items.all (f x.elem)))):sA 121 [WB sn S,.int .i64 t,.agg (pA v),.bool true] (.bool (decide (v.items.length<=1)&&v.items.all (f x.elem))):=by
 have kb:¬ t<0:=by omega
 simp only [sA,eA,qA,hk,hv] at hp g;refine wA (c:=WA) rfl rfl ?_;rw [qA];simp only [hr,yo] at hp ⊢;simp only [sA] at he;generalize v.items.all (f x.elem)=E at *
 by_cases c1:v.items.length<=1
 ·have c2:(v.items.length:Int)<=1:=by omega
  simp [WA,-V,-y3,-y0,J,kb,ra,h0,g,hp,hk,hv,hr,c1,c2,he]
 ·have c2:¬ (v.items.length:Int)<=1:=by omega
  simp [WA,-V,-y3,-y0,J,kb,ra,h0,g,hp,hk,hv,hr,c1,c2]
end
section
variable (sn:Bool) (S:List gA) (t:Int) (x:gA) (v:Vl) (f:Int->Vl->Bool) (h0:0<=t) (ra:¬ (S.length:Int)<=t) (g:(S.map eA)[t.toNat]?=some (eA x))
include sn S t x v f h0 ra g
theorem fit_ev5 (hk:x.kind=5) (hv:v.kind=5) (hp:sA 159 [.agg (pA v)] (.bool true)) (hr:v.rest=[]) (ik:x.mems.length<=9223372036854775807) (bi:sA 161 [.agg (eA x),.sl v.rn []] (.bool true)) (hf:∀ m∈x.mems,∀ u∈v.items,sA 121 [WB sn S,.int .i64 m.ty,.agg (pA u),.bool true] (.bool (f m.ty u))):sA 121 [WB sn S,.int .i64 t,.agg (pA v),.bool true] (.bool (decide (v.items.length=x.mems.length)&&QE f x.mems v.items)):=by
 have kb:¬ t<0:=by omega
 simp only [sA,eA,qA,hk,hv] at hp g;refine wA (c:=WA) rfl rfl ?_;rw [qA];simp only [hr,yo] at hp ⊢;simp only [sA,eA,hk] at bi;by_cases c1:v.items.length=x.mems.length
 ·skip
  simp [WA,-V,-y3,-y0,J,kb,ra,h0,g,hp,hk,hv,c1,hr,bi];refine bA v.items.length (fun i s=>(s.env 3).v=.bool true/\(s.env 4).v=.ptr 4 1 0/\s.mem 4 1=some [⟨.sl sn (S.map eA),.no⟩]/\(s.env 6).v=.ptr 6 1 0/\s.mem 6 1=some ([⟨.int .i64 v.kind,.no⟩,⟨.bool v.b,.no⟩,⟨.int .i64 v.i,.no⟩,⟨.str v.s,.no⟩,⟨.int .i64 v.id,.no⟩,⟨.sl v.kn (v.keys.map pA),.no⟩,⟨.sl v.xn (v.items.map pA),.no⟩,⟨.sl v.rn (v.rest.map sK),.no⟩])/\(s.env 9).v=.ptr 9 3 0/\s.mem 9 3=some (MA x)/\(s.env 12).v=.int .i64 i/\QE f (x.mems.drop i) (v.items.drop i)=QE f x.mems v.items)
   (fun e s=>(e=.exit 1/\QE f x.mems v.items=true)\/(e=.ret/\QE f x.mems v.items=false/\(s.env 8).v=.bool false)) (fun i hi s k h ih tc=>?_) _ _ ?_ (fun e s h=>?_)
  ·obtain ⟨e3,e4,m4,e6,m6,e9,m9,pg,hs⟩:=h;refine uA ?_;by_cases fe:i<v.items.length
   ·have ga:(i:Int)<v.items.length:=by omega
    have fa:i<x.mems.length:=by omega
    have g1:(x.mems.map nA)[i]?=some (nA x.mems[i]):=by simp [fa]
    have g2:(v.items.map pA)[i]?=some (pA v.items[i]):=by simp [fe]
    have hw:=LA (i:=i);have hx:=hf x.mems[i] (y5 _) v.items[i] (y5 _);rw [y9 fa,y9 fe,QE] at hs;generalize x.mems[i]=m at *
    generalize v.items[i]=u at *
    simp only [sA,nA,qA] at g1 g2 hx;cases ii:f m.ty u with
    | true =>
     rw [ii] at hx hs;simp [DJ,-V,-y3,-y0,J,e3,e4,m4,e6,m6,e9,m9,pg,ga,g1,g2,hx,hw];refine ih fe _ ⟨?_,?_,?_,?_,?_,?_,?_,?_,by simpa using hs⟩ <;> simp [e3,e4,m4,e6,m6,e9,m9]
    | false =>
     rw [ii] at hx hs;simp [DJ,-V,-y3,-y0,J,e3,e4,m4,e6,m6,e9,m9,pg,ga,g1,g2,hx];exact tc _ _ (.inr ⟨rfl,by rw [<- hs]; rfl,by simp⟩)
   ·have ga:¬ (i:Int)<v.items.length:=by omega
    simp [DJ,-V,-y3,-y0,J,e6,m6,pg,ga];have hd:x.mems.drop i=[]:=ye (by omega);rw [hd,QE] at hs
    ·exact tc _ _ (.inl ⟨rfl,hs.symm⟩)
    ·intro m r v' q h; cases h
  ·simp [hk,hv,hr]
  ·rcases h with ⟨rfl,h1⟩ | ⟨rfl,h1,h2⟩
   ·simp [-V,-y3,-y0,J,h1]
   ·simp [-V,-y3,-y0,J,h1,h2]
 ·have gf:¬ (v.items.length:Int)=x.mems.length:=by omega
  simp [WA,-V,-y3,-y0,J,kb,ra,h0,g,hp,hk,hv,hr,c1,gf]
theorem fit_ev6 (hk:x.kind=6) (hv:v.kind=6) (hp:sA 159 [.agg (pA v)] (.bool true)) (hr:v.rest=[]) (hm:sA 122 [.agg (eA x),.int .i64 v.id] (uT x.mems v.id)) (hf:∀ m∈x.mems,∀ u∈v.items,sA 121 [WB sn S,.int .i64 m.ty,.agg (pA u),.bool true] (.bool (f m.ty u))):sA 121 [WB sn S,.int .i64 t,.agg (pA v),.bool true] (.bool (pF f x.mems[(aC x.mems v.id).toNat]? (decide (0<=aC x.mems v.id)) v.rest.isEmpty v.items)):=by
 have kb:¬ t<0:=by omega
 simp only [sA,eA,qA,hk,hv] at hp g;refine wA (c:=WA) rfl rfl ?_;rw [qA];simp only [hr,yo] at hp ⊢;simp only [sA,eA,uT,hk] at hm;have nq:=PQ (fun m:bB=>decide (m.id=v.id)) x.mems;have dh:=sF (fun m:bB=>decide (m.id=v.id)) x.mems;change aC x.mems v.id≠-1->_ at nq;change -1<=aC x.mems v.id at dh;change ∀ h:aC x.mems v.id≠-1,∃ y,x.mems[(aC x.mems v.id).toNat]?=some y/\_ at nq;generalize aC x.mems v.id=ix at *
 by_cases c1:0<=ix
 ·simp only [c1,decide_true] at hm;obtain ⟨m,ti,_⟩:=nq (by omega);have jk:max ix 0=ix:=Int.max_eq_left c1;rw [jk] at hm;have g2:(x.mems.map nA)[ix.toNat]?=some (nA m):=by rw [y8,ti]; rfl
  simp only [nA] at g2;rw [ti];by_cases c2:v.items.length=1
  ·obtain ⟨u,hu⟩:=List.length_eq_one_iff.1 c2;have hf:=hf m (yQ ti) u (by rw [hu]; simp);simp only [sA,qA] at hf;rw [hu] at hp ⊢;simp only [qA,yl,yo] at hp;simp [WA,-V,-y3,-y0,J,kb,ra,h0,g,hp,hk,hv,hr,hm,g2,c1,hf,qA,pF]
  ·have ol:¬ (v.items.length:Int)=1:=by omega
   rw [CT _ _ _ _ _ c2];simp [WA,-V,-y3,-y0,J,kb,ra,h0,g,hp,hk,hv,hr,hm,g2,c1,ol]
 ·simp only [c1,decide_false] at hm;rw [decide_eq_false c1,fW];cases ho:x.opn <;> simp only [ho] at hm g
  ·simp [WA,-V,-y3,-y0,J,kb,ra,h0,g,hp,hk,hv,hr,hm,ho]
  ·simp [WA,-V,-y3,-y0,J,kb,ra,h0,g,hp,hk,hv,hr,hm,ho]
theorem fit_ev8 (hk:x.kind=8) (hv:v.kind=8) (hp:sA 159 [.agg (pA v)] (.bool true)) (hr:v.rest=[]) (jk:x.max<=50) (am:∀ k∈v.keys,LE k.i) (he:sA 162 [WB sn S,.int .i64 x.elem,.sl v.xn (v.items.map pA),.bool true] (.bool (v.items.all (f x.elem)))) (nc:sA 162 [WB sn S,.int .i64 x.key,.sl v.kn (v.keys.map pA),.bool true] (.bool (v.keys.all (f x.key)))):sA 121 [WB sn S,.int .i64 t,.agg (pA v),.bool true] (.bool (decide ((v.keys.length:Int)<=x.max)&&decide (v.items.length=v.keys.length)&&v.keys.all (f x.key)&&kL v.keys&&v.items.all (f x.elem))):=by
 have kb:¬ t<0:=by omega
 simp only [sA,eA,qA,hk,hv] at hp g;refine wA (c:=WA) rfl rfl ?_;rw [qA];simp only [hr,yo] at hp ⊢;simp only [sA] at he nc;generalize v.items.all (f x.elem)=E at *
 generalize v.keys.all (f x.key)=KE at *
 by_cases c1:x.max<v.keys.length
 ·have gf:¬ (v.keys.length:Int)<=x.max:=by omega
  simp [WA,-V,-y3,-y0,J,kb,ra,h0,g,hp,hk,hv,hr,c1,gf]
 have gf:(v.keys.length:Int)<=x.max:=by omega
 have jo:v.keys.length<=50:=by omega
 by_cases c2:v.items.length=v.keys.length
 case neg =>
  have ol:¬ (v.items.length:Int)=v.keys.length:=by omega
  simp [WA,-V,-y3,-y0,J,kb,ra,h0,g,hp,hk,hv,hr,c1,gf,c2,ol]
 cases KE with
 | false=>simp [WA,-V,-y3,-y0,J,kb,ra,h0,g,hp,hk,hv,hr,c1,gf,c2,nc]
 | true =>
  cases E with
  | false=>simp [WA,-V,-y3,-y0,J,kb,ra,h0,g,hp,hk,hv,hr,c1,gf,c2,nc,he]
  | true =>
  simp [WA,-V,-y3,-y0,J,kb,ra,h0,g,hp,hk,hv,hr,c1,gf,c2,nc,he];refine bA (v.keys.length - 1) (fun i s=>(s.env 6).v=.ptr 6 1 0/\s.mem 6 1=some (bD v)/\(s.env 15).v=.int .i64 ((i + 1:Nat):Int)/\kL (v.keys.drop i)=kL v.keys)
   (fun e s=>(e=.exit 3/\kL v.keys=true)\/(e=.ret/\kL v.keys=false/\(s.env 8).v=.bool false)) (fun i hi s k h ih tc=>?_) _ _ ?_ (fun e s h=>?_)
  ·obtain ⟨e6,m6,e20,hs⟩:=h;refine uA ?_;by_cases fa:i<v.keys.length - 1
   ·have ot:i<v.keys.length:=by omega
    have oq:i + 1<v.keys.length:=by omega
    have hx:=rvcmp_ev v.keys[i] v.keys[i + 1] (am _ (y5 _)) (am _ (y5 _));have g1:(v.keys.map pA)[i]?=some (pA v.keys[i]):=by simp [ot]
    have g2:(v.keys.map pA)[i + 1]?=some (pA v.keys[i + 1]):=by simp [oq]
    rw [y9 ot,y9 oq,kL] at hs;have mg:(decide (fS v.keys[i] v.keys[i + 1]<0)&&kL (v.keys.drop (i + 1)))=kL v.keys:=by rw [<- hs,y9 oq]
    clear hs;generalize v.keys[i]=a at *
    generalize v.keys[i + 1]=b at *
    obtain ⟨z,hz⟩:∃ z:Int,z=((i + 1:Nat):Int):=⟨_,rfl⟩;obtain ⟨y,hy⟩:∃ y:Int,y=(i:Int):=⟨_,rfl⟩;rw [<- hz] at e20;have bc:0<=z:=by omega
    have tg:0<=y:=by omega
    have ki:z<v.keys.length:=by omega
    have aq:IntKind.i64.wrap (z - 1)=y:=by rw [IntWalk.i64_in _ (by omega)]; omega
    have zi:IntKind.i64.wrap (z + 1)=((i + 1 + 1:Nat):Int):=by rw [IntWalk.i64_in _ (by omega)]; omega
    rw [show i=y.toNat from by omega] at g1;rw [show i + 1=z.toNat from by omega] at g2;simp only [sA,qA] at g1 g2 hx;by_cases hc:fS a b<0
    ·have lf:¬ 0<=fS a b:=by omega
     simp [SJ,-V,-y3,-y0,J,e6,m6,e20,ki,bc,tg,aq,g1,g2,hx,lf,zi];refine ih fa _ ⟨?_,?_,?_,by rw [<- mg,decide_eq_true hc]; rfl⟩ <;> simp [e6,m6]
    ·have lf:0<=fS a b:=by omega
     simp [SJ,-V,-y3,-y0,J,e6,m6,e20,ki,bc,tg,aq,g1,g2,hx,lf];exact tc _ _ (.inr ⟨rfl,by rw [<- mg,decide_eq_false hc]; rfl,by simp⟩)
   ·obtain ⟨z,hz⟩:∃ z:Int,z=((i + 1:Nat):Int):=⟨_,rfl⟩;rw [<- hz] at e20;have ki:¬ z<v.keys.length:=by omega
    have eu:kL (v.keys.drop i)=true:=by
     match hd:v.keys.drop i with
     | []=>rfl
     | [_]=>rfl
     | a :: b :: r=>have:=congrArg List.length hd; simp at this; omega
    rw [eu] at hs;simp [SJ,-V,-y3,-y0,J,e6,m6,e20,ki];exact tc _ _ (.inl ⟨rfl,hs.symm⟩)
  ·simp [hv,hr]
  ·rcases h with ⟨rfl,h1⟩ | ⟨rfl,h1,h2⟩
   ·simp [-V,-y3,-y0,J,h1]
   ·simp [-V,-y3,-y0,J,h1,h2]
end
section
variable (sn:Bool) (S:List gA) (t:Int) (x:gA) (v:Vl) (f:Int->Vl->Bool) (h0:0<=t) (ra:¬ (S.length:Int)<=t) (g:(S.map eA)[t.toNat]?=some (eA x))
include sn S t x v f h0 ra g
theorem fits_ev1 (hk:x.kind=1) (hv:v.kind=1) (hp:sA 213 [.agg (pA v)] (.bool true)):sA 188 [WB sn S,.int .i64 t,.agg (pA v),.bool true] (.bool (true)):=by
 have kb:¬ t<0:=by omega
 simp only [sA,eA,qA,hk,hv] at hp g;refine wA (c:=dA) rfl rfl ?_;rw [qA];simp [dA,-V,-y3,-y0,J,kb,ra,h0,g,hp,hk,hv]
theorem fits_ev2 (hk:x.kind=2) (hv:v.kind=2) (hp:sA 213 [.agg (pA v)] (.bool true)):sA 188 [WB sn S,.int .i64 t,.agg (pA v),.bool true] (.bool (decide (x.low<=v.i)&&decide (v.i<=x.high))):=by
 have kb:¬ t<0:=by omega
 simp only [sA,eA,qA,hk,hv] at hp g;refine wA (c:=dA) rfl rfl ?_;rw [qA];by_cases c1:x.low<=v.i
 ·simp [dA,-V,-y3,-y0,J,kb,ra,h0,g,hp,hk,hv,c1]
 ·simp [dA,-V,-y3,-y0,J,kb,ra,h0,g,hp,hk,hv,c1]
theorem fits_ev3 (hk:x.kind=3) (hv:v.kind=3) (hp:sA 213 [.agg (pA v)] (.bool true)):sA 188 [WB sn S,.int .i64 t,.agg (pA v),.bool true] (.bool (decide ((v.s.size:Int)<=x.max))):=by
 have kb:¬ t<0:=by omega
 simp only [sA,eA,qA,hk,hv] at hp g;refine wA (c:=dA) rfl rfl ?_;rw [qA];simp [dA,-V,-y3,-y0,J,kb,ra,h0,g,hp,hk,hv]
theorem fits_ev4 (hk:x.kind=4) (hv:v.kind=4) (hp:sA 213 [.agg (pA v)] (.bool true)) (hs:sA 125 [.agg (eA x),.int .i64 v.id] (A1 x.syms v.id)):sA 188 [WB sn S,.int .i64 t,.agg (pA v),.bool true] (.bool (decide (0<=AN x.syms v.id))):=by
 have kb:¬ t<0:=by omega
 simp only [sA,eA,qA,hk,hv] at hp g;refine wA (c:=dA) rfl rfl ?_;rw [qA];simp only [sA,eA,A1,hk] at hs;generalize AN x.syms v.id=ix at *
 by_cases c1:0<=ix
 ·simp only [c1,decide_true] at hs;simp [dA,-V,-y3,-y0,J,kb,ra,h0,g,hp,hk,hv,hs,c1]
 ·simp only [c1,decide_false] at hs;cases ho:x.opn <;> simp only [ho] at hs g
  ·simp [dA,-V,-y3,-y0,J,kb,ra,h0,g,hp,hk,hv,hs,c1,ho]
  ·simp [dA,-V,-y3,-y0,J,kb,ra,h0,g,hp,hk,hv,hs,c1,ho]
theorem fits_ev7 (hk:x.kind=7) (hv:v.kind=7) (hp:sA 213 [.agg (pA v)] (.bool true)) (he:sA 215 [WB sn S,.int .i64 x.elem,.sl v.xn (v.items.map pA),.bool true] (.bool (v.items.all (f x.elem)))):sA 188 [WB sn S,.int .i64 t,.agg (pA v),.bool true] (.bool (decide ((v.items.length:Int)<=x.max)&&v.items.all (f x.elem))):=by
 have kb:¬ t<0:=by omega
 simp only [sA,eA,qA,hk,hv] at hp g;refine wA (c:=dA) rfl rfl ?_;rw [qA];simp only [sA] at he;generalize v.items.all (f x.elem)=E at *
 by_cases c1:(v.items.length:Int)<=x.max
 ·simp [dA,-V,-y3,-y0,J,kb,ra,h0,g,hp,hk,hv,c1,he]
 ·simp [dA,-V,-y3,-y0,J,kb,ra,h0,g,hp,hk,hv,c1]
theorem fits_ev9 (hk:x.kind=9) (hv:v.kind=9) (hp:sA 213 [.agg (pA v)] (.bool true)) (he:sA 215 [WB sn S,.int .i64 x.elem,.sl v.xn (v.items.map pA),.bool true] (.bool (v.items.all (f x.elem)))):sA 188 [WB sn S,.int .i64 t,.agg (pA v),.bool true] (.bool (decide (v.items.length<=1)&&v.items.all (f x.elem))):=by
 have kb:¬ t<0:=by omega
 simp only [sA,eA,qA,hk,hv] at hp g;refine wA (c:=dA) rfl rfl ?_;rw [qA];simp only [sA] at he;generalize v.items.all (f x.elem)=E at *
 by_cases c1:v.items.length<=1
 ·have c2:(v.items.length:Int)<=1:=by omega
  simp [dA,-V,-y3,-y0,J,kb,ra,h0,g,hp,hk,hv,c1,c2,he]
 ·have c2:¬ (v.items.length:Int)<=1:=by omega
  simp [dA,-V,-y3,-y0,J,kb,ra,h0,g,hp,hk,hv,c1,c2]
end
section
variable (sn:Bool) (S:List gA) (t:Int) (x:gA) (v:Vl) (f:Int->Vl->Bool) (h0:0<=t) (ra:¬ (S.length:Int)<=t) (g:(S.map eA)[t.toNat]?=some (eA x))
include sn S t x v f h0 ra g
theorem fits_ev5 (hk:x.kind=5) (hv:v.kind=5) (hp:sA 213 [.agg (pA v)] (.bool true)) (ik:x.mems.length<=9223372036854775807) (hf:∀ m∈x.mems,∀ u∈v.items,sA 188 [WB sn S,.int .i64 m.ty,.agg (pA u),.bool true] (.bool (f m.ty u))):sA 188 [WB sn S,.int .i64 t,.agg (pA v),.bool true] (.bool (decide (v.items.length=x.mems.length)&&v.rest.isEmpty&&QE f x.mems v.items)):=by
 have kb:¬ t<0:=by omega
 simp only [sA,eA,qA,hk,hv] at hp g;refine wA (c:=dA) rfl rfl ?_;rw [qA];by_cases c1:v.items.length=x.mems.length
 ·by_cases c2:v.rest=[]
  case neg =>
   have ol:0<v.rest.length:=by
    have:v.rest.length≠0:=fun h=>c2 (yF h)
    omega
   simp [dA,-V,-y3,-y0,J,kb,ra,h0,g,hp,hk,hv,c1,c2,ol]
  rw [c2] at hp ⊢;simp only [yo] at hp;simp [dA,-V,-y3,-y0,J,kb,ra,h0,g,hp,hk,hv,c1,c2];refine uA ?_;simp [SL,-V,-y3,-y0,J];refine bA x.mems.length (fun i s=>(s.env 3).v=.bool true/\(s.env 4).v=.ptr 4 1 0/\s.mem 4 1=some [⟨.sl sn (S.map eA),.no⟩]/\(s.env 6).v=.ptr 6 1 0/\s.mem 6 1=some ([⟨.int .i64 5,.no⟩,⟨.bool v.b,.no⟩,⟨.int .i64 v.i,.no⟩,⟨.str v.s,.no⟩,⟨.int .i64 v.id,.no⟩,⟨.sl v.kn (v.keys.map pA),.no⟩,⟨.sl v.xn (v.items.map pA),.no⟩,⟨.sl v.rn [],.no⟩])/\(s.env 150).v=.sl x.mn (x.mems.map nA)/\(s.env 151).v=.int .i64 x.mems.length/\(s.env 152).v=.int .i64 i/\QE f (x.mems.drop i) (v.items.drop i)=QE f x.mems v.items)
   (fun e s=>(e=.exit 3/\QE f x.mems v.items=true)\/(e=.ret/\QE f x.mems v.items=false/\(s.env 8).v=.bool false)) (fun i hi s k h ih tc=>?_) _ _ ?_ (fun e s h=>?_)
  ·obtain ⟨e3,e4,m4,e6,m6,ar,tl,br,hs⟩:=h;refine uA ?_;by_cases fa:i<x.mems.length
   ·have ga:(i:Int)<x.mems.length:=by omega
    have fe:i<v.items.length:=by omega
    have g1:(x.mems.map nA)[i]?=some (nA x.mems[i]):=by simp [fa]
    have g2:(v.items.map pA)[i]?=some (pA v.items[i]):=by simp [fe]
    have hw:=LA (i:=i);have hx:=hf x.mems[i] (y5 _) v.items[i] (y5 _);rw [y9 fa,y9 fe,QE] at hs;generalize x.mems[i]=m at *
    generalize v.items[i]=u at *
    simp only [sA,nA,qA] at g1 g2 hx;cases ii:f m.ty u with
    | true =>
     rw [ii] at hx hs;simp [RF,-V,-y3,-y0,J,e3,e4,m4,e6,m6,ar,tl,br,ga,g1,g2,hx,hw];refine ih fa _ ⟨?_,?_,?_,?_,?_,?_,?_,?_,by simpa using hs⟩ <;> simp [e3,e4,m4,e6,m6,ar,tl]
    | false =>
     rw [ii] at hx hs;simp [RF,-V,-y3,-y0,J,e3,e4,m4,e6,m6,ar,tl,br,ga,g1,g2,hx];exact tc _ _ (.inr ⟨rfl,by rw [<- hs]; rfl,by simp⟩)
   ·have ga:¬ (i:Int)<x.mems.length:=by omega
    simp [RF,-V,-y3,-y0,J,tl,br,ga];rw [ye (by omega),QE] at hs
    ·exact tc _ _ (.inl ⟨rfl,hs.symm⟩)
    ·intro m r v' q h; cases h
  ·simp [-V,-y3,-y0,J]
  ·rcases h with ⟨rfl,h1⟩ | ⟨rfl,h1,h2⟩
   ·simp [-V,-y3,-y0,J,h1]
   ·simp [-V,-y3,-y0,J,h1,h2]
 ·have gf:¬ (v.items.length:Int)=x.mems.length:=by omega
  simp [dA,-V,-y3,-y0,J,kb,ra,h0,g,hp,hk,hv,c1,gf]
theorem fits_ev6 (hk:x.kind=6) (hv:v.kind=6) (hp:sA 213 [.agg (pA v)] (.bool true)) (hm:sA 99 [.agg (eA x),.int .i64 v.id] (uT x.mems v.id)) (hf:∀ m∈x.mems,∀ u∈v.items,sA 188 [WB sn S,.int .i64 m.ty,.agg (pA u),.bool true] (.bool (f m.ty u))):sA 188 [WB sn S,.int .i64 t,.agg (pA v),.bool true] (.bool (pF f x.mems[(aC x.mems v.id).toNat]? (decide (0<=aC x.mems v.id)) v.rest.isEmpty v.items)):=by
 have kb:¬ t<0:=by omega
 simp only [sA,eA,qA,hk,hv] at hp g;refine wA (c:=dA) rfl rfl ?_;rw [qA];simp only [sA,eA,uT,hk] at hm;have nq:=PQ (fun m:bB=>decide (m.id=v.id)) x.mems;have dh:=sF (fun m:bB=>decide (m.id=v.id)) x.mems;change aC x.mems v.id≠-1->_ at nq;change -1<=aC x.mems v.id at dh;change ∀ h:aC x.mems v.id≠-1,∃ y,x.mems[(aC x.mems v.id).toNat]?=some y/\_ at nq;generalize aC x.mems v.id=ix at *
 by_cases c1:0<=ix
 ·simp only [c1,decide_true] at hm;obtain ⟨m,ti,_⟩:=nq (by omega);have jk:max ix 0=ix:=Int.max_eq_left c1;rw [jk] at hm;have g2:(x.mems.map nA)[ix.toNat]?=some (nA m):=by rw [y8,ti]; rfl
  simp only [nA] at g2;rw [ti];by_cases c2:v.items.length=1
  ·obtain ⟨u,hu⟩:=List.length_eq_one_iff.1 c2;have hf:=hf m (yQ ti) u (by rw [hu]; simp);simp only [sA,qA] at hf;rw [hu] at hp ⊢;simp only [qA,yl,yo] at hp;by_cases c3:v.rest=[]
   ·rw [c3] at hp ⊢;simp only [yo] at hp;simp [dA,-V,-y3,-y0,J,kb,ra,h0,g,hp,hk,hv,hm,g2,c1,hf,qA,pF]
   ·simp [dA,-V,-y3,-y0,J,kb,ra,h0,g,hp,hk,hv,hm,g2,c1,c3,qA,pF]
  ·have ol:¬ (v.items.length:Int)=1:=by omega
   rw [CT _ _ _ _ _ c2];simp [dA,-V,-y3,-y0,J,kb,ra,h0,g,hp,hk,hv,hm,g2,c1,ol]
 ·simp only [c1,decide_false] at hm;rw [decide_eq_false c1,fW];cases ho:x.opn <;> simp only [ho] at hm g
  ·simp [dA,-V,-y3,-y0,J,kb,ra,h0,g,hp,hk,hv,hm,ho]
  ·simp [dA,-V,-y3,-y0,J,kb,ra,h0,g,hp,hk,hv,hm,ho]
theorem fits_ev8 (hk:x.kind=8) (hv:v.kind=8) (hp:sA 213 [.agg (pA v)] (.bool true)) (hr:v.rest=[]) (jk:x.max<=50) (am:∀ k∈v.keys,LE k.i) (he:sA 215 [WB sn S,.int .i64 x.elem,.sl v.xn (v.items.map pA),.bool true] (.bool (v.items.all (f x.elem)))) (nc:sA 215 [WB sn S,.int .i64 x.key,.sl v.kn (v.keys.map pA),.bool true] (.bool (v.keys.all (f x.key)))):sA 188 [WB sn S,.int .i64 t,.agg (pA v),.bool true] (.bool (decide ((v.keys.length:Int)<=x.max)&&decide (v.items.length=v.keys.length)&&v.keys.all (f x.key)&&kL v.keys&&v.items.all (f x.elem))):=by
 have kb:¬ t<0:=by omega
 simp only [sA,eA,qA,hk,hv] at hp g;refine wA (c:=dA) rfl rfl ?_;rw [qA];simp only [hr,yo] at hp ⊢;simp only [sA] at he nc;generalize v.items.all (f x.elem)=E at *
 generalize v.keys.all (f x.key)=KE at *
 by_cases c1:x.max<v.keys.length
 ·have gf:¬ (v.keys.length:Int)<=x.max:=by omega
  simp [dA,-V,-y3,-y0,J,kb,ra,h0,g,hp,hk,hv,hr,c1,gf]
 have gf:(v.keys.length:Int)<=x.max:=by omega
 have jo:v.keys.length<=50:=by omega
 by_cases c2:v.items.length=v.keys.length
 case neg =>
  have ol:¬ (v.items.length:Int)=v.keys.length:=by omega
  simp [dA,-V,-y3,-y0,J,kb,ra,h0,g,hp,hk,hv,hr,c1,gf,c2,ol]
 cases KE with
 | false=>simp [dA,-V,-y3,-y0,J,kb,ra,h0,g,hp,hk,hv,hr,c1,gf,c2,nc]
 | true =>
  simp [dA,-V,-y3,-y0,J,kb,ra,h0,g,hp,hk,hv,hr,c1,gf,c2,nc];refine bA (v.keys.length - 1) (fun i s=>(s.env 3).v=.bool true/\(s.env 4).v=.ptr 4 1 0/\s.mem 4 1=some [⟨.sl sn (S.map eA),.no⟩]/\(s.env 9).v=.ptr 9 3 0/\s.mem 9 3=some (MA x)/\(s.env 6).v=.ptr 6 1 0/\s.mem 6 1=some (bD v)/\(s.env 20).v=.int .i64 ((i + 1:Nat):Int)/\kL (v.keys.drop i)=kL v.keys)
   (fun e s=>(e=.exit 5/\kL v.keys=true/\(s.env 3).v=.bool true/\(s.env 4).v=.ptr 4 1 0/\s.mem 4 1=some [⟨.sl sn (S.map eA),.no⟩]/\(s.env 9).v=.ptr 9 3 0/\s.mem 9 3=some (MA x)/\(s.env 6).v=.ptr 6 1 0/\s.mem 6 1=some (bD v))\/(e=.ret/\kL v.keys=false/\(s.env 8).v=.bool false)) (fun i hi s k h ih tc=>?_) _ _ ?_ (fun e s h=>?_)
  ·obtain ⟨e3,e4,m4,e9,m9,e6,m6,e20,hs⟩:=h;refine uA ?_;by_cases fa:i<v.keys.length - 1
   ·have ot:i<v.keys.length:=by omega
    have oq:i + 1<v.keys.length:=by omega
    have hx:=vcmp_ev v.keys[i] v.keys[i + 1] (am _ (y5 _)) (am _ (y5 _));have g1:(v.keys.map pA)[i]?=some (pA v.keys[i]):=by simp [ot]
    have g2:(v.keys.map pA)[i + 1]?=some (pA v.keys[i + 1]):=by simp [oq]
    rw [y9 ot,y9 oq,kL] at hs;have mg:(decide (fS v.keys[i] v.keys[i + 1]<0)&&kL (v.keys.drop (i + 1)))=kL v.keys:=by rw [<- hs,y9 oq]
    clear hs;generalize v.keys[i]=a at *
    generalize v.keys[i + 1]=b at *
    obtain ⟨z,hz⟩:∃ z:Int,z=((i + 1:Nat):Int):=⟨_,rfl⟩;obtain ⟨y,hy⟩:∃ y:Int,y=(i:Int):=⟨_,rfl⟩;rw [<- hz] at e20;have bc:0<=z:=by omega
    have tg:0<=y:=by omega
    have ki:z<v.keys.length:=by omega
    have aq:IntKind.i64.wrap (z - 1)=y:=by rw [IntWalk.i64_in _ (by omega)]; omega
    have zi:IntKind.i64.wrap (z + 1)=((i + 1 + 1:Nat):Int):=by rw [IntWalk.i64_in _ (by omega)]; omega
    rw [show i=y.toNat from by omega] at g1;rw [show i + 1=z.toNat from by omega] at g2;simp only [sA,qA] at g1 g2 hx;by_cases hc:fS a b<0
    ·have lf:¬ 0<=fS a b:=by omega
     simp [EF,-V,-y3,-y0,J,e6,m6,e20,ki,bc,tg,aq,g1,g2,hx,lf,zi];refine ih fa _ ⟨?_,?_,?_,?_,?_,?_,?_,?_,by rw [<- mg,decide_eq_true hc]; rfl⟩ <;> simp [e6,m6,e3,e4,m4,e9,m9]
    ·have lf:0<=fS a b:=by omega
     simp [EF,-V,-y3,-y0,J,e6,m6,e20,ki,bc,tg,aq,g1,g2,hx,lf];exact tc _ _ (.inr ⟨rfl,by rw [<- mg,decide_eq_false hc]; rfl,by simp⟩)
   ·obtain ⟨z,hz⟩:∃ z:Int,z=((i + 1:Nat):Int):=⟨_,rfl⟩;rw [<- hz] at e20;have ki:¬ z<v.keys.length:=by omega
    have eu:kL (v.keys.drop i)=true:=by
     match hd:v.keys.drop i with
     | []=>rfl
     | [_]=>rfl
     | a :: b :: r=>have:=congrArg List.length hd; simp at this; omega
    rw [eu] at hs;simp [EF,-V,-y3,-y0,J,e6,m6,e20,ki];exact tc _ _ (.inl ⟨rfl,hs.symm,by simp [e3],by simp [e4],by simp [m4],by simp [e9],by simp [m9],by simp [e6],by simp [m6]⟩)
  ·simp [hk,hv,hr]
  ·rcases h with ⟨rfl,h1,e3,e4,m4,e9,m9,e6,m6⟩ | ⟨rfl,h1,h2⟩
   ·simp [-V,-y3,-y0,J,h1,e3,e4,m4,e9,m9,e6,m6,he,hk]
   ·simp [-V,-y3,-y0,J,h1,h2]
end
def zP (S:List gA):Prop:=∀ x∈S,aB x=true/\x.fine
theorem LS {x:gA} (h:aB x=true) (hk:x.kind=8):x.max<=50:=by
 unfold aB kF at h;simp [hk] at h;omega
theorem rest_fit (f:Int->Vl->Bool) (x:gA) (v:Vl) (hk:v.kind=x.kind) (hz:OC v=true) (hr:v.rest≠[]):lJ f x v=false:=by
 have bi:v.rest.isEmpty=false:=by simpa using hr
 by_cases h5:x.kind=5
 ·simp [lJ,h5,bi]
 ·by_cases h6:x.kind=6
  ·simp [lJ,h6,bi,S9]
  ·simp [OC,hk,h5,h6,hr] at hz
section
variable (sn:Bool) (S:List gA)
include sn S
theorem fits_evO (t:Int) (v:Vl) (h:tB S.length t=true):sA 188 [WB sn S,.int .i64 t,.agg (pA v),.bool true] (.bool false):=by
 refine wA (c:=dA) rfl rfl ?_;rw [qA];by_cases h0:t<0
 ·simp [dA,-V,-y3,-y0,J,h0]
 ·have h1:(S.length:Int)<=t:=by simpa [tB,h0] using h
  simp [dA,-V,-y3,-y0,J,h0,h1]
theorem fits_evK (t:Int) (x:gA) (v:Vl) (h0:0<=t) (ra:¬ (S.length:Int)<=t) (g:(S.map eA)[t.toNat]?=some (eA x)) (hk:¬ v.kind=x.kind):sA 188 [WB sn S,.int .i64 t,.agg (pA v),.bool true] (.bool false):=by
 have kb:¬ t<0:=by omega
 simp only [eA] at g;refine wA (c:=dA) rfl rfl ?_;rw [qA];simp [dA,-V,-y3,-y0,J,kb,ra,h0,g,hk]
theorem fits_evZ (t:Int) (x:gA) (v:Vl) (h0:0<=t) (ra:¬ (S.length:Int)<=t) (g:(S.map eA)[t.toNat]?=some (eA x)) (hk:v.kind=x.kind) (hp:sA 213 [.agg (pA v)] (.bool false)):sA 188 [WB sn S,.int .i64 t,.agg (pA v),.bool true] (.bool false):=by
 have kb:¬ t<0:=by omega
 simp only [sA,eA,qA,hk] at hp g;refine wA (c:=dA) rfl rfl ?_;rw [qA];simp [dA,-V,-y3,-y0,J,kb,ra,h0,g,hp,hk]
theorem fits_ev (hS:zP S):∀ (n:Nat) (t:Int) (v:Vl),SizeOf.sizeOf v<n->v.ok->v.i64->sA 188 [WB sn S,.int .i64 t,.agg (pA v),.bool true] (.bool (RD S n t v)):=by
 intro n
 induction n with
 | zero=>intro t v h; omega
 | succ n ih =>
  intro t v hn na nb;rw [RD];cases ho:tB S.length t with
  | true=>exact fits_evO sn S t v ho
  | false =>
   obtain ⟨h0,ra⟩:0<=t/\¬ (S.length:Int)<=t:=by
    simp [tB] at ho;omega
   have fa:t.toNat<S.length:=by omega
   have jb:S[t.toNat]∈S:=y5 _;have g:(S.map eA)[t.toNat]?=some (eA S[t.toNat]):=by rw [y8,y4 fa]; rfl
   rw [y4 fa];generalize S[t.toNat]=x at *
   obtain ⟨ah,ak⟩:=hS x jb;have cj:=JE ah;simp only [Bool.not_false,Bool.true_and];by_cases hk:v.kind=x.kind
   case neg=>rw [decide_eq_false hk]; exact fits_evK sn S t x v h0 ra g hk
   rw [decide_eq_true hk];simp only [Bool.true_and];have hp:=S3 v (by rw [hk]; exact cj);cases hz:OC v with
   | false=>rw [hz] at hp; exact fits_evZ sn S t x v h0 ra g hk hp
   | true =>
    rw [hz] at hp;simp only [Bool.true_and];rw [Vl.ok_def] at na;rw [Vl.i64_def] at nb;obtain ⟨o1,o2,o3,o4,o5,o6⟩:=na;obtain ⟨j1,j2,j3⟩:=nb;have dg:∀ u∈v.items,∀ t',sA 188 [WB sn S,.int .i64 t',.agg (pA u),.bool true] (.bool (RD S n t' u)):=fun u hu t'=>ih t' u (by have:=Vl.items_lt v u hu; omega) (o6 u hu) (j3 u hu)
    have nc:∀ u∈v.keys,∀ t',sA 188 [WB sn S,.int .i64 t',.agg (pA u),.bool true] (.bool (RD S n t' u)):=fun u hu t'=>ih t' u (by have:=Vl.keys_lt v u hu; omega) (o5 u hu) (j2 u hu)
    have oc:x.mems.length<=9223372036854775807:=ak.1.2.1;have bn:x.syms.length<=9223372036854775807:=ak.1.1;unfold lJ;have hv:=hk;rcases kinds x.kind with e | e | e | e | e | e | e | e | e | e
    all_goals try rw [e] at hv
    ·have r:=fits_ev1 sn S t x v (RD S n) h0 ra g e hv hp; simpa [e] using r
    ·have r:=fits_ev2 sn S t x v (RD S n) h0 ra g e hv hp; simpa [e] using r
    ·have r:=fits_ev3 sn S t x v (RD S n) h0 ra g e hv hp; simpa [e] using r
    ·have r:=fits_ev4 sn S t x v (RD S n) h0 ra g e hv hp (sym_ev x v.id bn); simpa [e] using r
    ·have r:=fits_ev5 sn S t x v (RD S n) h0 ra g e hv hp oc (fun m _ u hu=>dg u hu m.ty); simpa [e] using r
    ·have r:=fits_ev6 sn S t x v (RD S n) h0 ra g e hv hp (mem_ev x v.id oc) (fun m _ u hu=>dg u hu m.ty); simpa [e] using r
    ·have r:=fits_ev7 sn S t x v (RD S n) h0 ra g e hv hp (NW sn S x.elem (RD S n x.elem) v.items o2 v.xn fun u hu=>dg u hu x.elem); simpa [e] using r
    ·have r:=fits_ev8 sn S t x v (RD S n) h0 ra g e hv hp (by simp [OC,hv] at hz; simp [hz]) (LS ah e) (fun u hu=>((Vl.i64_def u).1 (j2 u hu)).1) (NW sn S x.elem (RD S n x.elem) v.items o2 v.xn fun u hu=>dg u hu x.elem) (NW sn S x.key (RD S n x.key) v.keys o1 v.kn fun u hu=>nc u hu x.key); simpa [e] using r
    ·have r:=fits_ev9 sn S t x v (RD S n) h0 ra g e hv hp (NW sn S x.elem (RD S n x.elem) v.items o2 v.xn fun u hu=>dg u hu x.elem); simpa [e] using r
    ·exact absurd cj e
end
theorem rzero_ev (v:Vl) (h:1<=v.kind/\v.kind<=9):sA 159 [.agg (pA v)] (.bool (OC v)):=by
 rcases kinds v.kind with e | e | e | e | e | e | e | e | e | e
 ·exact rzero_ev1 v e
 ·exact rzero_ev2 v e
 ·exact rzero_ev3 v e
 ·exact rzero_ev4 v e
 ·exact rzero_ev5 v e
 ·exact rzero_ev6 v e
 ·exact rzero_ev7 v e
 ·exact rzero_ev8 v e
 ·exact rzero_ev9 v e
 ·exact absurd h e
theorem rest_ev (x:gA) (b:Bool):sA 161 [.agg (eA x),.sl b []] (.bool true):=by
 refine wA (c:=tM) rfl rfl ?_;simp [tM,-V,-y3,-y0,J,eA];refine bA 0 (fun i s=>(s.env 1).v=.sl b []/\(s.env 5).v=.int .i64 0) (fun e s=>e=.exit 0) (fun i hi s k h ih hk=>?_) _ _ ?_ (fun e s h=>?_)
 ·obtain ⟨e1,e5⟩:=h;refine uA ?_;simp [gP,-V,-y3,-y0,J,e1,e5];exact hk _ _ rfl
 ·simp
 ·subst h;simp [-V,-y3,-y0,J]
section
variable (sn:Bool) (S:List gA) (t:Int)
include sn S t
theorem fit_evR (x:gA) (v:Vl) (h0:0<=t) (ra:¬ (S.length:Int)<=t) (g:(S.map eA)[t.toNat]?=some (eA x)) (hk:v.kind=x.kind) (hp:sA 159 [.agg (pA v)] (.bool true)) (hr:v.rest≠[]):sA 121 [WB sn S,.int .i64 t,.agg (pA v),.bool true] (.bool false):=by
 have kb:¬ t<0:=by omega
 have wi:0<v.rest.length:=by
  have:v.rest.length≠0:=fun h=>hr (yF h)
  omega
 simp only [sA,eA,qA,hk] at hp g;refine wA (c:=WA) rfl rfl ?_;rw [qA];simp [WA,-V,-y3,-y0,J,kb,ra,h0,g,hp,hk,hr,wi]
theorem fit_evO (v:Vl) (h:tB S.length t=true):sA 121 [WB sn S,.int .i64 t,.agg (pA v),.bool true] (.bool false):=by
 refine wA (c:=WA) rfl rfl ?_;rw [qA];by_cases h0:t<0
 ·simp [WA,-V,-y3,-y0,J,h0]
 ·have h1:(S.length:Int)<=t:=by simpa [tB,h0] using h
  simp [WA,-V,-y3,-y0,J,h0,h1]
theorem fit_evK (x:gA) (v:Vl) (h0:0<=t) (ra:¬ (S.length:Int)<=t) (g:(S.map eA)[t.toNat]?=some (eA x)) (hk:¬ v.kind=x.kind):sA 121 [WB sn S,.int .i64 t,.agg (pA v),.bool true] (.bool false):=by
 have kb:¬ t<0:=by omega
 simp only [eA] at g;refine wA (c:=WA) rfl rfl ?_;rw [qA];simp [WA,-V,-y3,-y0,J,kb,ra,h0,g,hk]
theorem fit_evZ (x:gA) (v:Vl) (h0:0<=t) (ra:¬ (S.length:Int)<=t) (g:(S.map eA)[t.toNat]?=some (eA x)) (hk:v.kind=x.kind) (hp:sA 159 [.agg (pA v)] (.bool false)):sA 121 [WB sn S,.int .i64 t,.agg (pA v),.bool true] (.bool false):=by
 have kb:¬ t<0:=by omega
 simp only [sA,eA,qA,hk] at hp g;refine wA (c:=WA) rfl rfl ?_;rw [qA];simp [WA,-V,-y3,-y0,J,kb,ra,h0,g,hp,hk]
end
theorem fit_ev (sn:Bool) (S:List gA) (hS:zP S):∀ (n:Nat) (t:Int) (v:Vl),SizeOf.sizeOf v<n->v.ok->v.i64->sA 121 [WB sn S,.int .i64 t,.agg (pA v),.bool true] (.bool (RD S n t v)):=by
 intro n
 induction n with
 | zero=>intro t v h; omega
 | succ n ih =>
  intro t v hn na nb;rw [RD];cases ho:tB S.length t with
  | true=>exact fit_evO sn S t v ho
  | false =>
   obtain ⟨h0,ra⟩:0<=t/\¬ (S.length:Int)<=t:=by
    simp [tB] at ho;omega
   have fa:t.toNat<S.length:=by omega
   have jb:S[t.toNat]∈S:=y5 _;have g:(S.map eA)[t.toNat]?=some (eA S[t.toNat]):=by rw [y8,y4 fa]; rfl
   rw [y4 fa];generalize S[t.toNat]=x at *
   obtain ⟨ah,ak⟩:=hS x jb;have cj:=JE ah;simp only [Bool.not_false,Bool.true_and];by_cases hk:v.kind=x.kind
   case neg=>rw [decide_eq_false hk]; exact fit_evK sn S t x v h0 ra g hk
   rw [decide_eq_true hk];simp only [Bool.true_and];have hp:=rzero_ev v (by rw [hk]; exact cj);cases hz:OC v with
   | false=>rw [hz] at hp; exact fit_evZ sn S t x v h0 ra g hk hp
   | true =>
    rw [hz] at hp;simp only [Bool.true_and];rw [Vl.ok_def] at na;rw [Vl.i64_def] at nb;obtain ⟨o1,o2,o3,o4,o5,o6⟩:=na;obtain ⟨j1,j2,j3⟩:=nb;have dg:∀ u∈v.items,∀ t',sA 121 [WB sn S,.int .i64 t',.agg (pA u),.bool true] (.bool (RD S n t' u)):=fun u hu t'=>ih t' u (by have:=Vl.items_lt v u hu; omega) (o6 u hu) (j3 u hu)
    have nc:∀ u∈v.keys,∀ t',sA 121 [WB sn S,.int .i64 t',.agg (pA u),.bool true] (.bool (RD S n t' u)):=fun u hu t'=>ih t' u (by have:=Vl.keys_lt v u hu; omega) (o5 u hu) (j2 u hu)
    have oc:x.mems.length<=9223372036854775807:=ak.1.2.1;have bn:x.syms.length<=9223372036854775807:=ak.1.1;by_cases hr:v.rest=[]
    case neg=>rw [rest_fit _ x v hk hz hr]; exact fit_evR sn S t x v h0 ra g hk hp hr
    unfold lJ;have hv:=hk;rcases kinds x.kind with e | e | e | e | e | e | e | e | e | e
    all_goals try rw [e] at hv
    ·have r:=fit_ev1 sn S t x v (RD S n) h0 ra g e hv hp hr; simpa [e] using r
    ·have r:=fit_ev2 sn S t x v (RD S n) h0 ra g e hv hp hr; simpa [e] using r
    ·have r:=fit_ev3 sn S t x v (RD S n) h0 ra g e hv hp hr; simpa [e] using r
    ·have r:=fit_ev4 sn S t x v (RD S n) h0 ra g e hv hp hr (rsym_ev x v.id bn); simpa [e] using r
    ·have r:=fit_ev5 sn S t x v (RD S n) h0 ra g e hv hp hr oc (rest_ev x v.rn) (fun m _ u hu=>dg u hu m.ty); simpa [e,hr] using r
    ·have r:=fit_ev6 sn S t x v (RD S n) h0 ra g e hv hp hr (L5 x v.id oc) (fun m _ u hu=>dg u hu m.ty); simpa [e] using r
    ·have r:=fit_ev7 sn S t x v (RD S n) h0 ra g e hv hp hr (F4 sn S x.elem (RD S n x.elem) v.items o2 v.xn fun u hu=>dg u hu x.elem); simpa [e] using r
    ·have r:=fit_ev8 sn S t x v (RD S n) h0 ra g e hv hp hr (LS ah e) (fun u hu=>((Vl.i64_def u).1 (j2 u hu)).1) (F4 sn S x.elem (RD S n x.elem) v.items o2 v.xn fun u hu=>dg u hu x.elem) (F4 sn S x.key (RD S n x.key) v.keys o1 v.kn fun u hu=>nc u hu x.key); simpa [e] using r
    ·have r:=fit_ev9 sn S t x v (RD S n) h0 ra g e hv hp hr (F4 sn S x.elem (RD S n x.elem) v.items o2 v.xn fun u hu=>dg u hu x.elem); simpa [e] using r
    ·exact absurd cj e
noncomputable def PE (S:List gA) (t:Int) (v:Vl):Bool:=RD S (SizeOf.sizeOf v + 1) t v
theorem plain_v (sn:Bool) (S:List gA) (hS:zP S) (t:Int) (v:Vl) (na:v.ok) (nb:v.i64):sA 151 [WB sn S,.int .i64 t,.agg (pA v)] (.bool (PE S t v)):=by
 have h:=fits_ev sn S hS (SizeOf.sizeOf v + 1) t v (by omega) na nb;simp only [sA,qA] at h ⊢;refine wA (c:=uL) rfl rfl ?_;unfold PE;simp [uL,-V,-y3,-y0,J,h]
theorem rplain_v (sn:Bool) (S:List gA) (hS:zP S) (t:Int) (v:Vl) (na:v.ok) (nb:v.i64):sA 86 [WB sn S,.int .i64 t,.agg (pA v)] (.bool (PE S t v)):=by
 have h:=fit_ev sn S hS (SizeOf.sizeOf v + 1) t v (by omega) na nb;simp only [sA,qA] at h ⊢;refine wA (c:=wL) rfl rfl ?_;unfold PE;simp [wL,-V,-y3,-y0,J,h]
theorem gW {l:List gA}:∀ n i,i + n=l.length->wD l n i=0->∀ j,i<=j->(h:j<l.length)->dD l j l[j]=0
 | 0,i,hi,_,j,hj,h=>by omega
 | n + 1,i,hi,h0,j,hj,h=>by
  have fa:i<l.length:=by omega
  rw [wD,y4 fa] at h0;simp only at h0;by_cases he:dD l i l[i]=0
  ·rw [if_pos he] at h0;rcases Nat.lt_or_eq_of_le hj with h1 | h1
   ·exact gW n (i + 1) (by omega) h0 j h1 h
   ·subst h1; exact he
  ·rw [if_neg he] at h0; exact absurd h0 he
theorem rO {l:List gA} {i:Nat} {t:gA} (h:dD l i t=0):aB t=true/\t.usesL.any (tB l.length)=false:=by
 unfold dD at h;by_cases h1:aB t=false
 ·rw [if_pos h1] at h; cases h
 ·rw [if_neg h1] at h;refine ⟨by simpa using h1,?_⟩;by_cases h2:t.named=true/\t.name∈(l.take i).map gA.name
  ·rw [if_pos h2] at h; cases h
  ·rw [if_neg h2] at h;by_cases h3:t.usesL.any (tB l.length)=true
   ·rw [if_pos h3] at h; cases h
   ·simpa using h3
theorem EM {l:List gA} (h:valid l=0) (j:Nat) (hj:j<l.length):dD l j l[j]=0:=by
 unfold valid at h;by_cases pw:32<l.length
 ·rw [if_pos pw] at h; cases h
 ·rw [if_neg pw] at h;exact gW l.length 0 (by omega) h j (by omega) hj
theorem dS {s:PM} (hs:s.fine) (h:valid s.types=0):zP s.types:=fun x hx=>by
 obtain ⟨j,hj,rfl⟩:=yy hx;exact ⟨(rO (EM h j hj)).1,hs.2 _ hx⟩
noncomputable def DM (S:List gA) (m:bB):Bool:=m.has&&!PE S m.ty m.dflt
noncomputable def jI (S:List gA) (t:gA):Option Int:=(t.mems.find? (DM S)).map bB.id
noncomputable def LD (S:List gA):Nat->Nat->Option (Nat × Int)
 | 0,_=>none
 | n + 1,i=>match S[i]? with
  | some t=>(match jI S t with
   | some d=>some (i,d)
   | none=>LD S n (i + 1))
  | none=>none
def x7:Option (Nat × Int)->AV
 | some (i,d)=>.tup [.int .i64 i,.int .i64 d,.int .i64 1]
 | none=>.tup [.int .i64 0,.int .i64 0,.int .i64 0]
noncomputable def jU (S:List gA):AV:=if valid S=0 then x7 (LD S S.length 0) else .tup [.int .i64 0,.int .i64 0,.int .i64 (valid S)]
def gA.d64 (t:gA):Prop:=∀ m∈t.mems,m.dflt.i64
def PM.d64 (s:PM):Prop:=∀ t∈s.types,t.d64
theorem OX {S:List gA} {i:Nat} (h:i<S.length):LD S (S.length - i) i=match jI S S[i] with
  | some d=>some (i,d)
  | none=>LD S (S.length - (i + 1)) (i + 1):=by
 rw [show S.length - i=(S.length - (i + 1)) + 1 from by omega,LD,y4 h]
theorem dlp (sn:Bool) (S:List gA) (hS:zP S) (t:gA) (ht:t.fine) (nb:t.d64) (b:Bool) (i:Nat) (r:RV) (P:aA->Prop) (hP:∀ s s':aA,(∀ t n,t≠9->s'.mem t n=s.mem t n)->(∀ t,t ∉ [2,3,4,9,27,28,29,30,31,32,33,34,35,36,37,38,39,40,41,42,43,44,26]->s'.env t=s.env t)->P s->P s') (k:Ex->aA->Option RV)
  (hk:∀ s',jI S t=none->P s'->k (.exit 2) s'=some r) (hr:∀ (s':aA) d,jI S t=some d->(s'.env 2).v=.int .i64 i->(s'.env 3).v=.int .i64 d->(s'.env 4).v=.int .i64 1->k .ret s'=some r)
  (s:aA) (hs:P s) (h1:(s.env 1).v=.ptr 1 1 0) (m1:s.mem 1 1=some [⟨.sl sn (S.map eA),.no⟩]) (h6:(s.env 6).v=.int .i64 i) (h24:(s.env 24).v=.sl b (t.mems.map nA)) (h25:(s.env 25).v=.int .i64 t.mems.length) (h26:(s.env 26).v=.int .i64 0):kI kA tA CC s k=some r:=by
 refine bA t.mems.length (fun j s=>P s/\(s.env 1).v=.ptr 1 1 0/\s.mem 1 1=some [⟨.sl sn (S.map eA),.no⟩]/\(s.env 6).v=.int .i64 i/\(s.env 24).v=.sl b (t.mems.map nA)/\(s.env 25).v=.int .i64 t.mems.length/\(s.env 26).v=.int .i64 j/\(t.mems.drop j).find? (DM S)=t.mems.find? (DM S))
  (fun e s=>(e=.exit 2/\jI S t=none/\P s)\/(e=.ret/\∃ d,jI S t=some d/\(s.env 2).v=.int .i64 i/\(s.env 3).v=.int .i64 d/\(s.env 4).v=.int .i64 1)) (fun j hj s k h ih hk=>?_) _ _ ?_ (fun e s h=>?_)
 ·obtain ⟨hp,e1,m1,e6,e24,e25,e26,hs⟩:=h;refine uA ?_;by_cases fa:j<t.mems.length
  ·have ga:(j:Int)<t.mems.length:=by omega
   have g1:(t.mems.map nA)[j]?=some (nA t.mems[j]):=by simp [fa]
   have hw:=LA (i:=j) (by have:=ht.2.2; omega);have wq:=plain_v sn S hS t.mems[j].ty t.mems[j].dflt (ht.1.2.2 _ (y5 _)).1 (nb _ (y5 _));rw [y9 fa,List.find?_cons] at hs;generalize t.mems[j]=m at *
   simp only [nA] at g1;simp only [sA,qA] at wq;have bad:DM S m=true->jI S t=some m.id:=fun h=>by unfold jI; rw [<- hs,h]; rfl
   have good:DM S m=false->(t.mems.drop (j + 1)).find? (DM S)=t.mems.find? (DM S):=fun h=>by rw [<- hs,h]
   have nxt:∀ s':aA,(∀ t n,t≠9->s'.mem t n=s.mem t n)->(∀ t,t ∉ [2,3,4,9,27,28,29,30,31,32,33,34,35,36,37,38,39,40,41,42,43,44,26]->s'.env t=s.env t)->(s'.env 26).v=.int .i64 ((j + 1:Nat):Int)->DM S m=false->kI kA tA CC s' k=some r:=fun s' hm he h26 hb=>by
    refine ih fa _ ⟨hP s s' hm he hp,?_,?_,?_,?_,?_,h26,good hb⟩
    ·rw [he 1 (by decide)]; exact e1
    ·rw [hm 1 1 (by decide)]; exact m1
    ·rw [he 6 (by decide)]; exact e6
    ·rw [he 24 (by decide)]; exact e24
    ·rw [he 25 (by decide)]; exact e25
   cases hh:m.has with
   | false =>
    simp [CC,-V,-y3,-y0,J,e1,m1,e6,e24,e25,e26,ga,g1,hh,hw];refine nxt _ ?_ ?_ ?_ (by simp [DM,hh])
    ·intro t n ht; simp [iB,ht]
    ·intro t ht;simp only [yc,yH,or_false,not_or] at ht;simp [BF,ht]
    ·simp
   | true =>
    cases uy:PE S m.ty m.dflt with
    | true =>
     rw [uy] at wq;simp [CC,-V,-y3,-y0,J,e1,m1,e6,e24,e25,e26,ga,g1,hh,wq,hw];refine nxt _ ?_ ?_ ?_ (by simp [DM,hh,uy])
     ·intro t n ht; simp [iB,ht]
     ·intro t ht;simp only [yc,yH,or_false,not_or] at ht;simp [BF,ht]
     ·simp
    | false =>
     rw [uy] at wq;simp [CC,-V,-y3,-y0,J,e1,m1,e6,e24,e25,e26,ga,g1,hh,wq];exact hk _ _ (.inr ⟨rfl,m.id,bad (by simp [DM,hh,uy]),by simp,by simp,by simp⟩)
  ·have ga:¬ (j:Int)<t.mems.length:=by omega
   simp [CC,-V,-y3,-y0,J,e25,e26,ga];rw [ye (by omega)] at hs;refine hk _ _ (.inl ⟨rfl,by unfold jI; rw [<- hs]; rfl,hP s _ ?_ ?_ hp⟩)
   ·intro t n _; rfl
   ·intro t ht;simp only [yc,yH,or_false,not_or] at ht;simp [BF,ht]
 ·simp [hs,h1,m1,h6,h24,h25,h26]
 ·rcases h with ⟨rfl,h1,h2⟩ | ⟨rfl,d,h1,h2,h3,h4⟩
  ·exact hk s h1 h2
  ·exact hr s d h1 h2 h3 h4
theorem dflts_ev (s:PM) (hs:s.fine) (nb:s.d64):sA 109 [.agg (JA s)] (jU s.types):=by
 have hv:=XZ s hs;simp only [sA,JA] at hv;refine wA (c:=uG) rfl rfl ?_;unfold jU;by_cases h0:valid s.types=0
 case neg =>
  rw [if_neg h0];simp [uG,-V,-y3,-y0,J,JA,hv,h0]
 have hS:=dS hs h0;rw [if_pos h0];rw [h0] at hv;simp [uG,-V,-y3,-y0,J,JA,hv];refine bA s.types.length (fun i σ=>(σ.env 1).v=.ptr 1 1 0/\σ.mem 1 1=some [⟨.sl s.nl (s.types.map eA),.no⟩]/\(σ.env 16).v=.sl s.nl (s.types.map eA)/\(σ.env 17).v=.int .i64 s.types.length/\(σ.env 18).v=.int .i64 i/\LD s.types (s.types.length - i) i=LD s.types s.types.length 0)
  (fun e σ=>(e=.exit 0/\LD s.types s.types.length 0=none)\/(e=.ret/\∃ j d,LD s.types s.types.length 0=some (j,d)/\(σ.env 2).v=.int .i64 j/\(σ.env 3).v=.int .i64 d/\(σ.env 4).v=.int .i64 1)) (fun i hi σ k h ih hk=>?_) _ _ ?_ (fun e σ h=>?_)
 ·obtain ⟨e1,m1,je,fi,e18,hd⟩:=h;refine uA ?_;by_cases fa:i<s.types.length
  ·have ga:(i:Int)<s.types.length:=by omega
   have g1:(s.types.map eA)[i]?=some (eA s.types[i]):=by simp [fa]
   have hw:=LA (i:=i) (by have:=hs.1; omega);have df:=hs.2 _ (y5 fa);have hd64:=nb _ (y5 fa);rw [OX fa] at hd;generalize s.types[i]=t at *
   simp only [eA] at g1;simp [eI,-V,-y3,-y0,J,e1,m1,je,fi,e18,ga,g1];refine dlp s.nl s.types hS t df hd64 t.mn i _ (fun σ2=>(σ2.env 1).v=.ptr 1 1 0/\σ2.mem 1 1=some [⟨.sl s.nl (s.types.map eA),.no⟩]/\(σ2.env 16).v=.sl s.nl (s.types.map eA)/\(σ2.env 17).v=.int .i64 s.types.length/\(σ2.env 18).v=.int .i64 i) (fun a b hm he h=>?_) _ (fun σ2 hn h=>?_) (fun σ2 d hn q2 q3 q4=>?_) _ ⟨?_,?_,?_,?_,?_⟩ ?_ ?_ ?_ ?_ ?_ ?_
   ·rw [hm 1 1 (by decide),he 1 (by decide),he 16 (by decide),he 17 (by decide),he 18 (by decide)];exact h
   ·obtain ⟨f1,fm,wk,f17,f18⟩:=h;simp [-V,-y3,-y0,J,f18,hw];refine ih fa _ ⟨?_,?_,?_,?_,?_,by rw [<- hd,hn]⟩ <;> simp [f1,fm,wk,f17]
   ·simp [-V,-y3,-y0,J];exact hk _ _ (.inr ⟨rfl,i,d,by rw [<- hd,hn],q2,q3,q4⟩)
   all_goals simp [e1,m1,je,fi,e18]
  ·have ga:¬ (i:Int)<s.types.length:=by omega
   simp [eI,-V,-y3,-y0,J,fi,e18,ga];exact hk _ _ (.inl ⟨rfl,by rw [<- hd,show s.types.length - i=0 from by omega,LD]⟩)
 ·simp
 ·rcases h with ⟨rfl,h1⟩ | ⟨rfl,j,d,h1,h2,h3,h4⟩
  ·rw [h1]; simp [-V,-y3,-y0,J,x7]
  ·rw [h1]; simp [-V,-y3,-y0,J,h2,h3,h4,x7]
theorem rdlp (sn:Bool) (S:List gA) (hS:zP S) (t:gA) (ht:t.fine) (nb:t.d64) (b:Bool) (i:Nat) (r:RV) (P:aA->Prop) (hP:∀ s s':aA,s'.mem=s.mem->(∀ t,t ∉ [2,3,4,8,27,28,29,30,31,32,33,34,35,36,37,38,39,40,41,42,43,44,45,46,47,48,49,50,51,52]->s'.env t=s.env t)->P s->P s') (k:Ex->aA->Option RV)
  (hk:∀ s',jI S t=none->P s'->k (.exit 2) s'=some r) (hr:∀ (s':aA) d,jI S t=some d->(s'.env 2).v=.int .i64 i->(s'.env 3).v=.int .i64 d->(s'.env 4).v=.int .i64 1->k .ret s'=some r)
  (s:aA) (hs:P s) (h1:(s.env 1).v=.ptr 1 1 0) (m1:s.mem 1 1=some [⟨.sl sn (S.map eA),.no⟩]) (h6:(s.env 6).v=.int .i64 i) (h7:(s.env 7).v=.sl b (t.mems.map nA)) (h8:(s.env 8).v=.int .i64 0):kI kA tA ZC s k=some r:=by
 refine bA t.mems.length (fun j s=>P s/\(s.env 1).v=.ptr 1 1 0/\s.mem 1 1=some [⟨.sl sn (S.map eA),.no⟩]/\(s.env 6).v=.int .i64 i/\(s.env 7).v=.sl b (t.mems.map nA)/\(s.env 8).v=.int .i64 j/\(t.mems.drop j).find? (DM S)=t.mems.find? (DM S))
  (fun e s=>(e=.exit 2/\jI S t=none/\P s)\/(e=.ret/\∃ d,jI S t=some d/\(s.env 2).v=.int .i64 i/\(s.env 3).v=.int .i64 d/\(s.env 4).v=.int .i64 1)) (fun j hj s k h ih hk=>?_) _ _ ?_ (fun e s h=>?_)
 ·obtain ⟨hp,e1,m1,e6,e7,e8,hs⟩:=h;refine uA ?_;by_cases fa:j<t.mems.length
  ·have ga:(j:Int)<t.mems.length:=by omega
   have g1:(t.mems.map nA)[j]?=some (nA t.mems[j]):=by simp [fa]
   have hw:=LA (i:=j) (by have:=ht.2.2; omega);have wq:=rplain_v sn S hS t.mems[j].ty t.mems[j].dflt (ht.1.2.2 _ (y5 _)).1 (nb _ (y5 _));rw [y9 fa,List.find?_cons] at hs;generalize t.mems[j]=m at *
   simp only [nA] at g1;simp only [sA,qA] at wq;have bad:DM S m=true->jI S t=some m.id:=fun h=>by unfold jI; rw [<- hs,h]; rfl
   have good:DM S m=false->(t.mems.drop (j + 1)).find? (DM S)=t.mems.find? (DM S):=fun h=>by rw [<- hs,h]
   have nxt:∀ s':aA,s'.mem=s.mem->(∀ t,t ∉ [2,3,4,8,27,28,29,30,31,32,33,34,35,36,37,38,39,40,41,42,43,44,45,46,47,48,49,50,51,52]->s'.env t=s.env t)->(s'.env 8).v=.int .i64 ((j + 1:Nat):Int)->DM S m=false->kI kA tA ZC s' k=some r:=fun s' hm he h26 hb=>by
    refine ih fa _ ⟨hP s s' hm he hp,?_,?_,?_,?_,h26,good hb⟩
    ·rw [he 1 (by decide)]; exact e1
    ·rw [hm]; exact m1
    ·rw [he 6 (by decide)]; exact e6
    ·rw [he 7 (by decide)]; exact e7
   cases hh:m.has with
   | false =>
    simp [ZC,-V,-y3,-y0,J,e1,m1,e6,e7,e8,ga,g1,hh,hw];refine nxt _ rfl ?_ ?_ (by simp [DM,hh])
    ·intro t ht;simp only [yc,yH,or_false,not_or] at ht;simp [BF,ht]
    ·simp
   | true =>
    cases uy:PE S m.ty m.dflt with
    | true =>
     rw [uy] at wq;simp [ZC,-V,-y3,-y0,J,e1,m1,e6,e7,e8,ga,g1,hh,wq,hw];refine nxt _ rfl ?_ ?_ (by simp [DM,hh,uy])
     ·intro t ht;simp only [yc,yH,or_false,not_or] at ht;simp [BF,ht]
     ·simp
    | false =>
     rw [uy] at wq;simp [ZC,-V,-y3,-y0,J,e1,m1,e6,e7,e8,ga,g1,hh,wq];exact hk _ _ (.inr ⟨rfl,m.id,bad (by simp [DM,hh,uy]),by simp,by simp,by simp⟩)
  ·have ga:¬ (j:Int)<t.mems.length:=by omega
   simp [ZC,-V,-y3,-y0,J,e7,e8,ga];rw [ye (by omega)] at hs;refine hk _ _ (.inl ⟨rfl,by unfold jI; rw [<- hs]; rfl,hP s _ rfl ?_ hp⟩);intro t ht;simp only [yc,yH,or_false,not_or] at ht;simp [BF,ht]
 ·simp [hs,h1,m1,h6,h7,h8]
 ·rcases h with ⟨rfl,h1,h2⟩ | ⟨rfl,d,h1,h2,h3,h4⟩
  ·exact hk s h1 h2
  ·exact hr s d h1 h2 h3 h4
theorem rdflts_ev (s:PM) (hs:s.fine) (nb:s.d64):sA 107 [.agg (JA s)] (jU s.types):=by
 have hv:=M3 s hs;simp only [sA,JA] at hv;refine wA (c:=eG) rfl rfl ?_;unfold jU;by_cases h0:valid s.types=0
 case neg =>
  rw [if_neg h0];simp [eG,-V,-y3,-y0,J,JA,hv,h0]
 have hS:=dS hs h0;rw [if_pos h0];rw [h0] at hv;simp [eG,-V,-y3,-y0,J,JA,hv];refine bA s.types.length (fun i σ=>(σ.env 1).v=.ptr 1 1 0/\σ.mem 1 1=some [⟨.sl s.nl (s.types.map eA),.no⟩]/\(σ.env 6).v=.int .i64 i/\LD s.types (s.types.length - i) i=LD s.types s.types.length 0)
  (fun e σ=>(e=.exit 0/\LD s.types s.types.length 0=none)\/(e=.ret/\∃ j d,LD s.types s.types.length 0=some (j,d)/\(σ.env 2).v=.int .i64 j/\(σ.env 3).v=.int .i64 d/\(σ.env 4).v=.int .i64 1)) (fun i hi σ k h ih hk=>?_) _ _ ?_ (fun e σ h=>?_)
 ·obtain ⟨e1,m1,e6,hd⟩:=h;refine uA ?_;by_cases fa:i<s.types.length
  ·have ga:(i:Int)<s.types.length:=by omega
   have g1:(s.types.map eA)[i]?=some (eA s.types[i]):=by simp [fa]
   have hw:=LA (i:=i) (by have:=hs.1; omega);have df:=hs.2 _ (y5 fa);have hd64:=nb _ (y5 fa);rw [OX fa] at hd;generalize s.types[i]=t at *
   simp only [eA] at g1;simp [wI,-V,-y3,-y0,J,e1,m1,e6,ga,g1];refine rdlp s.nl s.types hS t df hd64 t.mn i _ (fun σ2=>(σ2.env 1).v=.ptr 1 1 0/\σ2.mem 1 1=some [⟨.sl s.nl (s.types.map eA),.no⟩]/\(σ2.env 6).v=.int .i64 i) (fun a b hm he h=>?_) _ (fun σ2 hn h=>?_) (fun σ2 d hn q2 q3 q4=>?_) _ ⟨?_,?_,?_⟩ ?_ ?_ ?_ ?_ ?_
   ·rw [hm,he 1 (by decide),he 6 (by decide)];exact h
   ·obtain ⟨f1,fm,f6⟩:=h;simp [-V,-y3,-y0,J,f6,hw];refine ih fa _ ⟨?_,?_,?_,by rw [<- hd,hn]⟩ <;> simp [f1,fm]
   ·simp [-V,-y3,-y0,J];exact hk _ _ (.inr ⟨rfl,i,d,by rw [<- hd,hn],q2,q3,q4⟩)
   all_goals simp [e1,m1,e6]
  ·have ga:¬ (i:Int)<s.types.length:=by omega
   simp [wI,-V,-y3,-y0,J,e1,m1,e6,ga];exact hk _ _ (.inl ⟨rfl,by rw [<- hd,show s.types.length - i=0 from by omega,LD]⟩)
 ·simp
 ·rcases h with ⟨rfl,h1⟩ | ⟨rfl,j,d,h1,h2,h3,h4⟩
  ·rw [h1]; simp [-V,-y3,-y0,J,x7]
  ·rw [h1]; simp [-V,-y3,-y0,J,h2,h3,h4,x7]
noncomputable def AB (S:List gA):Int:=if valid S=0 then (match LD S S.length 0 with
 | some _=>1
 | none=>0) else valid S
theorem D2 {S:List gA} (h:valid S=0):∃ i d,jU S=.tup [.int .i64 i,.int .i64 d,.int .i64 (AB S)]:=by
 unfold jU AB;rw [if_pos h,if_pos h];cases LD S S.length 0 with
 | none=>exact ⟨_,_,rfl⟩
 | some p=>exact ⟨_,_,rfl⟩
theorem DT (s:PM) (hs:s.fine) (nb:s.d64):sA 62 [.agg (JA s)] (.int .i64 (AB s.types)):=by
 have hv:=XZ s hs;have hd:=dflts_ev s hs nb;refine wA (c:=OG) rfl rfl ?_;simp only [sA,JA] at hv hd;by_cases h0:valid s.types=0
 ·obtain ⟨i,d,hA⟩:=D2 h0;rw [hA] at hd;rw [h0] at hv;simp [OG,-V,-y3,-y0,J,JA,hv,hd]
 ·unfold AB;rw [if_neg h0];simp [OG,-V,-y3,-y0,J,JA,hv,h0]
theorem QV (s:PM) (hs:s.fine) (nb:s.d64):sA 61 [.agg (JA s)] (.int .i64 (AB s.types)):=by
 have hv:=M3 s hs;have hd:=rdflts_ev s hs nb;refine wA (c:=sI) rfl rfl ?_;simp only [sA,JA] at hv hd;by_cases h0:valid s.types=0
 ·obtain ⟨i,d,hA⟩:=D2 h0;rw [hA] at hd;rw [h0] at hv;simp [sI,-V,-y3,-y0,J,JA,hv,hd]
 ·unfold AB;rw [if_neg h0];simp [sI,-V,-y3,-y0,J,JA,hv,h0]
end Go.Proofs.YtjoaiabjebpbjaaGreat
