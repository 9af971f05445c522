/- A part of the proof. -/
import Derived.Test.YtbnlmgncbgaepaaGreatWh
set_option linter.all false
set_option maxRecDepth 100000
set_option maxHeartbeats 8000000
open Option renaming bind_some → V
open List renaming range_succ → J, map_map → y0, getElem?_eq_getElem → y5, getElem_mem → y6, drop_eq_getElem_cons → y9, getElem?_map → yc, drop_eq_nil_of_le → ye, mem_cons → yf, map_cons → yh, mem_of_getElem? → yj, map_nil → yr, getElem_of_mem → yx, not_mem_nil → yG, eq_nil_of_length_eq_zero → yN
open Int renaming toNat_lt → y3
namespace Go.Proofs.YtbnlmgncbgaepaaGreat
open Go
section
variable (sn:Bool) (S:List Typ) (t:Int) (x:Typ) (v:Vl) (f:Int->Vl->Bool) (h0:0<=t) (gb:¬ (S.length:Int)<=t) (g:(S.map typC)[t.toNat]?=some (typC x))
include sn S t x v f h0 gb g
theorem fit_ev1 (hk:x.kind=1) (hv:v.kind=1) (hp:evA 182 [.agg (valC v)] (.bool true)) (hr:v.rest=[]):evA 151 [schA sn S,.int .i64 t,.agg (valC v),.bool true] (.bool (true)):=by
 have nb:¬ t<0:=by omega
 simp only [evA,typC,q04,hk,hv] at hp g;refine q00 (c:=q09) rfl rfl ?_;rw [q04];simp only [hr,yr] at hp ⊢;simp [q09,-V,-y3,-y0,J,nb,gb,h0,g,hp,hk,hv,hr]
theorem fit_ev2 (hk:x.kind=2) (hv:v.kind=2) (hp:evA 182 [.agg (valC v)] (.bool true)) (hr:v.rest=[]):evA 151 [schA sn S,.int .i64 t,.agg (valC v),.bool true] (.bool (decide (x.low<=v.i)&&decide (v.i<=x.high))):=by
 have nb:¬ t<0:=by omega
 simp only [evA,typC,q04,hk,hv] at hp g;refine q00 (c:=q09) rfl rfl ?_;rw [q04];simp only [hr,yr] at hp ⊢;by_cases c1:x.low<=v.i
 ·simp [q09,-V,-y3,-y0,J,nb,gb,h0,g,hp,hk,hv,hr,c1]
 ·simp [q09,-V,-y3,-y0,J,nb,gb,h0,g,hp,hk,hv,hr,c1]
theorem fit_ev3 (hk:x.kind=3) (hv:v.kind=3) (hp:evA 182 [.agg (valC v)] (.bool true)) (hr:v.rest=[]):evA 151 [schA sn S,.int .i64 t,.agg (valC v),.bool true] (.bool (decide ((v.s.size:Int)<=x.max))):=by
 have nb:¬ t<0:=by omega
 simp only [evA,typC,q04,hk,hv] at hp g;refine q00 (c:=q09) rfl rfl ?_;rw [q04];simp only [hr,yr] at hp ⊢;simp [q09,-V,-y3,-y0,J,nb,gb,h0,g,hp,hk,hv,hr]
theorem fit_ev4 (hk:x.kind=4) (hv:v.kind=4) (hp:evA 182 [.agg (valC v)] (.bool true)) (hr:v.rest=[]) (hs:evA 123 [.agg (typC x),.int .i64 v.id] (symA x.syms v.id)):evA 151 [schA sn S,.int .i64 t,.agg (valC v),.bool true] (.bool (decide (0<=q5H x.syms v.id))):=by
 have nb:¬ t<0:=by omega
 simp only [evA,typC,q04,hk,hv] at hp g;refine q00 (c:=q09) rfl rfl ?_;rw [q04];simp only [hr,yr] at hp ⊢;simp only [evA,typC,symA,hk] at hs;generalize q5H x.syms v.id=ix at *
 by_cases c1:0<=ix
 ·simp only [c1,decide_true] at hs;simp [q09,-V,-y3,-y0,J,nb,gb,h0,g,hp,hk,hv,hr,hs,c1]
 ·simp only [c1,decide_false] at hs;cases ho:x.opn <;> simp only [ho] at hs g
  ·simp [q09,-V,-y3,-y0,J,nb,gb,h0,g,hp,hk,hv,hr,hs,c1,ho]
  ·simp [q09,-V,-y3,-y0,J,nb,gb,h0,g,hp,hk,hv,hr,hs,c1,ho]
theorem fit_ev7 (hk:x.kind=7) (hv:v.kind=7) (hp:evA 182 [.agg (valC v)] (.bool true)) (hr:v.rest=[]) (he:evA 185 [schA sn S,.int .i64 x.elem,.sl v.xn (v.items.map valC),.bool true] (.bool (v.items.all (f x.elem)))):evA 151 [schA sn S,.int .i64 t,.agg (valC v),.bool true] (.bool (decide ((v.items.length:Int)<=x.max)&&v.items.all (f x.elem))):=by
 have nb:¬ t<0:=by omega
 simp only [evA,typC,q04,hk,hv] at hp g;refine q00 (c:=q09) rfl rfl ?_;rw [q04];simp only [hr,yr] at hp ⊢;simp only [evA] at he;generalize v.items.all (f x.elem)=E at *
 by_cases c1:(v.items.length:Int)<=x.max
 ·simp [q09,-V,-y3,-y0,J,nb,gb,h0,g,hp,hk,hv,hr,c1,he]
 ·simp [q09,-V,-y3,-y0,J,nb,gb,h0,g,hp,hk,hv,hr,c1]
theorem fit_ev9 (hk:x.kind=9) (hv:v.kind=9) (hp:evA 182 [.agg (valC v)] (.bool true)) (hr:v.rest=[]) (he:evA 185 [schA sn S,.int .i64 x.elem,.sl v.xn (v.items.map valC),.bool true] (.bool (v.items.all (f x.elem)))):evA 151 [schA sn S,.int .i64 t,.agg (valC v),.bool true] (.bool (decide (v.items.length<=1)&&v.items.all (f x.elem))):=by
 have nb:¬ t<0:=by omega
 simp only [evA,typC,q04,hk,hv] at hp g;refine q00 (c:=q09) rfl rfl ?_;rw [q04];simp only [hr,yr] at hp ⊢;simp only [evA] at he;generalize v.items.all (f x.elem)=E at *
 by_cases c1:v.items.length<=1
 ·have c2:(v.items.length:Int)<=1:=by omega
  simp [q09,-V,-y3,-y0,J,nb,gb,h0,g,hp,hk,hv,hr,c1,c2,he]
 ·have c2:¬ (v.items.length:Int)<=1:=by omega
  simp [q09,-V,-y3,-y0,J,nb,gb,h0,g,hp,hk,hv,hr,c1,c2]
end
section
variable (sn:Bool) (S:List Typ) (t:Int) (x:Typ) (v:Vl) (f:Int->Vl->Bool) (h0:0<=t) (gb:¬ (S.length:Int)<=t) (g:(S.map typC)[t.toNat]?=some (typC x))
include sn S t x v f h0 gb g
theorem fit_ev5 (hk:x.kind=5) (hv:v.kind=5) (hp:evA 182 [.agg (valC v)] (.bool true)) (hr:v.rest=[]) (bm:x.mems.length<=9223372036854775807) (eh:evA 184 [.agg (typC x),.sl v.rn []] (.bool true)) (hf:∀ m∈x.mems,∀ u∈v.items,evA 151 [schA sn S,.int .i64 m.ty,.agg (valC u),.bool true] (.bool (f m.ty u))):evA 151 [schA sn S,.int .i64 t,.agg (valC v),.bool true] (.bool (decide (v.items.length=x.mems.length)&&q5Z f x.mems v.items)):=by
 have nb:¬ t<0:=by omega
 simp only [evA,typC,q04,hk,hv] at hp g;refine q00 (c:=q09) rfl rfl ?_;rw [q04];simp only [hr,yr] at hp ⊢;simp only [evA,typC,hk] at eh;by_cases c1:v.items.length=x.mems.length
 ·skip
  simp [q09,-V,-y3,-y0,J,nb,gb,h0,g,hp,hk,hv,c1,hr,eh];refine q06 v.items.length (fun i s=>(s.env 3).v=.bool true/\(s.env 4).v=.ptr 4 1 0/\s.mem 4 1=some [⟨.sl sn (S.map typC),.no⟩]/\(s.env 6).v=.ptr 6 1 0/\s.mem 6 1=some ([⟨.int .i64 v.kind,.no⟩,⟨.bool v.b,.no⟩,⟨.int .i64 v.i,.no⟩,⟨.str v.s,.no⟩,⟨.int .i64 v.id,.no⟩,⟨.sl v.kn (v.keys.map valC),.no⟩,⟨.sl v.xn (v.items.map valC),.no⟩,⟨.sl v.rn (v.rest.map rawC),.no⟩])/\(s.env 9).v=.ptr 9 3 0/\s.mem 9 3=some (q0b x)/\(s.env 12).v=.int .i64 i/\q5Z f (x.mems.drop i) (v.items.drop i)=q5Z f x.mems v.items)
   (fun e s=>(e=.exit 1/\q5Z f x.mems v.items=true)\/(e=.ret/\q5Z f x.mems v.items=false/\(s.env 8).v=.bool false)) (fun i hi s k h ih zc=>?_) _ _ ?_ (fun e s h=>?_)
  ·obtain ⟨e3,e4,m4,e6,m6,e9,m9,e12,hs⟩:=h;refine q02 ?_;by_cases zg:i<v.items.length
   ·have ga:(i:Int)<v.items.length:=by omega
    have fa:i<x.mems.length:=by omega
    have g1:(x.mems.map memC)[i]?=some (memC x.mems[i]):=by simp [fa]
    have g2:(v.items.map valC)[i]?=some (valC v.items[i]):=by simp [zg]
    have hw:=q0s (i:=i);have hx:=hf x.mems[i] (y6 _) v.items[i] (y6 _);rw [y9 fa,y9 zg,q5Z] at hs;generalize x.mems[i]=m at *
    generalize v.items[i]=u at *
    simp only [evA,memC,q04] at g1 g2 hx;cases cz:f m.ty u with
    | true =>
     rw [cz] at hx hs;simp [q5j,-V,-y3,-y0,J,e3,e4,m4,e6,m6,e9,m9,e12,ga,g1,g2,hx,hw];refine ih zg _ ⟨?_,?_,?_,?_,?_,?_,?_,?_,by simpa using hs⟩ <;> simp [e3,e4,m4,e6,m6,e9,m9]
    | false =>
     rw [cz] at hx hs;simp [q5j,-V,-y3,-y0,J,e3,e4,m4,e6,m6,e9,m9,e12,ga,g1,g2,hx];exact zc _ _ (.inr ⟨rfl,by rw [<- hs]; rfl,by simp⟩)
   ·have ga:¬ (i:Int)<v.items.length:=by omega
    simp [q5j,-V,-y3,-y0,J,e6,m6,e12,ga];have hd:x.mems.drop i=[]:=ye (by omega);rw [hd,q5Z] at hs
    ·exact zc _ _ (.inl ⟨rfl,hs.symm⟩)
    ·intro m r v' q h; cases h
  ·simp [hk,hv,hr]
  ·rcases h with ⟨rfl,h1⟩ | ⟨rfl,h1,h2⟩
   ·simp [-V,-y3,-y0,J,h1]
   ·simp [-V,-y3,-y0,J,h1,h2]
 ·have oi:¬ (v.items.length:Int)=x.mems.length:=by omega
  simp [q09,-V,-y3,-y0,J,nb,gb,h0,g,hp,hk,hv,hr,c1,oi]
theorem fit_ev6 (hk:x.kind=6) (hv:v.kind=6) (hp:evA 182 [.agg (valC v)] (.bool true)) (hr:v.rest=[]) (hm:evA 99 [.agg (typC x),.int .i64 v.id] (memA x.mems v.id)) (hf:∀ m∈x.mems,∀ u∈v.items,evA 151 [schA sn S,.int .i64 m.ty,.agg (valC u),.bool true] (.bool (f m.ty u))):evA 151 [schA sn S,.int .i64 t,.agg (valC v),.bool true] (.bool (q6p f x.mems[(q1d x.mems v.id).toNat]? (decide (0<=q1d x.mems v.id)) v.rest.isEmpty v.items)):=by
 have nb:¬ t<0:=by omega
 simp only [evA,typC,q04,hk,hv] at hp g;refine q00 (c:=q09) rfl rfl ?_;rw [q04];simp only [hr,yr] at hp ⊢;simp only [evA,typC,memA,hk] at hm;have mz:=q8r (fun m:Mem=>decide (m.id=v.id)) x.mems;have te:=q3A (fun m:Mem=>decide (m.id=v.id)) x.mems;change q1d x.mems v.id≠-1->_ at mz;change -1<=q1d x.mems v.id at te;change ∀ h:q1d x.mems v.id≠-1,∃ y,x.mems[(q1d x.mems v.id).toNat]?=some y/\_ at mz;generalize q1d x.mems v.id=ix at *
 by_cases c1:0<=ix
 ·simp only [c1,decide_true] at hm;obtain ⟨m,xz,_⟩:=mz (by omega);have xu:max ix 0=ix:=Int.max_eq_left c1;rw [xu] at hm;have g2:(x.mems.map memC)[ix.toNat]?=some (memC m):=by rw [yc,xz]; rfl
  simp only [memC] at g2;rw [xz];by_cases c2:v.items.length=1
  ·obtain ⟨u,hu⟩:=List.length_eq_one_iff.1 c2;have hf:=hf m (yj xz) u (by rw [hu]; simp);simp only [evA,q04] at hf;rw [hu] at hp ⊢;simp only [q04,yh,yr] at hp;simp [q09,-V,-y3,-y0,J,nb,gb,h0,g,hp,hk,hv,hr,hm,g2,c1,hf,q04,q6p]
  ·have xq:¬ (v.items.length:Int)=1:=by omega
   rw [qb6 _ _ _ _ _ c2];simp [q09,-V,-y3,-y0,J,nb,gb,h0,g,hp,hk,hv,hr,hm,g2,c1,xq]
 ·simp only [c1,decide_false] at hm;rw [decide_eq_false c1,unionFit_no];cases ho:x.opn <;> simp only [ho] at hm g
  ·simp [q09,-V,-y3,-y0,J,nb,gb,h0,g,hp,hk,hv,hr,hm,ho]
  ·simp [q09,-V,-y3,-y0,J,nb,gb,h0,g,hp,hk,hv,hr,hm,ho]
theorem fit_ev8 (hk:x.kind=8) (hv:v.kind=8) (hp:evA 182 [.agg (valC v)] (.bool true)) (hr:v.rest=[]) (xu:x.max<=50) (tr:∀ k∈v.keys,i64R k.i) (he:evA 185 [schA sn S,.int .i64 x.elem,.sl v.xn (v.items.map valC),.bool true] (.bool (v.items.all (f x.elem)))) (xg:evA 185 [schA sn S,.int .i64 x.key,.sl v.kn (v.keys.map valC),.bool true] (.bool (v.keys.all (f x.key)))):evA 151 [schA sn S,.int .i64 t,.agg (valC v),.bool true] (.bool (decide ((v.keys.length:Int)<=x.max)&&decide (v.items.length=v.keys.length)&&v.keys.all (f x.key)&&ascV v.keys&&v.items.all (f x.elem))):=by
 have nb:¬ t<0:=by omega
 simp only [evA,typC,q04,hk,hv] at hp g;refine q00 (c:=q09) rfl rfl ?_;rw [q04];simp only [hr,yr] at hp ⊢;simp only [evA] at he xg;generalize v.items.all (f x.elem)=E at *
 generalize v.keys.all (f x.key)=KE at *
 by_cases c1:x.max<v.keys.length
 ·have oi:¬ (v.keys.length:Int)<=x.max:=by omega
  simp [q09,-V,-y3,-y0,J,nb,gb,h0,g,hp,hk,hv,hr,c1,oi]
 have oi:(v.keys.length:Int)<=x.max:=by omega
 have kh:v.keys.length<=50:=by omega
 by_cases c2:v.items.length=v.keys.length
 case neg =>
  have xq:¬ (v.items.length:Int)=v.keys.length:=by omega
  simp [q09,-V,-y3,-y0,J,nb,gb,h0,g,hp,hk,hv,hr,c1,oi,c2,xq]
 cases KE with
 | false=>simp [q09,-V,-y3,-y0,J,nb,gb,h0,g,hp,hk,hv,hr,c1,oi,c2,xg]
 | true =>
  cases E with
  | false=>simp [q09,-V,-y3,-y0,J,nb,gb,h0,g,hp,hk,hv,hr,c1,oi,c2,xg,he]
  | true =>
  simp [q09,-V,-y3,-y0,J,nb,gb,h0,g,hp,hk,hv,hr,c1,oi,c2,xg,he];refine q06 (v.keys.length - 1) (fun i s=>(s.env 6).v=.ptr 6 1 0/\s.mem 6 1=some (valRow v)/\(s.env 15).v=.int .i64 ((i + 1:Nat):Int)/\ascV (v.keys.drop i)=ascV v.keys)
   (fun e s=>(e=.exit 3/\ascV v.keys=true)\/(e=.ret/\ascV v.keys=false/\(s.env 8).v=.bool false)) (fun i hi s k h ih zc=>?_) _ _ ?_ (fun e s h=>?_)
  ·obtain ⟨e6,m6,e20,hs⟩:=h;refine q02 ?_;by_cases fa:i<v.keys.length - 1
   ·have xr:i<v.keys.length:=by omega
    have nn:i + 1<v.keys.length:=by omega
    have hx:=rvcmp_ev v.keys[i] v.keys[i + 1] (tr _ (y6 _)) (tr _ (y6 _));have g1:(v.keys.map valC)[i]?=some (valC v.keys[i]):=by simp [xr]
    have g2:(v.keys.map valC)[i + 1]?=some (valC v.keys[i + 1]):=by simp [nn]
    rw [y9 xr,y9 nn,ascV] at hs;have fi:(decide (vcmp v.keys[i] v.keys[i + 1]<0)&&ascV (v.keys.drop (i + 1)))=ascV v.keys:=by rw [<- hs,y9 nn]
    clear hs;generalize v.keys[i]=a at *
    generalize v.keys[i + 1]=b at *
    obtain ⟨z,hz⟩:∃ z:Int,z=((i + 1:Nat):Int):=⟨_,rfl⟩;obtain ⟨y,hy⟩:∃ y:Int,y=(i:Int):=⟨_,rfl⟩;rw [<- hz] at e20;have gc:0<=z:=by omega
    have ai:0<=y:=by omega
    have rj:z<v.keys.length:=by omega
    have sw:IntKind.i64.wrap (z - 1)=y:=by rw [IntWalk.i64_in _ (by omega)]; omega
    have tq:IntKind.i64.wrap (z + 1)=((i + 1 + 1:Nat):Int):=by rw [IntWalk.i64_in _ (by omega)]; omega
    rw [show i=y.toNat from by omega] at g1;rw [show i + 1=z.toNat from by omega] at g2;simp only [evA,q04] at g1 g2 hx;by_cases hc:vcmp a b<0
    ·have cf:¬ 0<=vcmp a b:=by omega
     simp [q5i,-V,-y3,-y0,J,e6,m6,e20,rj,gc,ai,sw,g1,g2,hx,cf,tq];refine ih fa _ ⟨?_,?_,?_,by rw [<- fi,decide_eq_true hc]; rfl⟩ <;> simp [e6,m6]
    ·have cf:0<=vcmp a b:=by omega
     simp [q5i,-V,-y3,-y0,J,e6,m6,e20,rj,gc,ai,sw,g1,g2,hx,cf];exact zc _ _ (.inr ⟨rfl,by rw [<- fi,decide_eq_false hc]; rfl,by simp⟩)
   ·obtain ⟨z,hz⟩:∃ z:Int,z=((i + 1:Nat):Int):=⟨_,rfl⟩;rw [<- hz] at e20;have rj:¬ z<v.keys.length:=by omega
    have ry:ascV (v.keys.drop i)=true:=by
     match hd:v.keys.drop i with
     | []=>rfl
     | [_]=>rfl
     | a :: b :: r=>have:=congrArg List.length hd; simp at this; omega
    rw [ry] at hs;simp [q5i,-V,-y3,-y0,J,e6,m6,e20,rj];exact zc _ _ (.inl ⟨rfl,hs.symm⟩)
  ·simp [hv,hr]
  ·rcases h with ⟨rfl,h1⟩ | ⟨rfl,h1,h2⟩
   ·simp [-V,-y3,-y0,J,h1]
   ·simp [-V,-y3,-y0,J,h1,h2]
end
section
variable (sn:Bool) (S:List Typ) (t:Int) (x:Typ) (v:Vl) (f:Int->Vl->Bool) (h0:0<=t) (gb:¬ (S.length:Int)<=t) (g:(S.map typC)[t.toNat]?=some (typC x))
include sn S t x v f h0 gb g
theorem fits_ev1 (hk:x.kind=1) (hv:v.kind=1) (hp:evA 238 [.agg (valC v)] (.bool true)):evA 227 [schA sn S,.int .i64 t,.agg (valC v),.bool true] (.bool (true)):=by
 have nb:¬ t<0:=by omega
 simp only [evA,typC,q04,hk,hv] at hp g;refine q00 (c:=q07) rfl rfl ?_;rw [q04];simp [q07,-V,-y3,-y0,J,nb,gb,h0,g,hp,hk,hv]
theorem fits_ev2 (hk:x.kind=2) (hv:v.kind=2) (hp:evA 238 [.agg (valC v)] (.bool true)):evA 227 [schA sn S,.int .i64 t,.agg (valC v),.bool true] (.bool (decide (x.low<=v.i)&&decide (v.i<=x.high))):=by
 have nb:¬ t<0:=by omega
 simp only [evA,typC,q04,hk,hv] at hp g;refine q00 (c:=q07) rfl rfl ?_;rw [q04];by_cases c1:x.low<=v.i
 ·simp [q07,-V,-y3,-y0,J,nb,gb,h0,g,hp,hk,hv,c1]
 ·simp [q07,-V,-y3,-y0,J,nb,gb,h0,g,hp,hk,hv,c1]
theorem fits_ev3 (hk:x.kind=3) (hv:v.kind=3) (hp:evA 238 [.agg (valC v)] (.bool true)):evA 227 [schA sn S,.int .i64 t,.agg (valC v),.bool true] (.bool (decide ((v.s.size:Int)<=x.max))):=by
 have nb:¬ t<0:=by omega
 simp only [evA,typC,q04,hk,hv] at hp g;refine q00 (c:=q07) rfl rfl ?_;rw [q04];simp [q07,-V,-y3,-y0,J,nb,gb,h0,g,hp,hk,hv]
theorem fits_ev4 (hk:x.kind=4) (hv:v.kind=4) (hp:evA 238 [.agg (valC v)] (.bool true)) (hs:evA 154 [.agg (typC x),.int .i64 v.id] (symA x.syms v.id)):evA 227 [schA sn S,.int .i64 t,.agg (valC v),.bool true] (.bool (decide (0<=q5H x.syms v.id))):=by
 have nb:¬ t<0:=by omega
 simp only [evA,typC,q04,hk,hv] at hp g;refine q00 (c:=q07) rfl rfl ?_;rw [q04];simp only [evA,typC,symA,hk] at hs;generalize q5H x.syms v.id=ix at *
 by_cases c1:0<=ix
 ·simp only [c1,decide_true] at hs;simp [q07,-V,-y3,-y0,J,nb,gb,h0,g,hp,hk,hv,hs,c1]
 ·simp only [c1,decide_false] at hs;cases ho:x.opn <;> simp only [ho] at hs g
  ·simp [q07,-V,-y3,-y0,J,nb,gb,h0,g,hp,hk,hv,hs,c1,ho]
  ·simp [q07,-V,-y3,-y0,J,nb,gb,h0,g,hp,hk,hv,hs,c1,ho]
theorem fits_ev7 (hk:x.kind=7) (hv:v.kind=7) (hp:evA 238 [.agg (valC v)] (.bool true)) (he:evA 240 [schA sn S,.int .i64 x.elem,.sl v.xn (v.items.map valC),.bool true] (.bool (v.items.all (f x.elem)))):evA 227 [schA sn S,.int .i64 t,.agg (valC v),.bool true] (.bool (decide ((v.items.length:Int)<=x.max)&&v.items.all (f x.elem))):=by
 have nb:¬ t<0:=by omega
 simp only [evA,typC,q04,hk,hv] at hp g;refine q00 (c:=q07) rfl rfl ?_;rw [q04];simp only [evA] at he;generalize v.items.all (f x.elem)=E at *
 by_cases c1:(v.items.length:Int)<=x.max
 ·simp [q07,-V,-y3,-y0,J,nb,gb,h0,g,hp,hk,hv,c1,he]
 ·simp [q07,-V,-y3,-y0,J,nb,gb,h0,g,hp,hk,hv,c1]
theorem fits_ev9 (hk:x.kind=9) (hv:v.kind=9) (hp:evA 238 [.agg (valC v)] (.bool true)) (he:evA 240 [schA sn S,.int .i64 x.elem,.sl v.xn (v.items.map valC),.bool true] (.bool (v.items.all (f x.elem)))):evA 227 [schA sn S,.int .i64 t,.agg (valC v),.bool true] (.bool (decide (v.items.length<=1)&&v.items.all (f x.elem))):=by
 have nb:¬ t<0:=by omega
 simp only [evA,typC,q04,hk,hv] at hp g;refine q00 (c:=q07) rfl rfl ?_;rw [q04];simp only [evA] at he;generalize v.items.all (f x.elem)=E at *
 by_cases c1:v.items.length<=1
 ·have c2:(v.items.length:Int)<=1:=by omega
  simp [q07,-V,-y3,-y0,J,nb,gb,h0,g,hp,hk,hv,c1,c2,he]
 ·have c2:¬ (v.items.length:Int)<=1:=by omega
  simp [q07,-V,-y3,-y0,J,nb,gb,h0,g,hp,hk,hv,c1,c2]
end
section
variable (sn:Bool) (S:List Typ) (t:Int) (x:Typ) (v:Vl) (f:Int->Vl->Bool) (h0:0<=t) (gb:¬ (S.length:Int)<=t) (g:(S.map typC)[t.toNat]?=some (typC x))
include sn S t x v f h0 gb g
theorem fits_ev5 (hk:x.kind=5) (hv:v.kind=5) (hp:evA 238 [.agg (valC v)] (.bool true)) (bm:x.mems.length<=9223372036854775807) (hf:∀ m∈x.mems,∀ u∈v.items,evA 227 [schA sn S,.int .i64 m.ty,.agg (valC u),.bool true] (.bool (f m.ty u))):evA 227 [schA sn S,.int .i64 t,.agg (valC v),.bool true] (.bool (decide (v.items.length=x.mems.length)&&v.rest.isEmpty&&q5Z f x.mems v.items)):=by
 have nb:¬ t<0:=by omega
 simp only [evA,typC,q04,hk,hv] at hp g;refine q00 (c:=q07) rfl rfl ?_;rw [q04];by_cases c1:v.items.length=x.mems.length
 ·by_cases c2:v.rest=[]
  case neg =>
   have xq:0<v.rest.length:=by
    have:v.rest.length≠0:=fun h=>c2 (yN h)
    omega
   simp [q07,-V,-y3,-y0,J,nb,gb,h0,g,hp,hk,hv,c1,c2,xq]
  rw [c2] at hp ⊢;simp only [yr] at hp;simp [q07,-V,-y3,-y0,J,nb,gb,h0,g,hp,hk,hv,c1,c2];refine q02 ?_;simp [q8o,-V,-y3,-y0,J];refine q06 x.mems.length (fun i s=>(s.env 3).v=.bool true/\(s.env 4).v=.ptr 4 1 0/\s.mem 4 1=some [⟨.sl sn (S.map typC),.no⟩]/\(s.env 6).v=.ptr 6 1 0/\s.mem 6 1=some ([⟨.int .i64 5,.no⟩,⟨.bool v.b,.no⟩,⟨.int .i64 v.i,.no⟩,⟨.str v.s,.no⟩,⟨.int .i64 v.id,.no⟩,⟨.sl v.kn (v.keys.map valC),.no⟩,⟨.sl v.xn (v.items.map valC),.no⟩,⟨.sl v.rn [],.no⟩])/\(s.env 150).v=.sl x.mn (x.mems.map memC)/\(s.env 151).v=.int .i64 x.mems.length/\(s.env 152).v=.int .i64 i/\q5Z f (x.mems.drop i) (v.items.drop i)=q5Z f x.mems v.items)
   (fun e s=>(e=.exit 3/\q5Z f x.mems v.items=true)\/(e=.ret/\q5Z f x.mems v.items=false/\(s.env 8).v=.bool false)) (fun i hi s k h ih zc=>?_) _ _ ?_ (fun e s h=>?_)
  ·obtain ⟨e3,e4,m4,e6,m6,zx,cv,fy,hs⟩:=h;refine q02 ?_;by_cases fa:i<x.mems.length
   ·have ga:(i:Int)<x.mems.length:=by omega
    have zg:i<v.items.length:=by omega
    have g1:(x.mems.map memC)[i]?=some (memC x.mems[i]):=by simp [fa]
    have g2:(v.items.map valC)[i]?=some (valC v.items[i]):=by simp [zg]
    have hw:=q0s (i:=i);have hx:=hf x.mems[i] (y6 _) v.items[i] (y6 _);rw [y9 fa,y9 zg,q5Z] at hs;generalize x.mems[i]=m at *
    generalize v.items[i]=u at *
    simp only [evA,memC,q04] at g1 g2 hx;cases cz:f m.ty u with
    | true =>
     rw [cz] at hx hs;simp [q4V,-V,-y3,-y0,J,e3,e4,m4,e6,m6,zx,cv,fy,ga,g1,g2,hx,hw];refine ih fa _ ⟨?_,?_,?_,?_,?_,?_,?_,?_,by simpa using hs⟩ <;> simp [e3,e4,m4,e6,m6,zx,cv]
    | false =>
     rw [cz] at hx hs;simp [q4V,-V,-y3,-y0,J,e3,e4,m4,e6,m6,zx,cv,fy,ga,g1,g2,hx];exact zc _ _ (.inr ⟨rfl,by rw [<- hs]; rfl,by simp⟩)
   ·have ga:¬ (i:Int)<x.mems.length:=by omega
    simp [q4V,-V,-y3,-y0,J,cv,fy,ga];rw [ye (by omega),q5Z] at hs
    ·exact zc _ _ (.inl ⟨rfl,hs.symm⟩)
    ·intro m r v' q h; cases h
  ·simp [-V,-y3,-y0,J]
  ·rcases h with ⟨rfl,h1⟩ | ⟨rfl,h1,h2⟩
   ·simp [-V,-y3,-y0,J,h1]
   ·simp [-V,-y3,-y0,J,h1,h2]
 ·have oi:¬ (v.items.length:Int)=x.mems.length:=by omega
  simp [q07,-V,-y3,-y0,J,nb,gb,h0,g,hp,hk,hv,c1,oi]
theorem fits_ev6 (hk:x.kind=6) (hv:v.kind=6) (hp:evA 238 [.agg (valC v)] (.bool true)) (hm:evA 137 [.agg (typC x),.int .i64 v.id] (memA x.mems v.id)) (hf:∀ m∈x.mems,∀ u∈v.items,evA 227 [schA sn S,.int .i64 m.ty,.agg (valC u),.bool true] (.bool (f m.ty u))):evA 227 [schA sn S,.int .i64 t,.agg (valC v),.bool true] (.bool (q6p f x.mems[(q1d x.mems v.id).toNat]? (decide (0<=q1d x.mems v.id)) v.rest.isEmpty v.items)):=by
 have nb:¬ t<0:=by omega
 simp only [evA,typC,q04,hk,hv] at hp g;refine q00 (c:=q07) rfl rfl ?_;rw [q04];simp only [evA,typC,memA,hk] at hm;have mz:=q8r (fun m:Mem=>decide (m.id=v.id)) x.mems;have te:=q3A (fun m:Mem=>decide (m.id=v.id)) x.mems;change q1d x.mems v.id≠-1->_ at mz;change -1<=q1d x.mems v.id at te;change ∀ h:q1d x.mems v.id≠-1,∃ y,x.mems[(q1d x.mems v.id).toNat]?=some y/\_ at mz;generalize q1d x.mems v.id=ix at *
 by_cases c1:0<=ix
 ·simp only [c1,decide_true] at hm;obtain ⟨m,xz,_⟩:=mz (by omega);have xu:max ix 0=ix:=Int.max_eq_left c1;rw [xu] at hm;have g2:(x.mems.map memC)[ix.toNat]?=some (memC m):=by rw [yc,xz]; rfl
  simp only [memC] at g2;rw [xz];by_cases c2:v.items.length=1
  ·obtain ⟨u,hu⟩:=List.length_eq_one_iff.1 c2;have hf:=hf m (yj xz) u (by rw [hu]; simp);simp only [evA,q04] at hf;rw [hu] at hp ⊢;simp only [q04,yh,yr] at hp;by_cases c3:v.rest=[]
   ·rw [c3] at hp ⊢;simp only [yr] at hp;simp [q07,-V,-y3,-y0,J,nb,gb,h0,g,hp,hk,hv,hm,g2,c1,hf,q04,q6p]
   ·simp [q07,-V,-y3,-y0,J,nb,gb,h0,g,hp,hk,hv,hm,g2,c1,c3,q04,q6p]
  ·have xq:¬ (v.items.length:Int)=1:=by omega
   rw [qb6 _ _ _ _ _ c2];simp [q07,-V,-y3,-y0,J,nb,gb,h0,g,hp,hk,hv,hm,g2,c1,xq]
 ·simp only [c1,decide_false] at hm;rw [decide_eq_false c1,unionFit_no];cases ho:x.opn <;> simp only [ho] at hm g
  ·simp [q07,-V,-y3,-y0,J,nb,gb,h0,g,hp,hk,hv,hm,ho]
  ·simp [q07,-V,-y3,-y0,J,nb,gb,h0,g,hp,hk,hv,hm,ho]
theorem fits_ev8 (hk:x.kind=8) (hv:v.kind=8) (hp:evA 238 [.agg (valC v)] (.bool true)) (hr:v.rest=[]) (xu:x.max<=50) (tr:∀ k∈v.keys,i64R k.i) (he:evA 240 [schA sn S,.int .i64 x.elem,.sl v.xn (v.items.map valC),.bool true] (.bool (v.items.all (f x.elem)))) (xg:evA 240 [schA sn S,.int .i64 x.key,.sl v.kn (v.keys.map valC),.bool true] (.bool (v.keys.all (f x.key)))):evA 227 [schA sn S,.int .i64 t,.agg (valC v),.bool true] (.bool (decide ((v.keys.length:Int)<=x.max)&&decide (v.items.length=v.keys.length)&&v.keys.all (f x.key)&&ascV v.keys&&v.items.all (f x.elem))):=by
 have nb:¬ t<0:=by omega
 simp only [evA,typC,q04,hk,hv] at hp g;refine q00 (c:=q07) rfl rfl ?_;rw [q04];simp only [hr,yr] at hp ⊢;simp only [evA] at he xg;generalize v.items.all (f x.elem)=E at *
 generalize v.keys.all (f x.key)=KE at *
 by_cases c1:x.max<v.keys.length
 ·have oi:¬ (v.keys.length:Int)<=x.max:=by omega
  simp [q07,-V,-y3,-y0,J,nb,gb,h0,g,hp,hk,hv,hr,c1,oi]
 have oi:(v.keys.length:Int)<=x.max:=by omega
 have kh:v.keys.length<=50:=by omega
 by_cases c2:v.items.length=v.keys.length
 case neg =>
  have xq:¬ (v.items.length:Int)=v.keys.length:=by omega
  simp [q07,-V,-y3,-y0,J,nb,gb,h0,g,hp,hk,hv,hr,c1,oi,c2,xq]
 cases KE with
 | false=>simp [q07,-V,-y3,-y0,J,nb,gb,h0,g,hp,hk,hv,hr,c1,oi,c2,xg]
 | true =>
  simp [q07,-V,-y3,-y0,J,nb,gb,h0,g,hp,hk,hv,hr,c1,oi,c2,xg];refine q06 (v.keys.length - 1) (fun i s=>(s.env 3).v=.bool true/\(s.env 4).v=.ptr 4 1 0/\s.mem 4 1=some [⟨.sl sn (S.map typC),.no⟩]/\(s.env 9).v=.ptr 9 3 0/\s.mem 9 3=some (q0b x)/\(s.env 6).v=.ptr 6 1 0/\s.mem 6 1=some (valRow v)/\(s.env 20).v=.int .i64 ((i + 1:Nat):Int)/\ascV (v.keys.drop i)=ascV v.keys)
   (fun e s=>(e=.exit 5/\ascV v.keys=true/\(s.env 3).v=.bool true/\(s.env 4).v=.ptr 4 1 0/\s.mem 4 1=some [⟨.sl sn (S.map typC),.no⟩]/\(s.env 9).v=.ptr 9 3 0/\s.mem 9 3=some (q0b x)/\(s.env 6).v=.ptr 6 1 0/\s.mem 6 1=some (valRow v))\/(e=.ret/\ascV v.keys=false/\(s.env 8).v=.bool false)) (fun i hi s k h ih zc=>?_) _ _ ?_ (fun e s h=>?_)
  ·obtain ⟨e3,e4,m4,e9,m9,e6,m6,e20,hs⟩:=h;refine q02 ?_;by_cases fa:i<v.keys.length - 1
   ·have xr:i<v.keys.length:=by omega
    have nn:i + 1<v.keys.length:=by omega
    have hx:=vcmp_ev v.keys[i] v.keys[i + 1] (tr _ (y6 _)) (tr _ (y6 _));have g1:(v.keys.map valC)[i]?=some (valC v.keys[i]):=by simp [xr]
    have g2:(v.keys.map valC)[i + 1]?=some (valC v.keys[i + 1]):=by simp [nn]
    rw [y9 xr,y9 nn,ascV] at hs;have fi:(decide (vcmp v.keys[i] v.keys[i + 1]<0)&&ascV (v.keys.drop (i + 1)))=ascV v.keys:=by rw [<- hs,y9 nn]
    clear hs;generalize v.keys[i]=a at *
    generalize v.keys[i + 1]=b at *
    obtain ⟨z,hz⟩:∃ z:Int,z=((i + 1:Nat):Int):=⟨_,rfl⟩;obtain ⟨y,hy⟩:∃ y:Int,y=(i:Int):=⟨_,rfl⟩;rw [<- hz] at e20;have gc:0<=z:=by omega
    have ai:0<=y:=by omega
    have rj:z<v.keys.length:=by omega
    have sw:IntKind.i64.wrap (z - 1)=y:=by rw [IntWalk.i64_in _ (by omega)]; omega
    have tq:IntKind.i64.wrap (z + 1)=((i + 1 + 1:Nat):Int):=by rw [IntWalk.i64_in _ (by omega)]; omega
    rw [show i=y.toNat from by omega] at g1;rw [show i + 1=z.toNat from by omega] at g2;simp only [evA,q04] at g1 g2 hx;by_cases hc:vcmp a b<0
    ·have cf:¬ 0<=vcmp a b:=by omega
     simp [q4U,-V,-y3,-y0,J,e6,m6,e20,rj,gc,ai,sw,g1,g2,hx,cf,tq];refine ih fa _ ⟨?_,?_,?_,?_,?_,?_,?_,?_,by rw [<- fi,decide_eq_true hc]; rfl⟩ <;> simp [e6,m6,e3,e4,m4,e9,m9]
    ·have cf:0<=vcmp a b:=by omega
     simp [q4U,-V,-y3,-y0,J,e6,m6,e20,rj,gc,ai,sw,g1,g2,hx,cf];exact zc _ _ (.inr ⟨rfl,by rw [<- fi,decide_eq_false hc]; rfl,by simp⟩)
   ·obtain ⟨z,hz⟩:∃ z:Int,z=((i + 1:Nat):Int):=⟨_,rfl⟩;rw [<- hz] at e20;have rj:¬ z<v.keys.length:=by omega
    have ry:ascV (v.keys.drop i)=true:=by
     match hd:v.keys.drop i with
     | []=>rfl
     | [_]=>rfl
     | a :: b :: r=>have:=congrArg List.length hd; simp at this; omega
    rw [ry] at hs;simp [q4U,-V,-y3,-y0,J,e6,m6,e20,rj];exact zc _ _ (.inl ⟨rfl,hs.symm,by simp [e3],by simp [e4],by simp [m4],by simp [e9],by simp [m9],by simp [e6],by simp [m6]⟩)
  ·simp [hk,hv,hr]
  ·rcases h with ⟨rfl,h1,e3,e4,m4,e9,m9,e6,m6⟩ | ⟨rfl,h1,h2⟩
   ·simp [-V,-y3,-y0,J,h1,e3,e4,m4,e9,m9,e6,m6,he,hk]
   ·simp [-V,-y3,-y0,J,h1,h2]
end
def goodS (S:List Typ):Prop:=∀ x∈S,q0L x=true/\x.fine
theorem good_max {x:Typ} (h:q0L x=true) (hk:x.kind=8):x.max<=50:=by
 unfold q0L q6R at h;simp [hk] at h;omega
theorem rest_fit (f:Int->Vl->Bool) (x:Typ) (v:Vl) (hk:v.kind=x.kind) (hz:q3M v=true) (hr:v.rest≠[]):fitK f x v=false:=by
 have eh:v.rest.isEmpty=false:=by simpa using hr
 by_cases h5:x.kind=5
 ·simp [fitK,h5,eh]
 ·by_cases h6:x.kind=6
  ·simp [fitK,h6,eh,unionFit_re]
  ·simp [q3M,hk,h5,h6,hr] at hz
section
variable (sn:Bool) (S:List Typ)
include sn S
theorem fits_evO (t:Int) (v:Vl) (h:q0O S.length t=true):evA 227 [schA sn S,.int .i64 t,.agg (valC v),.bool true] (.bool false):=by
 refine q00 (c:=q07) rfl rfl ?_;rw [q04];by_cases h0:t<0
 ·simp [q07,-V,-y3,-y0,J,h0]
 ·have h1:(S.length:Int)<=t:=by simpa [q0O,h0] using h
  simp [q07,-V,-y3,-y0,J,h0,h1]
theorem fits_evK (t:Int) (x:Typ) (v:Vl) (h0:0<=t) (gb:¬ (S.length:Int)<=t) (g:(S.map typC)[t.toNat]?=some (typC x)) (hk:¬ v.kind=x.kind):evA 227 [schA sn S,.int .i64 t,.agg (valC v),.bool true] (.bool false):=by
 have nb:¬ t<0:=by omega
 simp only [typC] at g;refine q00 (c:=q07) rfl rfl ?_;rw [q04];simp [q07,-V,-y3,-y0,J,nb,gb,h0,g,hk]
theorem fits_evZ (t:Int) (x:Typ) (v:Vl) (h0:0<=t) (gb:¬ (S.length:Int)<=t) (g:(S.map typC)[t.toNat]?=some (typC x)) (hk:v.kind=x.kind) (hp:evA 238 [.agg (valC v)] (.bool false)):evA 227 [schA sn S,.int .i64 t,.agg (valC v),.bool true] (.bool false):=by
 have nb:¬ t<0:=by omega
 simp only [evA,typC,q04,hk] at hp g;refine q00 (c:=q07) rfl rfl ?_;rw [q04];simp [q07,-V,-y3,-y0,J,nb,gb,h0,g,hp,hk]
theorem fits_ev (hS:goodS S):∀ (n:Nat) (t:Int) (v:Vl),SizeOf.sizeOf v<n->v.ok->v.i64->evA 227 [schA sn S,.int .i64 t,.agg (valC v),.bool true] (.bool (fitN S n t v)):=by
 intro n
 induction n with
 | zero=>intro t v h; omega
 | succ n ih =>
  intro t v hn la od;rw [fitN];cases ho:q0O S.length t with
  | true=>exact fits_evO sn S t v ho
  | false =>
   obtain ⟨h0,gb⟩:0<=t/\¬ (S.length:Int)<=t:=by
    simp [q0O] at ho;omega
   have fa:t.toNat<S.length:=by omega
   have na:S[t.toNat]∈S:=y6 _;have g:(S.map typC)[t.toNat]?=some (typC S[t.toNat]):=by rw [yc,y5 fa]; rfl
   rw [y5 fa];generalize S[t.toNat]=x at *
   obtain ⟨uC,ax⟩:=hS x na;have uu:=q6G uC;simp only [Bool.not_false,Bool.true_and];by_cases hk:v.kind=x.kind
   case neg=>rw [decide_eq_false hk]; exact fits_evK sn S t x v h0 gb g hk
   rw [decide_eq_true hk];simp only [Bool.true_and];have hp:=proper_ev v (by rw [hk]; exact uu);cases hz:q3M v with
   | false=>rw [hz] at hp; exact fits_evZ sn S t x v h0 gb g hk hp
   | true =>
    rw [hz] at hp;simp only [Bool.true_and];rw [Vl.ok_def] at la;rw [Vl.i64_def] at od;obtain ⟨o1,o2,o3,o4,o5,o6⟩:=la;obtain ⟨j1,j2,j3⟩:=od;have fk:∀ u∈v.items,∀ t',evA 227 [schA sn S,.int .i64 t',.agg (valC u),.bool true] (.bool (fitN S n t' u)):=fun u hu t'=>ih t' u (by have:=Vl.items_lt v u hu; omega) (o6 u hu) (j3 u hu)
    have xg:∀ u∈v.keys,∀ t',evA 227 [schA sn S,.int .i64 t',.agg (valC u),.bool true] (.bool (fitN S n t' u)):=fun u hu t'=>ih t' u (by have:=Vl.keys_lt v u hu; omega) (o5 u hu) (j2 u hu)
    have zb:x.mems.length<=9223372036854775807:=ax.1.2.1;have gu:x.syms.length<=9223372036854775807:=ax.1.1;unfold fitK;have hv:=hk;rcases kinds x.kind with e | e | e | e | e | e | e | e | e | e
    all_goals try rw [e] at hv
    ·have r:=fits_ev1 sn S t x v (fitN S n) h0 gb g e hv hp; simpa [e] using r
    ·have r:=fits_ev2 sn S t x v (fitN S n) h0 gb g e hv hp; simpa [e] using r
    ·have r:=fits_ev3 sn S t x v (fitN S n) h0 gb g e hv hp; simpa [e] using r
    ·have r:=fits_ev4 sn S t x v (fitN S n) h0 gb g e hv hp (sym_ev x v.id gu); simpa [e] using r
    ·have r:=fits_ev5 sn S t x v (fitN S n) h0 gb g e hv hp zb (fun m _ u hu=>fk u hu m.ty); simpa [e] using r
    ·have r:=fits_ev6 sn S t x v (fitN S n) h0 gb g e hv hp (mem_ev x v.id zb) (fun m _ u hu=>fk u hu m.ty); simpa [e] using r
    ·have r:=fits_ev7 sn S t x v (fitN S n) h0 gb g e hv hp (each_ev sn S x.elem (fitN S n x.elem) v.items o2 v.xn fun u hu=>fk u hu x.elem); simpa [e] using r
    ·have r:=fits_ev8 sn S t x v (fitN S n) h0 gb g e hv hp (by simp [q3M,hv] at hz; simp [hz]) (good_max uC e) (fun u hu=>((Vl.i64_def u).1 (j2 u hu)).1) (each_ev sn S x.elem (fitN S n x.elem) v.items o2 v.xn fun u hu=>fk u hu x.elem) (each_ev sn S x.key (fitN S n x.key) v.keys o1 v.kn fun u hu=>xg u hu x.key); simpa [e] using r
    ·have r:=fits_ev9 sn S t x v (fitN S n) h0 gb g e hv hp (each_ev sn S x.elem (fitN S n x.elem) v.items o2 v.xn fun u hu=>fk u hu x.elem); simpa [e] using r
    ·exact absurd uu e
end
theorem rzero_ev (v:Vl) (h:1<=v.kind/\v.kind<=9):evA 182 [.agg (valC v)] (.bool (q3M v)):=by
 rcases kinds v.kind with e | e | e | e | e | e | e | e | e | e
 ·exact rzero_ev1 v e
 ·exact rzero_ev2 v e
 ·exact rzero_ev3 v e
 ·exact rzero_ev4 v e
 ·exact rzero_ev5 v e
 ·exact rzero_ev6 v e
 ·exact rzero_ev7 v e
 ·exact rzero_ev8 v e
 ·exact rzero_ev9 v e
 ·exact absurd h e
theorem rest_ev (x:Typ) (b:Bool):evA 184 [.agg (typC x),.sl b []] (.bool true):=by
 refine q00 (c:=q6Y) rfl rfl ?_;simp [q6Y,-V,-y3,-y0,J,typC];refine q06 0 (fun i s=>(s.env 1).v=.sl b []/\(s.env 5).v=.int .i64 0) (fun e s=>e=.exit 0) (fun i hi s k h ih hk=>?_) _ _ ?_ (fun e s h=>?_)
 ·obtain ⟨e1,e5⟩:=h;refine q02 ?_;simp [q8n,-V,-y3,-y0,J,e1,e5];exact hk _ _ rfl
 ·simp
 ·subst h;simp [-V,-y3,-y0,J]
section
variable (sn:Bool) (S:List Typ)
include sn S
theorem fit_evR (t:Int) (x:Typ) (v:Vl) (h0:0<=t) (gb:¬ (S.length:Int)<=t) (g:(S.map typC)[t.toNat]?=some (typC x)) (hk:v.kind=x.kind) (hp:evA 182 [.agg (valC v)] (.bool true)) (hr:v.rest≠[]):evA 151 [schA sn S,.int .i64 t,.agg (valC v),.bool true] (.bool false):=by
 have nb:¬ t<0:=by omega
 have oh:0<v.rest.length:=by
  have:v.rest.length≠0:=fun h=>hr (yN h)
  omega
 simp only [evA,typC,q04,hk] at hp g;refine q00 (c:=q09) rfl rfl ?_;rw [q04];simp [q09,-V,-y3,-y0,J,nb,gb,h0,g,hp,hk,hr,oh]
theorem fit_evO (t:Int) (v:Vl) (h:q0O S.length t=true):evA 151 [schA sn S,.int .i64 t,.agg (valC v),.bool true] (.bool false):=by
 refine q00 (c:=q09) rfl rfl ?_;rw [q04];by_cases h0:t<0
 ·simp [q09,-V,-y3,-y0,J,h0]
 ·have h1:(S.length:Int)<=t:=by simpa [q0O,h0] using h
  simp [q09,-V,-y3,-y0,J,h0,h1]
theorem fit_evK (t:Int) (x:Typ) (v:Vl) (h0:0<=t) (gb:¬ (S.length:Int)<=t) (g:(S.map typC)[t.toNat]?=some (typC x)) (hk:¬ v.kind=x.kind):evA 151 [schA sn S,.int .i64 t,.agg (valC v),.bool true] (.bool false):=by
 have nb:¬ t<0:=by omega
 simp only [typC] at g;refine q00 (c:=q09) rfl rfl ?_;rw [q04];simp [q09,-V,-y3,-y0,J,nb,gb,h0,g,hk]
theorem fit_evZ (t:Int) (x:Typ) (v:Vl) (h0:0<=t) (gb:¬ (S.length:Int)<=t) (g:(S.map typC)[t.toNat]?=some (typC x)) (hk:v.kind=x.kind) (hp:evA 182 [.agg (valC v)] (.bool false)):evA 151 [schA sn S,.int .i64 t,.agg (valC v),.bool true] (.bool false):=by
 have nb:¬ t<0:=by omega
 simp only [evA,typC,q04,hk] at hp g;refine q00 (c:=q09) rfl rfl ?_;rw [q04];simp [q09,-V,-y3,-y0,J,nb,gb,h0,g,hp,hk]
theorem fit_ev (hS:goodS S):∀ (n:Nat) (t:Int) (v:Vl),SizeOf.sizeOf v<n->v.ok->v.i64->evA 151 [schA sn S,.int .i64 t,.agg (valC v),.bool true] (.bool (fitN S n t v)):=by
 intro n
 induction n with
 | zero=>intro t v h; omega
 | succ n ih =>
  intro t v hn la od;rw [fitN];cases ho:q0O S.length t with
  | true=>exact fit_evO sn S t v ho
  | false =>
   obtain ⟨h0,gb⟩:0<=t/\¬ (S.length:Int)<=t:=by
    simp [q0O] at ho;omega
   have fa:t.toNat<S.length:=by omega
   have na:S[t.toNat]∈S:=y6 _;have g:(S.map typC)[t.toNat]?=some (typC S[t.toNat]):=by rw [yc,y5 fa]; rfl
   rw [y5 fa];generalize S[t.toNat]=x at *
   obtain ⟨uC,ax⟩:=hS x na;have uu:=q6G uC;simp only [Bool.not_false,Bool.true_and];by_cases hk:v.kind=x.kind
   case neg=>rw [decide_eq_false hk]; exact fit_evK sn S t x v h0 gb g hk
   rw [decide_eq_true hk];simp only [Bool.true_and];have hp:=rzero_ev v (by rw [hk]; exact uu);cases hz:q3M v with
   | false=>rw [hz] at hp; exact fit_evZ sn S t x v h0 gb g hk hp
   | true =>
    rw [hz] at hp;simp only [Bool.true_and];rw [Vl.ok_def] at la;rw [Vl.i64_def] at od;obtain ⟨o1,o2,o3,o4,o5,o6⟩:=la;obtain ⟨j1,j2,j3⟩:=od;have fk:∀ u∈v.items,∀ t',evA 151 [schA sn S,.int .i64 t',.agg (valC u),.bool true] (.bool (fitN S n t' u)):=fun u hu t'=>ih t' u (by have:=Vl.items_lt v u hu; omega) (o6 u hu) (j3 u hu)
    have xg:∀ u∈v.keys,∀ t',evA 151 [schA sn S,.int .i64 t',.agg (valC u),.bool true] (.bool (fitN S n t' u)):=fun u hu t'=>ih t' u (by have:=Vl.keys_lt v u hu; omega) (o5 u hu) (j2 u hu)
    have zb:x.mems.length<=9223372036854775807:=ax.1.2.1;have gu:x.syms.length<=9223372036854775807:=ax.1.1;by_cases hr:v.rest=[]
    case neg=>rw [rest_fit _ x v hk hz hr]; exact fit_evR sn S t x v h0 gb g hk hp hr
    unfold fitK;have hv:=hk;rcases kinds x.kind with e | e | e | e | e | e | e | e | e | e
    all_goals try rw [e] at hv
    ·have r:=fit_ev1 sn S t x v (fitN S n) h0 gb g e hv hp hr; simpa [e] using r
    ·have r:=fit_ev2 sn S t x v (fitN S n) h0 gb g e hv hp hr; simpa [e] using r
    ·have r:=fit_ev3 sn S t x v (fitN S n) h0 gb g e hv hp hr; simpa [e] using r
    ·have r:=fit_ev4 sn S t x v (fitN S n) h0 gb g e hv hp hr (rsym_ev x v.id gu); simpa [e] using r
    ·have r:=fit_ev5 sn S t x v (fitN S n) h0 gb g e hv hp hr zb (rest_ev x v.rn) (fun m _ u hu=>fk u hu m.ty); simpa [e,hr] using r
    ·have r:=fit_ev6 sn S t x v (fitN S n) h0 gb g e hv hp hr (rmem_ev x v.id zb) (fun m _ u hu=>fk u hu m.ty); simpa [e] using r
    ·have r:=fit_ev7 sn S t x v (fitN S n) h0 gb g e hv hp hr (all_ev sn S x.elem (fitN S n x.elem) v.items o2 v.xn fun u hu=>fk u hu x.elem); simpa [e] using r
    ·have r:=fit_ev8 sn S t x v (fitN S n) h0 gb g e hv hp hr (good_max uC e) (fun u hu=>((Vl.i64_def u).1 (j2 u hu)).1) (all_ev sn S x.elem (fitN S n x.elem) v.items o2 v.xn fun u hu=>fk u hu x.elem) (all_ev sn S x.key (fitN S n x.key) v.keys o1 v.kn fun u hu=>xg u hu x.key); simpa [e] using r
    ·have r:=fit_ev9 sn S t x v (fitN S n) h0 gb g e hv hp hr (all_ev sn S x.elem (fitN S n x.elem) v.items o2 v.xn fun u hu=>fk u hu x.elem); simpa [e] using r
    ·exact absurd uu e
end
noncomputable def q60 (S:List Typ) (t:Int) (v:Vl):Bool:=fitN S (SizeOf.sizeOf v + 1) t v
theorem plain_v (sn:Bool) (S:List Typ) (hS:goodS S) (t:Int) (v:Vl) (la:v.ok) (od:v.i64):evA 215 [schA sn S,.int .i64 t,.agg (valC v)] (.bool (q60 S t v)):=by
 have h:=fits_ev sn S hS (SizeOf.sizeOf v + 1) t v (by omega) la od;simp only [evA,q04] at h ⊢;refine q00 (c:=q6g) rfl rfl ?_;unfold q60;simp [q6g,-V,-y3,-y0,J,h]
theorem rplain_v (sn:Bool) (S:List Typ) (hS:goodS S) (t:Int) (v:Vl) (la:v.ok) (od:v.i64):evA 121 [schA sn S,.int .i64 t,.agg (valC v)] (.bool (q60 S t v)):=by
 have h:=fit_ev sn S hS (SizeOf.sizeOf v + 1) t v (by omega) la od;simp only [evA,q04] at h ⊢;refine q00 (c:=q67) rfl rfl ?_;unfold q60;simp [q67,-V,-y3,-y0,J,h]
theorem valid_types {l:List Typ}:∀ n i,i + n=l.length->q1Q l n i=0->∀ j,i<=j->(h:j<l.length)->q22 l j l[j]=0
 | 0,i,hi,_,j,hj,h=>by omega
 | n + 1,i,hi,h0,j,hj,h=>by
  have fa:i<l.length:=by omega
  rw [q1Q,y5 fa] at h0;simp only at h0;by_cases he:q22 l i l[i]=0
  ·rw [if_pos he] at h0;rcases Nat.lt_or_eq_of_le hj with h1 | h1
   ·exact valid_types n (i + 1) (by omega) h0 j h1 h
   ·subst h1; exact he
  ·rw [if_neg he] at h0; exact absurd h0 he
theorem q4W {l:List Typ} {i:Nat} {t:Typ} (h:q22 l i t=0):q0L t=true/\t.usesL.any (q0O l.length)=false:=by
 unfold q22 at h;by_cases h1:q0L t=false
 ·rw [if_pos h1] at h; cases h
 ·rw [if_neg h1] at h;refine ⟨by simpa using h1,?_⟩;by_cases h2:t.named=true/\t.name∈(l.take i).map Typ.name
  ·rw [if_pos h2] at h; cases h
  ·rw [if_neg h2] at h;by_cases h3:t.usesL.any (q0O l.length)=true
   ·rw [if_pos h3] at h; cases h
   ·simpa using h3
theorem q3E {l:List Typ} (h:valid l=0) (j:Nat) (hj:j<l.length):q22 l j l[j]=0:=by
 unfold valid at h;by_cases nu:32<l.length
 ·rw [if_pos nu] at h; cases h
 ·rw [if_neg nu] at h;exact valid_types l.length 0 (by omega) h j (by omega) hj
theorem q8V {s:Sch} (hs:s.fine) (h:valid s.types=0):goodS s.types:=fun x hx=>by
 obtain ⟨j,hj,rfl⟩:=yx hx;exact ⟨(q4W (q3E h j hj)).1,hs.2 _ hx⟩
noncomputable def badM (S:List Typ) (m:Mem):Bool:=m.has&&!q60 S m.ty m.dflt
noncomputable def q7d (S:List Typ) (t:Typ):Option Int:=(t.mems.find? (badM S)).map Mem.id
noncomputable def q2k (S:List Typ):Nat->Nat->Option (Nat × Int)
 | 0,_=>none
 | n + 1,i=>match S[i]? with
  | some t=>(match q7d S t with
   | some d=>some (i,d)
   | none=>q2k S n (i + 1))
  | none=>none
def dfltA:Option (Nat × Int)->AV
 | some (i,d)=>.tup [.int .i64 i,.int .i64 d,.int .i64 1]
 | none=>.tup [.int .i64 0,.int .i64 0,.int .i64 0]
noncomputable def dfltsA (S:List Typ):AV:=if valid S=0 then dfltA (q2k S S.length 0) else .tup [.int .i64 0,.int .i64 0,.int .i64 (valid S)]
def Typ.d64 (t:Typ):Prop:=∀ m∈t.mems,m.dflt.i64
def Sch.d64 (s:Sch):Prop:=∀ t∈s.types,t.d64
theorem dflts_step {S:List Typ} {i:Nat} (h:i<S.length):q2k S (S.length - i) i=match q7d S S[i] with
  | some d=>some (i,d)
  | none=>q2k S (S.length - (i + 1)) (i + 1):=by
 rw [show S.length - i=(S.length - (i + 1)) + 1 from by omega,q2k,y5 h]
theorem dlp (sn:Bool) (S:List Typ) (hS:goodS S) (t:Typ) (ht:t.fine) (od:t.d64) (b:Bool) (i:Nat) (r:RV) (P:MSt->Prop) (hP:∀ s s':MSt,(∀ t n,t≠9->s'.mem t n=s.mem t n)->(∀ t,t ∉ [2,3,4,9,27,28,29,30,31,32,33,34,35,36,37,38,39,40,41,42,43,44,26]->s'.env t=s.env t)->P s->P s') (k:Ex->MSt->Option RV)
  (hk:∀ s',q7d S t=none->P s'->k (.exit 2) s'=some r) (hr:∀ (s':MSt) d,q7d S t=some d->(s'.env 2).v=.int .i64 i->(s'.env 3).v=.int .i64 d->(s'.env 4).v=.int .i64 1->k .ret s'=some r)
  (s:MSt) (hs:P s) (h1:(s.env 1).v=.ptr 1 1 0) (m1:s.mem 1 1=some [⟨.sl sn (S.map typC),.no⟩]) (h6:(s.env 6).v=.int .i64 i) (mM:(s.env 24).v=.sl b (t.mems.map memC)) (nM:(s.env 25).v=.int .i64 t.mems.length) (xB:(s.env 26).v=.int .i64 0):evL allT q01 q1l s k=some r:=by
 refine q06 t.mems.length (fun j s=>P s/\(s.env 1).v=.ptr 1 1 0/\s.mem 1 1=some [⟨.sl sn (S.map typC),.no⟩]/\(s.env 6).v=.int .i64 i/\(s.env 24).v=.sl b (t.mems.map memC)/\(s.env 25).v=.int .i64 t.mems.length/\(s.env 26).v=.int .i64 j/\(t.mems.drop j).find? (badM S)=t.mems.find? (badM S))
  (fun e s=>(e=.exit 2/\q7d S t=none/\P s)\/(e=.ret/\∃ d,q7d S t=some d/\(s.env 2).v=.int .i64 i/\(s.env 3).v=.int .i64 d/\(s.env 4).v=.int .i64 1)) (fun j hj s k h ih hk=>?_) _ _ ?_ (fun e s h=>?_)
 ·obtain ⟨hp,e1,m1,e6,iE,pB,xw,hs⟩:=h;refine q02 ?_;by_cases fa:j<t.mems.length
  ·have ga:(j:Int)<t.mems.length:=by omega
   have g1:(t.mems.map memC)[j]?=some (memC t.mems[j]):=by simp [fa]
   have hw:=q0s (i:=j) (by have:=ht.2.2; omega);have dp:=plain_v sn S hS t.mems[j].ty t.mems[j].dflt (ht.1.2.2 _ (y6 _)).1 (od _ (y6 _));rw [y9 fa,List.find?_cons] at hs;generalize t.mems[j]=m at *
   simp only [memC] at g1;simp only [evA,q04] at dp;have bad:badM S m=true->q7d S t=some m.id:=fun h=>by unfold q7d; rw [<- hs,h]; rfl
   have good:badM S m=false->(t.mems.drop (j + 1)).find? (badM S)=t.mems.find? (badM S):=fun h=>by rw [<- hs,h]
   have nxt:∀ s':MSt,(∀ t n,t≠9->s'.mem t n=s.mem t n)->(∀ t,t ∉ [2,3,4,9,27,28,29,30,31,32,33,34,35,36,37,38,39,40,41,42,43,44,26]->s'.env t=s.env t)->(s'.env 26).v=.int .i64 ((j + 1:Nat):Int)->badM S m=false->evL allT q01 q1l s' k=some r:=fun s' hm he xB hb=>by
    refine ih fa _ ⟨hP s s' hm he hp,?_,?_,?_,?_,?_,xB,good hb⟩
    ·rw [he 1 (by decide)]; exact e1
    ·rw [hm 1 1 (by decide)]; exact m1
    ·rw [he 6 (by decide)]; exact e6
    ·rw [he 24 (by decide)]; exact iE
    ·rw [he 25 (by decide)]; exact pB
   cases hh:m.has with
   | false =>
    simp [q1l,-V,-y3,-y0,J,e1,m1,e6,iE,pB,xw,ga,g1,hh,hw];refine nxt _ ?_ ?_ ?_ (by simp [badM,hh])
    ·intro t n ht; simp [q0B,ht]
    ·intro t ht;simp only [yf,yG,or_false,not_or] at ht;simp [q4i,ht]
    ·simp
   | true =>
    cases cw:q60 S m.ty m.dflt with
    | true =>
     rw [cw] at dp;simp [q1l,-V,-y3,-y0,J,e1,m1,e6,iE,pB,xw,ga,g1,hh,dp,hw];refine nxt _ ?_ ?_ ?_ (by simp [badM,hh,cw])
     ·intro t n ht; simp [q0B,ht]
     ·intro t ht;simp only [yf,yG,or_false,not_or] at ht;simp [q4i,ht]
     ·simp
    | false =>
     rw [cw] at dp;simp [q1l,-V,-y3,-y0,J,e1,m1,e6,iE,pB,xw,ga,g1,hh,dp];exact hk _ _ (.inr ⟨rfl,m.id,bad (by simp [badM,hh,cw]),by simp,by simp,by simp⟩)
  ·have ga:¬ (j:Int)<t.mems.length:=by omega
   simp [q1l,-V,-y3,-y0,J,pB,xw,ga];rw [ye (by omega)] at hs;refine hk _ _ (.inl ⟨rfl,by unfold q7d; rw [<- hs]; rfl,hP s _ ?_ ?_ hp⟩)
   ·intro t n _; rfl
   ·intro t ht;simp only [yf,yG,or_false,not_or] at ht;simp [q4i,ht]
 ·simp [hs,h1,m1,h6,mM,nM,xB]
 ·rcases h with ⟨rfl,h1,h2⟩ | ⟨rfl,d,h1,h2,h3,h4⟩
  ·exact hk s h1 h2
  ·exact hr s d h1 h2 h3 h4
theorem dflts_ev (s:Sch) (hs:s.fine) (od:s.d64):evA 204 [.agg (schC s)] (dfltsA s.types):=by
 have hv:=valid_ev s hs;simp only [evA,schC] at hv;refine q00 (c:=q37) rfl rfl ?_;unfold dfltsA;by_cases h0:valid s.types=0
 case neg =>
  rw [if_neg h0];simp [q37,-V,-y3,-y0,J,schC,hv,h0]
 have hS:=q8V hs h0;rw [if_pos h0];rw [h0] at hv;simp [q37,-V,-y3,-y0,J,schC,hv];refine q06 s.types.length (fun i σ=>(σ.env 1).v=.ptr 1 1 0/\σ.mem 1 1=some [⟨.sl s.nl (s.types.map typC),.no⟩]/\(σ.env 16).v=.sl s.nl (s.types.map typC)/\(σ.env 17).v=.int .i64 s.types.length/\(σ.env 18).v=.int .i64 i/\q2k s.types (s.types.length - i) i=q2k s.types s.types.length 0)
  (fun e σ=>(e=.exit 0/\q2k s.types s.types.length 0=none)\/(e=.ret/\∃ j d,q2k s.types s.types.length 0=some (j,d)/\(σ.env 2).v=.int .i64 j/\(σ.env 3).v=.int .i64 d/\(σ.env 4).v=.int .i64 1)) (fun i hi σ k h ih hk=>?_) _ _ ?_ (fun e σ h=>?_)
 ·obtain ⟨e1,m1,oc,dh,lf,hd⟩:=h;refine q02 ?_;by_cases fa:i<s.types.length
  ·have ga:(i:Int)<s.types.length:=by omega
   have g1:(s.types.map typC)[i]?=some (typC s.types[i]):=by simp [fa]
   have hw:=q0s (i:=i) (by have:=hs.1; omega);have me:=hs.2 _ (y6 fa);have ez:=od _ (y6 fa);rw [dflts_step fa] at hd;generalize s.types[i]=t at *
   simp only [typC] at g1;simp [q4f,-V,-y3,-y0,J,e1,m1,oc,dh,lf,ga,g1];refine dlp s.nl s.types hS t me ez t.mn i _ (fun σ2=>(σ2.env 1).v=.ptr 1 1 0/\σ2.mem 1 1=some [⟨.sl s.nl (s.types.map typC),.no⟩]/\(σ2.env 16).v=.sl s.nl (s.types.map typC)/\(σ2.env 17).v=.int .i64 s.types.length/\(σ2.env 18).v=.int .i64 i) (fun a b hm he h=>?_) _ (fun σ2 hn h=>?_) (fun σ2 d hn q2 q3 q4=>?_) _ ⟨?_,?_,?_,?_,?_⟩ ?_ ?_ ?_ ?_ ?_ ?_
   ·rw [hm 1 1 (by decide),he 1 (by decide),he 16 (by decide),he 17 (by decide),he 18 (by decide)];exact h
   ·obtain ⟨f1,fm,f16,f17,dM⟩:=h;simp [-V,-y3,-y0,J,dM,hw];refine ih fa _ ⟨?_,?_,?_,?_,?_,by rw [<- hd,hn]⟩ <;> simp [f1,fm,f16,f17]
   ·simp [-V,-y3,-y0,J];exact hk _ _ (.inr ⟨rfl,i,d,by rw [<- hd,hn],q2,q3,q4⟩)
   all_goals simp [e1,m1,oc,dh,lf]
  ·have ga:¬ (i:Int)<s.types.length:=by omega
   simp [q4f,-V,-y3,-y0,J,dh,lf,ga];exact hk _ _ (.inl ⟨rfl,by rw [<- hd,show s.types.length - i=0 from by omega,q2k]⟩)
 ·simp
 ·rcases h with ⟨rfl,h1⟩ | ⟨rfl,j,d,h1,h2,h3,h4⟩
  ·rw [h1]; simp [-V,-y3,-y0,J,dfltA]
  ·rw [h1]; simp [-V,-y3,-y0,J,h2,h3,h4,dfltA]
theorem rdlp (sn:Bool) (S:List Typ) (hS:goodS S) (t:Typ) (ht:t.fine) (od:t.d64) (b:Bool) (i:Nat) (r:RV) (P:MSt->Prop) (hP:∀ s s':MSt,s'.mem=s.mem->(∀ t,t ∉ [2,3,4,8,27,28,29,30,31,32,33,34,35,36,37,38,39,40,41,42,43,44,45,46,47,48,49,50,51,52]->s'.env t=s.env t)->P s->P s') (k:Ex->MSt->Option RV)
  (hk:∀ s',q7d S t=none->P s'->k (.exit 2) s'=some r) (hr:∀ (s':MSt) d,q7d S t=some d->(s'.env 2).v=.int .i64 i->(s'.env 3).v=.int .i64 d->(s'.env 4).v=.int .i64 1->k .ret s'=some r)
  (s:MSt) (hs:P s) (h1:(s.env 1).v=.ptr 1 1 0) (m1:s.mem 1 1=some [⟨.sl sn (S.map typC),.no⟩]) (h6:(s.env 6).v=.int .i64 i) (h7:(s.env 7).v=.sl b (t.mems.map memC)) (h8:(s.env 8).v=.int .i64 0):evL allT q01 q1k s k=some r:=by
 refine q06 t.mems.length (fun j s=>P s/\(s.env 1).v=.ptr 1 1 0/\s.mem 1 1=some [⟨.sl sn (S.map typC),.no⟩]/\(s.env 6).v=.int .i64 i/\(s.env 7).v=.sl b (t.mems.map memC)/\(s.env 8).v=.int .i64 j/\(t.mems.drop j).find? (badM S)=t.mems.find? (badM S))
  (fun e s=>(e=.exit 2/\q7d S t=none/\P s)\/(e=.ret/\∃ d,q7d S t=some d/\(s.env 2).v=.int .i64 i/\(s.env 3).v=.int .i64 d/\(s.env 4).v=.int .i64 1)) (fun j hj s k h ih hk=>?_) _ _ ?_ (fun e s h=>?_)
 ·obtain ⟨hp,e1,m1,e6,e7,e8,hs⟩:=h;refine q02 ?_;by_cases fa:j<t.mems.length
  ·have ga:(j:Int)<t.mems.length:=by omega
   have g1:(t.mems.map memC)[j]?=some (memC t.mems[j]):=by simp [fa]
   have hw:=q0s (i:=j) (by have:=ht.2.2; omega);have dp:=rplain_v sn S hS t.mems[j].ty t.mems[j].dflt (ht.1.2.2 _ (y6 _)).1 (od _ (y6 _));rw [y9 fa,List.find?_cons] at hs;generalize t.mems[j]=m at *
   simp only [memC] at g1;simp only [evA,q04] at dp;have bad:badM S m=true->q7d S t=some m.id:=fun h=>by unfold q7d; rw [<- hs,h]; rfl
   have good:badM S m=false->(t.mems.drop (j + 1)).find? (badM S)=t.mems.find? (badM S):=fun h=>by rw [<- hs,h]
   have nxt:∀ s':MSt,s'.mem=s.mem->(∀ t,t ∉ [2,3,4,8,27,28,29,30,31,32,33,34,35,36,37,38,39,40,41,42,43,44,45,46,47,48,49,50,51,52]->s'.env t=s.env t)->(s'.env 8).v=.int .i64 ((j + 1:Nat):Int)->badM S m=false->evL allT q01 q1k s' k=some r:=fun s' hm he xB hb=>by
    refine ih fa _ ⟨hP s s' hm he hp,?_,?_,?_,?_,xB,good hb⟩
    ·rw [he 1 (by decide)]; exact e1
    ·rw [hm]; exact m1
    ·rw [he 6 (by decide)]; exact e6
    ·rw [he 7 (by decide)]; exact e7
   cases hh:m.has with
   | false =>
    simp [q1k,-V,-y3,-y0,J,e1,m1,e6,e7,e8,ga,g1,hh,hw];refine nxt _ rfl ?_ ?_ (by simp [badM,hh])
    ·intro t ht;simp only [yf,yG,or_false,not_or] at ht;simp [q4i,ht]
    ·simp
   | true =>
    cases cw:q60 S m.ty m.dflt with
    | true =>
     rw [cw] at dp;simp [q1k,-V,-y3,-y0,J,e1,m1,e6,e7,e8,ga,g1,hh,dp,hw];refine nxt _ rfl ?_ ?_ (by simp [badM,hh,cw])
     ·intro t ht;simp only [yf,yG,or_false,not_or] at ht;simp [q4i,ht]
     ·simp
    | false =>
     rw [cw] at dp;simp [q1k,-V,-y3,-y0,J,e1,m1,e6,e7,e8,ga,g1,hh,dp];exact hk _ _ (.inr ⟨rfl,m.id,bad (by simp [badM,hh,cw]),by simp,by simp,by simp⟩)
  ·have ga:¬ (j:Int)<t.mems.length:=by omega
   simp [q1k,-V,-y3,-y0,J,e7,e8,ga];rw [ye (by omega)] at hs;refine hk _ _ (.inl ⟨rfl,by unfold q7d; rw [<- hs]; rfl,hP s _ rfl ?_ hp⟩);intro t ht;simp only [yf,yG,or_false,not_or] at ht;simp [q4i,ht]
 ·simp [hs,h1,m1,h6,h7,h8]
 ·rcases h with ⟨rfl,h1,h2⟩ | ⟨rfl,d,h1,h2,h3,h4⟩
  ·exact hk s h1 h2
  ·exact hr s d h1 h2 h3 h4
theorem rdflts_ev (s:Sch) (hs:s.fine) (od:s.d64):evA 206 [.agg (schC s)] (dfltsA s.types):=by
 have hv:=rvalid_ev s hs;simp only [evA,schC] at hv;refine q00 (c:=q34) rfl rfl ?_;unfold dfltsA;by_cases h0:valid s.types=0
 case neg =>
  rw [if_neg h0];simp [q34,-V,-y3,-y0,J,schC,hv,h0]
 have hS:=q8V hs h0;rw [if_pos h0];rw [h0] at hv;simp [q34,-V,-y3,-y0,J,schC,hv];refine q06 s.types.length (fun i σ=>(σ.env 1).v=.ptr 1 1 0/\σ.mem 1 1=some [⟨.sl s.nl (s.types.map typC),.no⟩]/\(σ.env 6).v=.int .i64 i/\q2k s.types (s.types.length - i) i=q2k s.types s.types.length 0)
  (fun e σ=>(e=.exit 0/\q2k s.types s.types.length 0=none)\/(e=.ret/\∃ j d,q2k s.types s.types.length 0=some (j,d)/\(σ.env 2).v=.int .i64 j/\(σ.env 3).v=.int .i64 d/\(σ.env 4).v=.int .i64 1)) (fun i hi σ k h ih hk=>?_) _ _ ?_ (fun e σ h=>?_)
 ·obtain ⟨e1,m1,e6,hd⟩:=h;refine q02 ?_;by_cases fa:i<s.types.length
  ·have ga:(i:Int)<s.types.length:=by omega
   have g1:(s.types.map typC)[i]?=some (typC s.types[i]):=by simp [fa]
   have hw:=q0s (i:=i) (by have:=hs.1; omega);have me:=hs.2 _ (y6 fa);have ez:=od _ (y6 fa);rw [dflts_step fa] at hd;generalize s.types[i]=t at *
   simp only [typC] at g1;simp [q4c,-V,-y3,-y0,J,e1,m1,e6,ga,g1];refine rdlp s.nl s.types hS t me ez t.mn i _ (fun σ2=>(σ2.env 1).v=.ptr 1 1 0/\σ2.mem 1 1=some [⟨.sl s.nl (s.types.map typC),.no⟩]/\(σ2.env 6).v=.int .i64 i) (fun a b hm he h=>?_) _ (fun σ2 hn h=>?_) (fun σ2 d hn q2 q3 q4=>?_) _ ⟨?_,?_,?_⟩ ?_ ?_ ?_ ?_ ?_
   ·rw [hm,he 1 (by decide),he 6 (by decide)];exact h
   ·obtain ⟨f1,fm,f6⟩:=h;simp [-V,-y3,-y0,J,f6,hw];refine ih fa _ ⟨?_,?_,?_,by rw [<- hd,hn]⟩ <;> simp [f1,fm]
   ·simp [-V,-y3,-y0,J];exact hk _ _ (.inr ⟨rfl,i,d,by rw [<- hd,hn],q2,q3,q4⟩)
   all_goals simp [e1,m1,e6]
  ·have ga:¬ (i:Int)<s.types.length:=by omega
   simp [q4c,-V,-y3,-y0,J,e1,m1,e6,ga];exact hk _ _ (.inl ⟨rfl,by rw [<- hd,show s.types.length - i=0 from by omega,q2k]⟩)
 ·simp
 ·rcases h with ⟨rfl,h1⟩ | ⟨rfl,j,d,h1,h2,h3,h4⟩
  ·rw [h1]; simp [-V,-y3,-y0,J,dfltA]
  ·rw [h1]; simp [-V,-y3,-y0,J,h2,h3,h4,dfltA]
noncomputable def q39 (S:List Typ):Int:=if valid S=0 then (match q2k S S.length 0 with
 | some _=>1
 | none=>0) else valid S
theorem dfltsA_ne {S:List Typ} (h:valid S=0):∃ i d,dfltsA S=.tup [.int .i64 i,.int .i64 d,.int .i64 (q39 S)]:=by
 unfold dfltsA q39;rw [if_pos h,if_pos h];cases q2k S S.length 0 with
 | none=>exact ⟨_,_,rfl⟩
 | some p=>exact ⟨_,_,rfl⟩
theorem right_ev (s:Sch) (hs:s.fine) (od:s.d64):evA 173 [.agg (schC s)] (.int .i64 (q39 s.types)):=by
 have hv:=valid_ev s hs;have hd:=dflts_ev s hs od;refine q00 (c:=q3t) rfl rfl ?_;simp only [evA,schC] at hv hd;by_cases h0:valid s.types=0
 ·obtain ⟨i,d,hA⟩:=dfltsA_ne h0;rw [hA] at hd;rw [h0] at hv;simp [q3t,-V,-y3,-y0,J,schC,hv,hd]
 ·unfold q39;rw [if_neg h0];simp [q3t,-V,-y3,-y0,J,schC,hv,h0]
theorem rerror_ev (s:Sch) (hs:s.fine) (od:s.d64):evA 175 [.agg (schC s)] (.int .i64 (q39 s.types)):=by
 have hv:=rvalid_ev s hs;have hd:=rdflts_ev s hs od;refine q00 (c:=q4F) rfl rfl ?_;simp only [evA,schC] at hv hd;by_cases h0:valid s.types=0
 ·obtain ⟨i,d,hA⟩:=dfltsA_ne h0;rw [hA] at hd;rw [h0] at hv;simp [q4F,-V,-y3,-y0,J,schC,hv,hd]
 ·unfold q39;rw [if_neg h0];simp [q4F,-V,-y3,-y0,J,schC,hv,h0]
end Go.Proofs.YtbnlmgncbgaepaaGreat
