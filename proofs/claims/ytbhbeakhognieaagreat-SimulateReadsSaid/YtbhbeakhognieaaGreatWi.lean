/- A part of the proof. -/
import Derived.Test.YtbhbeakhognieaaGreatWh
set_option linter.all false
set_option maxRecDepth 100000
set_option maxHeartbeats 8000000
open Option renaming bind_some → J
open List renaming range_succ → y0, map_map → y3, getElem?_eq_getElem → y5, getElem_mem → y8, drop_eq_getElem_cons → yb, getElem?_map → yc, map_cons → yf, mem_cons → yg, mem_of_getElem? → yh, drop_eq_nil_of_le → yk, map_nil → ym, getElem_of_mem → yq, eq_nil_of_length_eq_zero → yM, not_mem_nil → yP
open Int renaming toNat_lt → y4
namespace Go.Proofs.YtbhbeakhognieaaGreat
open Go
section
variable (sn:Bool) (S:List pA) (t:Int) (x:pA) (v:Vl) (f:Int->Vl->Bool) (h0:0<=t) (gb:¬ (S.length:Int)<=t) (g:(S.map eA)[t.toNat]?=some (eA x))
include sn S t x v f h0 gb g
theorem fit_ev1 (hk:x.kind=1) (hv:v.kind=1) (hp:gA 175 [.agg (fA v)] (.bool true)) (hr:v.rest=[]):gA 130 [QD sn S,.int .i64 t,.agg (fA v),.bool true] (.bool (true)):=by
 have rb:¬ t<0:=by omega
 simp only [gA,eA,qA,hk,hv] at hp g;refine rA (c:=mA) rfl rfl ?_;rw [qA];simp only [hr,ym] at hp ⊢;simp [mA,-J,-y4,-y3,y0,rb,gb,h0,g,hp,hk,hv,hr]
theorem fit_ev2 (hk:x.kind=2) (hv:v.kind=2) (hp:gA 175 [.agg (fA v)] (.bool true)) (hr:v.rest=[]):gA 130 [QD sn S,.int .i64 t,.agg (fA v),.bool true] (.bool (decide (x.low<=v.i)&&decide (v.i<=x.high))):=by
 have rb:¬ t<0:=by omega
 simp only [gA,eA,qA,hk,hv] at hp g;refine rA (c:=mA) rfl rfl ?_;rw [qA];simp only [hr,ym] at hp ⊢;by_cases c1:x.low<=v.i
 ·simp [mA,-J,-y4,-y3,y0,rb,gb,h0,g,hp,hk,hv,hr,c1]
 ·simp [mA,-J,-y4,-y3,y0,rb,gb,h0,g,hp,hk,hv,hr,c1]
theorem fit_ev3 (hk:x.kind=3) (hv:v.kind=3) (hp:gA 175 [.agg (fA v)] (.bool true)) (hr:v.rest=[]):gA 130 [QD sn S,.int .i64 t,.agg (fA v),.bool true] (.bool (decide ((v.s.size:Int)<=x.max))):=by
 have rb:¬ t<0:=by omega
 simp only [gA,eA,qA,hk,hv] at hp g;refine rA (c:=mA) rfl rfl ?_;rw [qA];simp only [hr,ym] at hp ⊢;simp [mA,-J,-y4,-y3,y0,rb,gb,h0,g,hp,hk,hv,hr]
theorem fit_ev4 (hk:x.kind=4) (hv:v.kind=4) (hp:gA 175 [.agg (fA v)] (.bool true)) (hr:v.rest=[]) (hs:gA 98 [.agg (eA x),.int .i64 v.id] (qZ x.syms v.id)):gA 130 [QD sn S,.int .i64 t,.agg (fA v),.bool true] (.bool (decide (0<=ZF x.syms v.id))):=by
 have rb:¬ t<0:=by omega
 simp only [gA,eA,qA,hk,hv] at hp g;refine rA (c:=mA) rfl rfl ?_;rw [qA];simp only [hr,ym] at hp ⊢;simp only [gA,eA,qZ,hk] at hs;generalize ZF x.syms v.id=ix at *
 by_cases c1:0<=ix
 ·simp only [c1,decide_true] at hs;simp [mA,-J,-y4,-y3,y0,rb,gb,h0,g,hp,hk,hv,hr,hs,c1]
 ·simp only [c1,decide_false] at hs;cases ho:x.opn <;> simp only [ho] at hs g
  ·simp [mA,-J,-y4,-y3,y0,rb,gb,h0,g,hp,hk,hv,hr,hs,c1,ho]
  ·simp [mA,-J,-y4,-y3,y0,rb,gb,h0,g,hp,hk,hv,hr,hs,c1,ho]
theorem fit_ev7 (hk:x.kind=7) (hv:v.kind=7) (hp:gA 175 [.agg (fA v)] (.bool true)) (hr:v.rest=[]) (he:gA 178 [QD sn S,.int .i64 x.elem,.sl v.xn (v.items.map fA),.bool true] (.bool (v.items.all (f x.elem)))):gA 130 [QD sn S,.int .i64 t,.agg (fA v),.bool true] (.bool (decide ((v.items.length:Int)<=x.max)&&v.items.all (f x.elem))):=by
 have rb:¬ t<0:=by omega
 simp only [gA,eA,qA,hk,hv] at hp g;refine rA (c:=mA) rfl rfl ?_;rw [qA];simp only [hr,ym] at hp ⊢;simp only [gA] at he;generalize v.items.all (f x.elem)=E at *
 by_cases c1:(v.items.length:Int)<=x.max
 ·simp [mA,-J,-y4,-y3,y0,rb,gb,h0,g,hp,hk,hv,hr,c1,he]
 ·simp [mA,-J,-y4,-y3,y0,rb,gb,h0,g,hp,hk,hv,hr,c1]
theorem fit_ev9 (hk:x.kind=9) (hv:v.kind=9) (hp:gA 175 [.agg (fA v)] (.bool true)) (hr:v.rest=[]) (he:gA 178 [QD sn S,.int .i64 x.elem,.sl v.xn (v.items.map fA),.bool true] (.bool (v.items.all (f x.elem)))):gA 130 [QD sn S,.int .i64 t,.agg (fA v),.bool true] (.bool (decide (v.items.length<=1)&&v.items.all (f x.elem))):=by
 have rb:¬ t<0:=by omega
 simp only [gA,eA,qA,hk,hv] at hp g;refine rA (c:=mA) rfl rfl ?_;rw [qA];simp only [hr,ym] at hp ⊢;simp only [gA] at he;generalize v.items.all (f x.elem)=E at *
 by_cases c1:v.items.length<=1
 ·have c2:(v.items.length:Int)<=1:=by omega
  simp [mA,-J,-y4,-y3,y0,rb,gb,h0,g,hp,hk,hv,hr,c1,c2,he]
 ·have c2:¬ (v.items.length:Int)<=1:=by omega
  simp [mA,-J,-y4,-y3,y0,rb,gb,h0,g,hp,hk,hv,hr,c1,c2]
end
section
variable (sn:Bool) (S:List pA) (t:Int) (x:pA) (v:Vl) (f:Int->Vl->Bool) (h0:0<=t) (gb:¬ (S.length:Int)<=t) (g:(S.map eA)[t.toNat]?=some (eA x))
include sn S t x v f h0 gb g
theorem fit_ev5 (hk:x.kind=5) (hv:v.kind=5) (hp:gA 175 [.agg (fA v)] (.bool true)) (hr:v.rest=[]) (rj:x.mems.length<=9223372036854775807) (bj:gA 177 [.agg (eA x),.sl v.rn []] (.bool true)) (hf:∀ m∈x.mems,∀ u∈v.items,gA 130 [QD sn S,.int .i64 m.ty,.agg (fA u),.bool true] (.bool (f m.ty u))):gA 130 [QD sn S,.int .i64 t,.agg (fA v),.bool true] (.bool (decide (v.items.length=x.mems.length)&&BD f x.mems v.items)):=by
 have rb:¬ t<0:=by omega
 simp only [gA,eA,qA,hk,hv] at hp g;refine rA (c:=mA) rfl rfl ?_;rw [qA];simp only [hr,ym] at hp ⊢;simp only [gA,eA,hk] at bj;by_cases c1:v.items.length=x.mems.length
 ·skip
  simp [mA,-J,-y4,-y3,y0,rb,gb,h0,g,hp,hk,hv,c1,hr,bj];refine RA v.items.length (fun i s=>(s.env 3).v=.bool true/\(s.env 4).v=.ptr 4 1 0/\s.mem 4 1=some [⟨.sl sn (S.map eA),.no⟩]/\(s.env 6).v=.ptr 6 1 0/\s.mem 6 1=some ([⟨.int .i64 v.kind,.no⟩,⟨.bool v.b,.no⟩,⟨.int .i64 v.i,.no⟩,⟨.str v.s,.no⟩,⟨.int .i64 v.id,.no⟩,⟨.sl v.kn (v.keys.map fA),.no⟩,⟨.sl v.xn (v.items.map fA),.no⟩,⟨.sl v.rn (v.rest.map UJ),.no⟩])/\(s.env 9).v=.ptr 9 3 0/\s.mem 9 3=some (sA x)/\(s.env 12).v=.int .i64 i/\BD f (x.mems.drop i) (v.items.drop i)=BD f x.mems v.items)
   (fun e s=>(e=.exit 1/\BD f x.mems v.items=true)\/(e=.ret/\BD f x.mems v.items=false/\(s.env 8).v=.bool false)) (fun i hi s k h ih zc=>?_) _ _ ?_ (fun e s h=>?_)
  ·obtain ⟨e3,e4,m4,e6,m6,e9,m9,e12,hs⟩:=h;refine iA ?_;by_cases ci:i<v.items.length
   ·have ga:(i:Int)<v.items.length:=by omega
    have fa:i<x.mems.length:=by omega
    have g1:(x.mems.map nA)[i]?=some (nA x.mems[i]):=by simp [fa]
    have g2:(v.items.map fA)[i]?=some (fA v.items[i]):=by simp [ci]
    have hw:=WB (i:=i);have hx:=hf x.mems[i] (y8 _) v.items[i] (y8 _);rw [yb fa,yb ci,BD] at hs;generalize x.mems[i]=m at *
    generalize v.items[i]=u at *
    simp only [gA,nA,qA] at g1 g2 hx;cases tq:f m.ty u with
    | true =>
     rw [tq] at hx hs;simp [rJ,-J,-y4,-y3,y0,e3,e4,m4,e6,m6,e9,m9,e12,ga,g1,g2,hx,hw];refine ih ci _ ⟨?_,?_,?_,?_,?_,?_,?_,?_,by simpa using hs⟩ <;> simp [e3,e4,m4,e6,m6,e9,m9]
    | false =>
     rw [tq] at hx hs;simp [rJ,-J,-y4,-y3,y0,e3,e4,m4,e6,m6,e9,m9,e12,ga,g1,g2,hx];exact zc _ _ (.inr ⟨rfl,by rw [<- hs]; rfl,by simp⟩)
   ·have ga:¬ (i:Int)<v.items.length:=by omega
    simp [rJ,-J,-y4,-y3,y0,e6,m6,e12,ga];have hd:x.mems.drop i=[]:=yk (by omega);rw [hd,BD] at hs
    ·exact zc _ _ (.inl ⟨rfl,hs.symm⟩)
    ·intro m r v' q h; cases h
  ·simp [hk,hv,hr]
  ·rcases h with ⟨rfl,h1⟩ | ⟨rfl,h1,h2⟩
   ·simp [-J,-y4,-y3,y0,h1]
   ·simp [-J,-y4,-y3,y0,h1,h2]
 ·have th:¬ (v.items.length:Int)=x.mems.length:=by omega
  simp [mA,-J,-y4,-y3,y0,rb,gb,h0,g,hp,hk,hv,hr,c1,th]
theorem fit_ev6 (hk:x.kind=6) (hv:v.kind=6) (hp:gA 175 [.agg (fA v)] (.bool true)) (hr:v.rest=[]) (hm:gA 131 [.agg (eA x),.int .i64 v.id] (BO x.mems v.id)) (hf:∀ m∈x.mems,∀ u∈v.items,gA 130 [QD sn S,.int .i64 m.ty,.agg (fA u),.bool true] (.bool (f m.ty u))):gA 130 [QD sn S,.int .i64 t,.agg (fA v),.bool true] (.bool (uD f x.mems[(QA x.mems v.id).toNat]? (decide (0<=QA x.mems v.id)) v.rest.isEmpty v.items)):=by
 have rb:¬ t<0:=by omega
 simp only [gA,eA,qA,hk,hv] at hp g;refine rA (c:=mA) rfl rfl ?_;rw [qA];simp only [hr,ym] at hp ⊢;simp only [gA,eA,BO,hk] at hm;have cu:=EI (fun m:zB=>decide (m.id=v.id)) x.mems;have uf:=qF (fun m:zB=>decide (m.id=v.id)) x.mems;change QA x.mems v.id≠-1->_ at cu;change -1<=QA x.mems v.id at uf;change ∀ h:QA x.mems v.id≠-1,∃ y,x.mems[(QA x.mems v.id).toNat]?=some y/\_ at cu;generalize QA x.mems v.id=ix at *
 by_cases c1:0<=ix
 ·simp only [c1,decide_true] at hm;obtain ⟨m,pj,_⟩:=cu (by omega);have jf:max ix 0=ix:=Int.max_eq_left c1;rw [jf] at hm;have g2:(x.mems.map nA)[ix.toNat]?=some (nA m):=by rw [yc,pj]; rfl
  simp only [nA] at g2;rw [pj];by_cases c2:v.items.length=1
  ·obtain ⟨u,hu⟩:=List.length_eq_one_iff.1 c2;have hf:=hf m (yh pj) u (by rw [hu]; simp);simp only [gA,qA] at hf;rw [hu] at hp ⊢;simp only [qA,yf,ym] at hp;simp [mA,-J,-y4,-y3,y0,rb,gb,h0,g,hp,hk,hv,hr,hm,g2,c1,hf,qA,uD]
  ·have gl:¬ (v.items.length:Int)=1:=by omega
   rw [mJ _ _ _ _ _ c2];simp [mA,-J,-y4,-y3,y0,rb,gb,h0,g,hp,hk,hv,hr,hm,g2,c1,gl]
 ·simp only [c1,decide_false] at hm;rw [decide_eq_false c1,JV];cases ho:x.opn <;> simp only [ho] at hm g
  ·simp [mA,-J,-y4,-y3,y0,rb,gb,h0,g,hp,hk,hv,hr,hm,ho]
  ·simp [mA,-J,-y4,-y3,y0,rb,gb,h0,g,hp,hk,hv,hr,hm,ho]
theorem fit_ev8 (hk:x.kind=8) (hv:v.kind=8) (hp:gA 175 [.agg (fA v)] (.bool true)) (hr:v.rest=[]) (jf:x.max<=50) (au:∀ k∈v.keys,zH k.i) (he:gA 178 [QD sn S,.int .i64 x.elem,.sl v.xn (v.items.map fA),.bool true] (.bool (v.items.all (f x.elem)))) (kg:gA 178 [QD sn S,.int .i64 x.key,.sl v.kn (v.keys.map fA),.bool true] (.bool (v.keys.all (f x.key)))):gA 130 [QD sn S,.int .i64 t,.agg (fA v),.bool true] (.bool (decide ((v.keys.length:Int)<=x.max)&&decide (v.items.length=v.keys.length)&&v.keys.all (f x.key)&&BG v.keys&&v.items.all (f x.elem))):=by
 have rb:¬ t<0:=by omega
 simp only [gA,eA,qA,hk,hv] at hp g;refine rA (c:=mA) rfl rfl ?_;rw [qA];simp only [hr,ym] at hp ⊢;simp only [gA] at he kg;generalize v.items.all (f x.elem)=E at *
 generalize v.keys.all (f x.key)=KE at *
 by_cases c1:x.max<v.keys.length
 ·have th:¬ (v.keys.length:Int)<=x.max:=by omega
  simp [mA,-J,-y4,-y3,y0,rb,gb,h0,g,hp,hk,hv,hr,c1,th]
 have th:(v.keys.length:Int)<=x.max:=by omega
 have lg:v.keys.length<=50:=by omega
 by_cases c2:v.items.length=v.keys.length
 case neg =>
  have gl:¬ (v.items.length:Int)=v.keys.length:=by omega
  simp [mA,-J,-y4,-y3,y0,rb,gb,h0,g,hp,hk,hv,hr,c1,th,c2,gl]
 cases KE with
 | false=>simp [mA,-J,-y4,-y3,y0,rb,gb,h0,g,hp,hk,hv,hr,c1,th,c2,kg]
 | true =>
  cases E with
  | false=>simp [mA,-J,-y4,-y3,y0,rb,gb,h0,g,hp,hk,hv,hr,c1,th,c2,kg,he]
  | true =>
  simp [mA,-J,-y4,-y3,y0,rb,gb,h0,g,hp,hk,hv,hr,c1,th,c2,kg,he];refine RA (v.keys.length - 1) (fun i s=>(s.env 6).v=.ptr 6 1 0/\s.mem 6 1=some (OA v)/\(s.env 15).v=.int .i64 ((i + 1:Nat):Int)/\BG (v.keys.drop i)=BG v.keys)
   (fun e s=>(e=.exit 3/\BG v.keys=true)\/(e=.ret/\BG v.keys=false/\(s.env 8).v=.bool false)) (fun i hi s k h ih zc=>?_) _ _ ?_ (fun e s h=>?_)
  ·obtain ⟨e6,m6,uh,hs⟩:=h;refine iA ?_;by_cases fa:i<v.keys.length - 1
   ·have aw:i<v.keys.length:=by omega
    have gq:i + 1<v.keys.length:=by omega
    have hx:=JY v.keys[i] v.keys[i + 1] (au _ (y8 _)) (au _ (y8 _));have g1:(v.keys.map fA)[i]?=some (fA v.keys[i]):=by simp [aw]
    have g2:(v.keys.map fA)[i + 1]?=some (fA v.keys[i + 1]):=by simp [gq]
    rw [yb aw,yb gq,BG] at hs;have cj:(decide (IJ v.keys[i] v.keys[i + 1]<0)&&BG (v.keys.drop (i + 1)))=BG v.keys:=by rw [<- hs,yb gq]
    clear hs;generalize v.keys[i]=a at *
    generalize v.keys[i + 1]=b at *
    obtain ⟨z,hz⟩:∃ z:Int,z=((i + 1:Nat):Int):=⟨_,rfl⟩;obtain ⟨y,hy⟩:∃ y:Int,y=(i:Int):=⟨_,rfl⟩;rw [<- hz] at uh;have ic:0<=z:=by omega
    have ij:0<=y:=by omega
    have uk:z<v.keys.length:=by omega
    have ux:IntKind.i64.wrap (z - 1)=y:=by rw [IntWalk.i64_in _ (by omega)]; omega
    have zn:IntKind.i64.wrap (z + 1)=((i + 1 + 1:Nat):Int):=by rw [IntWalk.i64_in _ (by omega)]; omega
    rw [show i=y.toNat from by omega] at g1;rw [show i + 1=z.toNat from by omega] at g2;simp only [gA,qA] at g1 g2 hx;by_cases hc:IJ a b<0
    ·have ae:¬ 0<=IJ a b:=by omega
     simp [eJ,-J,-y4,-y3,y0,e6,m6,uh,uk,ic,ij,ux,g1,g2,hx,ae,zn];refine ih fa _ ⟨?_,?_,?_,by rw [<- cj,decide_eq_true hc]; rfl⟩ <;> simp [e6,m6]
    ·have ae:0<=IJ a b:=by omega
     simp [eJ,-J,-y4,-y3,y0,e6,m6,uh,uk,ic,ij,ux,g1,g2,hx,ae];exact zc _ _ (.inr ⟨rfl,by rw [<- cj,decide_eq_false hc]; rfl,by simp⟩)
   ·obtain ⟨z,hz⟩:∃ z:Int,z=((i + 1:Nat):Int):=⟨_,rfl⟩;rw [<- hz] at uh;have uk:¬ z<v.keys.length:=by omega
    have hasc:BG (v.keys.drop i)=true:=by
     match hd:v.keys.drop i with
     | []=>rfl
     | [_]=>rfl
     | a :: b :: r=>have:=congrArg List.length hd; simp at this; omega
    rw [hasc] at hs;simp [eJ,-J,-y4,-y3,y0,e6,m6,uh,uk];exact zc _ _ (.inl ⟨rfl,hs.symm⟩)
  ·simp [hv,hr]
  ·rcases h with ⟨rfl,h1⟩ | ⟨rfl,h1,h2⟩
   ·simp [-J,-y4,-y3,y0,h1]
   ·simp [-J,-y4,-y3,y0,h1,h2]
end
section
variable (sn:Bool) (S:List pA) (t:Int) (x:pA) (v:Vl) (f:Int->Vl->Bool) (h0:0<=t) (gb:¬ (S.length:Int)<=t) (g:(S.map eA)[t.toNat]?=some (eA x))
include sn S t x v f h0 gb g
theorem fits_ev1 (hk:x.kind=1) (hv:v.kind=1) (hp:gA 207 [.agg (fA v)] (.bool true)):gA 165 [QD sn S,.int .i64 t,.agg (fA v),.bool true] (.bool (true)):=by
 have rb:¬ t<0:=by omega
 simp only [gA,eA,qA,hk,hv] at hp g;refine rA (c:=zA) rfl rfl ?_;rw [qA];simp [zA,-J,-y4,-y3,y0,rb,gb,h0,g,hp,hk,hv]
theorem fits_ev2 (hk:x.kind=2) (hv:v.kind=2) (hp:gA 207 [.agg (fA v)] (.bool true)):gA 165 [QD sn S,.int .i64 t,.agg (fA v),.bool true] (.bool (decide (x.low<=v.i)&&decide (v.i<=x.high))):=by
 have rb:¬ t<0:=by omega
 simp only [gA,eA,qA,hk,hv] at hp g;refine rA (c:=zA) rfl rfl ?_;rw [qA];by_cases c1:x.low<=v.i
 ·simp [zA,-J,-y4,-y3,y0,rb,gb,h0,g,hp,hk,hv,c1]
 ·simp [zA,-J,-y4,-y3,y0,rb,gb,h0,g,hp,hk,hv,c1]
theorem fits_ev3 (hk:x.kind=3) (hv:v.kind=3) (hp:gA 207 [.agg (fA v)] (.bool true)):gA 165 [QD sn S,.int .i64 t,.agg (fA v),.bool true] (.bool (decide ((v.s.size:Int)<=x.max))):=by
 have rb:¬ t<0:=by omega
 simp only [gA,eA,qA,hk,hv] at hp g;refine rA (c:=zA) rfl rfl ?_;rw [qA];simp [zA,-J,-y4,-y3,y0,rb,gb,h0,g,hp,hk,hv]
theorem fits_ev4 (hk:x.kind=4) (hv:v.kind=4) (hp:gA 207 [.agg (fA v)] (.bool true)) (hs:gA 134 [.agg (eA x),.int .i64 v.id] (qZ x.syms v.id)):gA 165 [QD sn S,.int .i64 t,.agg (fA v),.bool true] (.bool (decide (0<=ZF x.syms v.id))):=by
 have rb:¬ t<0:=by omega
 simp only [gA,eA,qA,hk,hv] at hp g;refine rA (c:=zA) rfl rfl ?_;rw [qA];simp only [gA,eA,qZ,hk] at hs;generalize ZF x.syms v.id=ix at *
 by_cases c1:0<=ix
 ·simp only [c1,decide_true] at hs;simp [zA,-J,-y4,-y3,y0,rb,gb,h0,g,hp,hk,hv,hs,c1]
 ·simp only [c1,decide_false] at hs;cases ho:x.opn <;> simp only [ho] at hs g
  ·simp [zA,-J,-y4,-y3,y0,rb,gb,h0,g,hp,hk,hv,hs,c1,ho]
  ·simp [zA,-J,-y4,-y3,y0,rb,gb,h0,g,hp,hk,hv,hs,c1,ho]
theorem fits_ev7 (hk:x.kind=7) (hv:v.kind=7) (hp:gA 207 [.agg (fA v)] (.bool true)) (he:gA 209 [QD sn S,.int .i64 x.elem,.sl v.xn (v.items.map fA),.bool true] (.bool (v.items.all (f x.elem)))):gA 165 [QD sn S,.int .i64 t,.agg (fA v),.bool true] (.bool (decide ((v.items.length:Int)<=x.max)&&v.items.all (f x.elem))):=by
 have rb:¬ t<0:=by omega
 simp only [gA,eA,qA,hk,hv] at hp g;refine rA (c:=zA) rfl rfl ?_;rw [qA];simp only [gA] at he;generalize v.items.all (f x.elem)=E at *
 by_cases c1:(v.items.length:Int)<=x.max
 ·simp [zA,-J,-y4,-y3,y0,rb,gb,h0,g,hp,hk,hv,c1,he]
 ·simp [zA,-J,-y4,-y3,y0,rb,gb,h0,g,hp,hk,hv,c1]
theorem fits_ev9 (hk:x.kind=9) (hv:v.kind=9) (hp:gA 207 [.agg (fA v)] (.bool true)) (he:gA 209 [QD sn S,.int .i64 x.elem,.sl v.xn (v.items.map fA),.bool true] (.bool (v.items.all (f x.elem)))):gA 165 [QD sn S,.int .i64 t,.agg (fA v),.bool true] (.bool (decide (v.items.length<=1)&&v.items.all (f x.elem))):=by
 have rb:¬ t<0:=by omega
 simp only [gA,eA,qA,hk,hv] at hp g;refine rA (c:=zA) rfl rfl ?_;rw [qA];simp only [gA] at he;generalize v.items.all (f x.elem)=E at *
 by_cases c1:v.items.length<=1
 ·have c2:(v.items.length:Int)<=1:=by omega
  simp [zA,-J,-y4,-y3,y0,rb,gb,h0,g,hp,hk,hv,c1,c2,he]
 ·have c2:¬ (v.items.length:Int)<=1:=by omega
  simp [zA,-J,-y4,-y3,y0,rb,gb,h0,g,hp,hk,hv,c1,c2]
end
section
variable (sn:Bool) (S:List pA) (t:Int) (x:pA) (v:Vl) (f:Int->Vl->Bool) (h0:0<=t) (gb:¬ (S.length:Int)<=t) (g:(S.map eA)[t.toNat]?=some (eA x))
include sn S t x v f h0 gb g
theorem fits_ev5 (hk:x.kind=5) (hv:v.kind=5) (hp:gA 207 [.agg (fA v)] (.bool true)) (rj:x.mems.length<=9223372036854775807) (hf:∀ m∈x.mems,∀ u∈v.items,gA 165 [QD sn S,.int .i64 m.ty,.agg (fA u),.bool true] (.bool (f m.ty u))):gA 165 [QD sn S,.int .i64 t,.agg (fA v),.bool true] (.bool (decide (v.items.length=x.mems.length)&&v.rest.isEmpty&&BD f x.mems v.items)):=by
 have rb:¬ t<0:=by omega
 simp only [gA,eA,qA,hk,hv] at hp g;refine rA (c:=zA) rfl rfl ?_;rw [qA];by_cases c1:v.items.length=x.mems.length
 ·by_cases c2:v.rest=[]
  case neg =>
   have gl:0<v.rest.length:=by
    have:v.rest.length≠0:=fun h=>c2 (yM h)
    omega
   simp [zA,-J,-y4,-y3,y0,rb,gb,h0,g,hp,hk,hv,c1,c2,gl]
  rw [c2] at hp ⊢;simp only [ym] at hp;simp [zA,-J,-y4,-y3,y0,rb,gb,h0,g,hp,hk,hv,c1,c2];refine iA ?_;simp [FO,-J,-y4,-y3,y0];refine RA x.mems.length (fun i s=>(s.env 3).v=.bool true/\(s.env 4).v=.ptr 4 1 0/\s.mem 4 1=some [⟨.sl sn (S.map eA),.no⟩]/\(s.env 6).v=.ptr 6 1 0/\s.mem 6 1=some ([⟨.int .i64 5,.no⟩,⟨.bool v.b,.no⟩,⟨.int .i64 v.i,.no⟩,⟨.str v.s,.no⟩,⟨.int .i64 v.id,.no⟩,⟨.sl v.kn (v.keys.map fA),.no⟩,⟨.sl v.xn (v.items.map fA),.no⟩,⟨.sl v.rn [],.no⟩])/\(s.env 150).v=.sl x.mn (x.mems.map nA)/\(s.env 151).v=.int .i64 x.mems.length/\(s.env 152).v=.int .i64 i/\BD f (x.mems.drop i) (v.items.drop i)=BD f x.mems v.items)
   (fun e s=>(e=.exit 3/\BD f x.mems v.items=true)\/(e=.ret/\BD f x.mems v.items=false/\(s.env 8).v=.bool false)) (fun i hi s k h ih zc=>?_) _ _ ?_ (fun e s h=>?_)
  ·obtain ⟨e3,e4,m4,e6,m6,mz,nw,nz,hs⟩:=h;refine iA ?_;by_cases fa:i<x.mems.length
   ·have ga:(i:Int)<x.mems.length:=by omega
    have ci:i<v.items.length:=by omega
    have g1:(x.mems.map nA)[i]?=some (nA x.mems[i]):=by simp [fa]
    have g2:(v.items.map fA)[i]?=some (fA v.items[i]):=by simp [ci]
    have hw:=WB (i:=i);have hx:=hf x.mems[i] (y8 _) v.items[i] (y8 _);rw [yb fa,yb ci,BD] at hs;generalize x.mems[i]=m at *
    generalize v.items[i]=u at *
    simp only [gA,nA,qA] at g1 g2 hx;cases tq:f m.ty u with
    | true =>
     rw [tq] at hx hs;simp [dI,-J,-y4,-y3,y0,e3,e4,m4,e6,m6,mz,nw,nz,ga,g1,g2,hx,hw];refine ih fa _ ⟨?_,?_,?_,?_,?_,?_,?_,?_,by simpa using hs⟩ <;> simp [e3,e4,m4,e6,m6,mz,nw]
    | false =>
     rw [tq] at hx hs;simp [dI,-J,-y4,-y3,y0,e3,e4,m4,e6,m6,mz,nw,nz,ga,g1,g2,hx];exact zc _ _ (.inr ⟨rfl,by rw [<- hs]; rfl,by simp⟩)
   ·have ga:¬ (i:Int)<x.mems.length:=by omega
    simp [dI,-J,-y4,-y3,y0,nw,nz,ga];rw [yk (by omega),BD] at hs
    ·exact zc _ _ (.inl ⟨rfl,hs.symm⟩)
    ·intro m r v' q h; cases h
  ·simp [-J,-y4,-y3,y0]
  ·rcases h with ⟨rfl,h1⟩ | ⟨rfl,h1,h2⟩
   ·simp [-J,-y4,-y3,y0,h1]
   ·simp [-J,-y4,-y3,y0,h1,h2]
 ·have th:¬ (v.items.length:Int)=x.mems.length:=by omega
  simp [zA,-J,-y4,-y3,y0,rb,gb,h0,g,hp,hk,hv,c1,th]
theorem fits_ev6 (hk:x.kind=6) (hv:v.kind=6) (hp:gA 207 [.agg (fA v)] (.bool true)) (hm:gA 109 [.agg (eA x),.int .i64 v.id] (BO x.mems v.id)) (hf:∀ m∈x.mems,∀ u∈v.items,gA 165 [QD sn S,.int .i64 m.ty,.agg (fA u),.bool true] (.bool (f m.ty u))):gA 165 [QD sn S,.int .i64 t,.agg (fA v),.bool true] (.bool (uD f x.mems[(QA x.mems v.id).toNat]? (decide (0<=QA x.mems v.id)) v.rest.isEmpty v.items)):=by
 have rb:¬ t<0:=by omega
 simp only [gA,eA,qA,hk,hv] at hp g;refine rA (c:=zA) rfl rfl ?_;rw [qA];simp only [gA,eA,BO,hk] at hm;have cu:=EI (fun m:zB=>decide (m.id=v.id)) x.mems;have uf:=qF (fun m:zB=>decide (m.id=v.id)) x.mems;change QA x.mems v.id≠-1->_ at cu;change -1<=QA x.mems v.id at uf;change ∀ h:QA x.mems v.id≠-1,∃ y,x.mems[(QA x.mems v.id).toNat]?=some y/\_ at cu;generalize QA x.mems v.id=ix at *
 by_cases c1:0<=ix
 ·simp only [c1,decide_true] at hm;obtain ⟨m,pj,_⟩:=cu (by omega);have jf:max ix 0=ix:=Int.max_eq_left c1;rw [jf] at hm;have g2:(x.mems.map nA)[ix.toNat]?=some (nA m):=by rw [yc,pj]; rfl
  simp only [nA] at g2;rw [pj];by_cases c2:v.items.length=1
  ·obtain ⟨u,hu⟩:=List.length_eq_one_iff.1 c2;have hf:=hf m (yh pj) u (by rw [hu]; simp);simp only [gA,qA] at hf;rw [hu] at hp ⊢;simp only [qA,yf,ym] at hp;by_cases c3:v.rest=[]
   ·rw [c3] at hp ⊢;simp only [ym] at hp;simp [zA,-J,-y4,-y3,y0,rb,gb,h0,g,hp,hk,hv,hm,g2,c1,hf,qA,uD]
   ·simp [zA,-J,-y4,-y3,y0,rb,gb,h0,g,hp,hk,hv,hm,g2,c1,c3,qA,uD]
  ·have gl:¬ (v.items.length:Int)=1:=by omega
   rw [mJ _ _ _ _ _ c2];simp [zA,-J,-y4,-y3,y0,rb,gb,h0,g,hp,hk,hv,hm,g2,c1,gl]
 ·simp only [c1,decide_false] at hm;rw [decide_eq_false c1,JV];cases ho:x.opn <;> simp only [ho] at hm g
  ·simp [zA,-J,-y4,-y3,y0,rb,gb,h0,g,hp,hk,hv,hm,ho]
  ·simp [zA,-J,-y4,-y3,y0,rb,gb,h0,g,hp,hk,hv,hm,ho]
theorem fits_ev8 (hk:x.kind=8) (hv:v.kind=8) (hp:gA 207 [.agg (fA v)] (.bool true)) (hr:v.rest=[]) (jf:x.max<=50) (au:∀ k∈v.keys,zH k.i) (he:gA 209 [QD sn S,.int .i64 x.elem,.sl v.xn (v.items.map fA),.bool true] (.bool (v.items.all (f x.elem)))) (kg:gA 209 [QD sn S,.int .i64 x.key,.sl v.kn (v.keys.map fA),.bool true] (.bool (v.keys.all (f x.key)))):gA 165 [QD sn S,.int .i64 t,.agg (fA v),.bool true] (.bool (decide ((v.keys.length:Int)<=x.max)&&decide (v.items.length=v.keys.length)&&v.keys.all (f x.key)&&BG v.keys&&v.items.all (f x.elem))):=by
 have rb:¬ t<0:=by omega
 simp only [gA,eA,qA,hk,hv] at hp g;refine rA (c:=zA) rfl rfl ?_;rw [qA];simp only [hr,ym] at hp ⊢;simp only [gA] at he kg;generalize v.items.all (f x.elem)=E at *
 generalize v.keys.all (f x.key)=KE at *
 by_cases c1:x.max<v.keys.length
 ·have th:¬ (v.keys.length:Int)<=x.max:=by omega
  simp [zA,-J,-y4,-y3,y0,rb,gb,h0,g,hp,hk,hv,hr,c1,th]
 have th:(v.keys.length:Int)<=x.max:=by omega
 have lg:v.keys.length<=50:=by omega
 by_cases c2:v.items.length=v.keys.length
 case neg =>
  have gl:¬ (v.items.length:Int)=v.keys.length:=by omega
  simp [zA,-J,-y4,-y3,y0,rb,gb,h0,g,hp,hk,hv,hr,c1,th,c2,gl]
 cases KE with
 | false=>simp [zA,-J,-y4,-y3,y0,rb,gb,h0,g,hp,hk,hv,hr,c1,th,c2,kg]
 | true =>
  simp [zA,-J,-y4,-y3,y0,rb,gb,h0,g,hp,hk,hv,hr,c1,th,c2,kg];refine RA (v.keys.length - 1) (fun i s=>(s.env 3).v=.bool true/\(s.env 4).v=.ptr 4 1 0/\s.mem 4 1=some [⟨.sl sn (S.map eA),.no⟩]/\(s.env 9).v=.ptr 9 3 0/\s.mem 9 3=some (sA x)/\(s.env 6).v=.ptr 6 1 0/\s.mem 6 1=some (OA v)/\(s.env 20).v=.int .i64 ((i + 1:Nat):Int)/\BG (v.keys.drop i)=BG v.keys)
   (fun e s=>(e=.exit 5/\BG v.keys=true/\(s.env 3).v=.bool true/\(s.env 4).v=.ptr 4 1 0/\s.mem 4 1=some [⟨.sl sn (S.map eA),.no⟩]/\(s.env 9).v=.ptr 9 3 0/\s.mem 9 3=some (sA x)/\(s.env 6).v=.ptr 6 1 0/\s.mem 6 1=some (OA v))\/(e=.ret/\BG v.keys=false/\(s.env 8).v=.bool false)) (fun i hi s k h ih zc=>?_) _ _ ?_ (fun e s h=>?_)
  ·obtain ⟨e3,e4,m4,e9,m9,e6,m6,uh,hs⟩:=h;refine iA ?_;by_cases fa:i<v.keys.length - 1
   ·have aw:i<v.keys.length:=by omega
    have gq:i + 1<v.keys.length:=by omega
    have hx:=vcmp_ev v.keys[i] v.keys[i + 1] (au _ (y8 _)) (au _ (y8 _));have g1:(v.keys.map fA)[i]?=some (fA v.keys[i]):=by simp [aw]
    have g2:(v.keys.map fA)[i + 1]?=some (fA v.keys[i + 1]):=by simp [gq]
    rw [yb aw,yb gq,BG] at hs;have cj:(decide (IJ v.keys[i] v.keys[i + 1]<0)&&BG (v.keys.drop (i + 1)))=BG v.keys:=by rw [<- hs,yb gq]
    clear hs;generalize v.keys[i]=a at *
    generalize v.keys[i + 1]=b at *
    obtain ⟨z,hz⟩:∃ z:Int,z=((i + 1:Nat):Int):=⟨_,rfl⟩;obtain ⟨y,hy⟩:∃ y:Int,y=(i:Int):=⟨_,rfl⟩;rw [<- hz] at uh;have ic:0<=z:=by omega
    have ij:0<=y:=by omega
    have uk:z<v.keys.length:=by omega
    have ux:IntKind.i64.wrap (z - 1)=y:=by rw [IntWalk.i64_in _ (by omega)]; omega
    have zn:IntKind.i64.wrap (z + 1)=((i + 1 + 1:Nat):Int):=by rw [IntWalk.i64_in _ (by omega)]; omega
    rw [show i=y.toNat from by omega] at g1;rw [show i + 1=z.toNat from by omega] at g2;simp only [gA,qA] at g1 g2 hx;by_cases hc:IJ a b<0
    ·have ae:¬ 0<=IJ a b:=by omega
     simp [sI,-J,-y4,-y3,y0,e6,m6,uh,uk,ic,ij,ux,g1,g2,hx,ae,zn];refine ih fa _ ⟨?_,?_,?_,?_,?_,?_,?_,?_,by rw [<- cj,decide_eq_true hc]; rfl⟩ <;> simp [e6,m6,e3,e4,m4,e9,m9]
    ·have ae:0<=IJ a b:=by omega
     simp [sI,-J,-y4,-y3,y0,e6,m6,uh,uk,ic,ij,ux,g1,g2,hx,ae];exact zc _ _ (.inr ⟨rfl,by rw [<- cj,decide_eq_false hc]; rfl,by simp⟩)
   ·obtain ⟨z,hz⟩:∃ z:Int,z=((i + 1:Nat):Int):=⟨_,rfl⟩;rw [<- hz] at uh;have uk:¬ z<v.keys.length:=by omega
    have hasc:BG (v.keys.drop i)=true:=by
     match hd:v.keys.drop i with
     | []=>rfl
     | [_]=>rfl
     | a :: b :: r=>have:=congrArg List.length hd; simp at this; omega
    rw [hasc] at hs;simp [sI,-J,-y4,-y3,y0,e6,m6,uh,uk];exact zc _ _ (.inl ⟨rfl,hs.symm,by simp [e3],by simp [e4],by simp [m4],by simp [e9],by simp [m9],by simp [e6],by simp [m6]⟩)
  ·simp [hk,hv,hr]
  ·rcases h with ⟨rfl,h1,e3,e4,m4,e9,m9,e6,m6⟩ | ⟨rfl,h1,h2⟩
   ·simp [-J,-y4,-y3,y0,h1,e3,e4,m4,e9,m9,e6,m6,he,hk]
   ·simp [-J,-y4,-y3,y0,h1,h2]
end
def JO (S:List pA):Prop:=∀ x∈S,dB x=true/\x.fine
theorem sX {x:pA} (h:dB x=true) (hk:x.kind=8):x.max<=50:=by
 unfold dB LG at h;simp [hk] at h;omega
theorem l8 (f:Int->Vl->Bool) (x:pA) (v:Vl) (hk:v.kind=x.kind) (hz:sC v=true) (hr:v.rest≠[]):jE f x v=false:=by
 have bj:v.rest.isEmpty=false:=by simpa using hr
 by_cases h5:x.kind=5
 ·simp [jE,h5,bj]
 ·by_cases h6:x.kind=6
  ·simp [jE,h6,bj,J8]
  ·simp [sC,hk,h5,h6,hr] at hz
section
variable (sn:Bool) (S:List pA)
include sn S
theorem fits_evO (t:Int) (v:Vl) (h:sB S.length t=true):gA 165 [QD sn S,.int .i64 t,.agg (fA v),.bool true] (.bool false):=by
 refine rA (c:=zA) rfl rfl ?_;rw [qA];by_cases h0:t<0
 ·simp [zA,-J,-y4,-y3,y0,h0]
 ·have h1:(S.length:Int)<=t:=by simpa [sB,h0] using h
  simp [zA,-J,-y4,-y3,y0,h0,h1]
theorem fits_evK (t:Int) (x:pA) (v:Vl) (h0:0<=t) (gb:¬ (S.length:Int)<=t) (g:(S.map eA)[t.toNat]?=some (eA x)) (hk:¬ v.kind=x.kind):gA 165 [QD sn S,.int .i64 t,.agg (fA v),.bool true] (.bool false):=by
 have rb:¬ t<0:=by omega
 simp only [eA] at g;refine rA (c:=zA) rfl rfl ?_;rw [qA];simp [zA,-J,-y4,-y3,y0,rb,gb,h0,g,hk]
theorem fits_evZ (t:Int) (x:pA) (v:Vl) (h0:0<=t) (gb:¬ (S.length:Int)<=t) (g:(S.map eA)[t.toNat]?=some (eA x)) (hk:v.kind=x.kind) (hp:gA 207 [.agg (fA v)] (.bool false)):gA 165 [QD sn S,.int .i64 t,.agg (fA v),.bool true] (.bool false):=by
 have rb:¬ t<0:=by omega
 simp only [gA,eA,qA,hk] at hp g;refine rA (c:=zA) rfl rfl ?_;rw [qA];simp [zA,-J,-y4,-y3,y0,rb,gb,h0,g,hp,hk]
theorem fits_ev (hS:JO S):∀ (n:Nat) (t:Int) (v:Vl),SizeOf.sizeOf v<n->v.ok->v.i64->gA 165 [QD sn S,.int .i64 t,.agg (fA v),.bool true] (.bool (kE S n t v)):=by
 intro n
 induction n with
 | zero=>intro t v h; omega
 | succ n ih =>
  intro t v hn sa de;rw [kE];cases ho:sB S.length t with
  | true=>exact fits_evO sn S t v ho
  | false =>
   obtain ⟨h0,gb⟩:0<=t/\¬ (S.length:Int)<=t:=by
    simp [sB] at ho;omega
   have fa:t.toNat<S.length:=by omega
   have la:S[t.toNat]∈S:=y8 _;have g:(S.map eA)[t.toNat]?=some (eA S[t.toNat]):=by rw [yc,y5 fa]; rfl
   rw [y5 fa];generalize S[t.toNat]=x at *
   obtain ⟨jm,eu⟩:=hS x la;have xq:=lH jm;simp only [Bool.not_false,Bool.true_and];by_cases hk:v.kind=x.kind
   case neg=>rw [decide_eq_false hk]; exact fits_evK sn S t x v h0 gb g hk
   rw [decide_eq_true hk];simp only [Bool.true_and];have hp:=proper_ev v (by rw [hk]; exact xq);cases hz:sC v with
   | false=>rw [hz] at hp; exact fits_evZ sn S t x v h0 gb g hk hp
   | true =>
    rw [hz] at hp;simp only [Bool.true_and];rw [Vl.ok_def] at sa;rw [Vl.i64_def] at de;obtain ⟨o1,o2,o3,o4,o5,o6⟩:=sa;obtain ⟨j1,j2,j3⟩:=de;have xf:∀ u∈v.items,∀ t',gA 165 [QD sn S,.int .i64 t',.agg (fA u),.bool true] (.bool (kE S n t' u)):=fun u hu t'=>ih t' u (by have:=Vl.items_lt v u hu; omega) (o6 u hu) (j3 u hu)
    have kg:∀ u∈v.keys,∀ t',gA 165 [QD sn S,.int .i64 t',.agg (fA u),.bool true] (.bool (kE S n t' u)):=fun u hu t'=>ih t' u (by have:=Vl.keys_lt v u hu; omega) (o5 u hu) (j2 u hu)
    have jd:x.mems.length<=9223372036854775807:=eu.1.2.1;have bv:x.syms.length<=9223372036854775807:=eu.1.1;unfold jE;have hv:=hk;rcases kinds x.kind with e | e | e | e | e | e | e | e | e | e
    all_goals try rw [e] at hv
    ·have r:=fits_ev1 sn S t x v (kE S n) h0 gb g e hv hp; simpa [e] using r
    ·have r:=fits_ev2 sn S t x v (kE S n) h0 gb g e hv hp; simpa [e] using r
    ·have r:=fits_ev3 sn S t x v (kE S n) h0 gb g e hv hp; simpa [e] using r
    ·have r:=fits_ev4 sn S t x v (kE S n) h0 gb g e hv hp (sym_ev x v.id bv); simpa [e] using r
    ·have r:=fits_ev5 sn S t x v (kE S n) h0 gb g e hv hp jd (fun m _ u hu=>xf u hu m.ty); simpa [e] using r
    ·have r:=fits_ev6 sn S t x v (kE S n) h0 gb g e hv hp (AX x v.id jd) (fun m _ u hu=>xf u hu m.ty); simpa [e] using r
    ·have r:=fits_ev7 sn S t x v (kE S n) h0 gb g e hv hp (xW sn S x.elem (kE S n x.elem) v.items o2 v.xn fun u hu=>xf u hu x.elem); simpa [e] using r
    ·have r:=fits_ev8 sn S t x v (kE S n) h0 gb g e hv hp (by simp [sC,hv] at hz; simp [hz]) (sX jm e) (fun u hu=>((Vl.i64_def u).1 (j2 u hu)).1) (xW sn S x.elem (kE S n x.elem) v.items o2 v.xn fun u hu=>xf u hu x.elem) (xW sn S x.key (kE S n x.key) v.keys o1 v.kn fun u hu=>kg u hu x.key); simpa [e] using r
    ·have r:=fits_ev9 sn S t x v (kE S n) h0 gb g e hv hp (xW sn S x.elem (kE S n x.elem) v.items o2 v.xn fun u hu=>xf u hu x.elem); simpa [e] using r
    ·exact absurd xq e
end
theorem rzero_ev (v:Vl) (h:1<=v.kind/\v.kind<=9):gA 175 [.agg (fA v)] (.bool (sC v)):=by
 rcases kinds v.kind with e | e | e | e | e | e | e | e | e | e
 ·exact rzero_ev1 v e
 ·exact rzero_ev2 v e
 ·exact rzero_ev3 v e
 ·exact rzero_ev4 v e
 ·exact rzero_ev5 v e
 ·exact rzero_ev6 v e
 ·exact rzero_ev7 v e
 ·exact rzero_ev8 v e
 ·exact rzero_ev9 v e
 ·exact absurd h e
theorem rest_ev (x:pA) (b:Bool):gA 177 [.agg (eA x),.sl b []] (.bool true):=by
 refine rA (c:=zL) rfl rfl ?_;simp [zL,-J,-y4,-y3,y0,eA];refine RA 0 (fun i s=>(s.env 1).v=.sl b []/\(s.env 5).v=.int .i64 0) (fun e s=>e=.exit 0) (fun i hi s k h ih hk=>?_) _ _ ?_ (fun e s h=>?_)
 ·obtain ⟨e1,e5⟩:=h;refine iA ?_;simp [SO,-J,-y4,-y3,y0,e1,e5];exact hk _ _ rfl
 ·simp
 ·subst h;simp [-J,-y4,-y3,y0]
section
variable (sn:Bool) (S:List pA) (t:Int)
include sn S t
theorem fit_evR (x:pA) (v:Vl) (h0:0<=t) (gb:¬ (S.length:Int)<=t) (g:(S.map eA)[t.toNat]?=some (eA x)) (hk:v.kind=x.kind) (hp:gA 175 [.agg (fA v)] (.bool true)) (hr:v.rest≠[]):gA 130 [QD sn S,.int .i64 t,.agg (fA v),.bool true] (.bool false):=by
 have rb:¬ t<0:=by omega
 have wi:0<v.rest.length:=by
  have:v.rest.length≠0:=fun h=>hr (yM h)
  omega
 simp only [gA,eA,qA,hk] at hp g;refine rA (c:=mA) rfl rfl ?_;rw [qA];simp [mA,-J,-y4,-y3,y0,rb,gb,h0,g,hp,hk,hr,wi]
theorem fit_evO (v:Vl) (h:sB S.length t=true):gA 130 [QD sn S,.int .i64 t,.agg (fA v),.bool true] (.bool false):=by
 refine rA (c:=mA) rfl rfl ?_;rw [qA];by_cases h0:t<0
 ·simp [mA,-J,-y4,-y3,y0,h0]
 ·have h1:(S.length:Int)<=t:=by simpa [sB,h0] using h
  simp [mA,-J,-y4,-y3,y0,h0,h1]
theorem fit_evK (x:pA) (v:Vl) (h0:0<=t) (gb:¬ (S.length:Int)<=t) (g:(S.map eA)[t.toNat]?=some (eA x)) (hk:¬ v.kind=x.kind):gA 130 [QD sn S,.int .i64 t,.agg (fA v),.bool true] (.bool false):=by
 have rb:¬ t<0:=by omega
 simp only [eA] at g;refine rA (c:=mA) rfl rfl ?_;rw [qA];simp [mA,-J,-y4,-y3,y0,rb,gb,h0,g,hk]
theorem fit_evZ (x:pA) (v:Vl) (h0:0<=t) (gb:¬ (S.length:Int)<=t) (g:(S.map eA)[t.toNat]?=some (eA x)) (hk:v.kind=x.kind) (hp:gA 175 [.agg (fA v)] (.bool false)):gA 130 [QD sn S,.int .i64 t,.agg (fA v),.bool true] (.bool false):=by
 have rb:¬ t<0:=by omega
 simp only [gA,eA,qA,hk] at hp g;refine rA (c:=mA) rfl rfl ?_;rw [qA];simp [mA,-J,-y4,-y3,y0,rb,gb,h0,g,hp,hk]
end
theorem fit_ev (sn:Bool) (S:List pA) (hS:JO S):∀ (n:Nat) (t:Int) (v:Vl),SizeOf.sizeOf v<n->v.ok->v.i64->gA 130 [QD sn S,.int .i64 t,.agg (fA v),.bool true] (.bool (kE S n t v)):=by
 intro n
 induction n with
 | zero=>intro t v h; omega
 | succ n ih =>
  intro t v hn sa de;rw [kE];cases ho:sB S.length t with
  | true=>exact fit_evO sn S t v ho
  | false =>
   obtain ⟨h0,gb⟩:0<=t/\¬ (S.length:Int)<=t:=by
    simp [sB] at ho;omega
   have fa:t.toNat<S.length:=by omega
   have la:S[t.toNat]∈S:=y8 _;have g:(S.map eA)[t.toNat]?=some (eA S[t.toNat]):=by rw [yc,y5 fa]; rfl
   rw [y5 fa];generalize S[t.toNat]=x at *
   obtain ⟨jm,eu⟩:=hS x la;have xq:=lH jm;simp only [Bool.not_false,Bool.true_and];by_cases hk:v.kind=x.kind
   case neg=>rw [decide_eq_false hk]; exact fit_evK sn S t x v h0 gb g hk
   rw [decide_eq_true hk];simp only [Bool.true_and];have hp:=rzero_ev v (by rw [hk]; exact xq);cases hz:sC v with
   | false=>rw [hz] at hp; exact fit_evZ sn S t x v h0 gb g hk hp
   | true =>
    rw [hz] at hp;simp only [Bool.true_and];rw [Vl.ok_def] at sa;rw [Vl.i64_def] at de;obtain ⟨o1,o2,o3,o4,o5,o6⟩:=sa;obtain ⟨j1,j2,j3⟩:=de;have xf:∀ u∈v.items,∀ t',gA 130 [QD sn S,.int .i64 t',.agg (fA u),.bool true] (.bool (kE S n t' u)):=fun u hu t'=>ih t' u (by have:=Vl.items_lt v u hu; omega) (o6 u hu) (j3 u hu)
    have kg:∀ u∈v.keys,∀ t',gA 130 [QD sn S,.int .i64 t',.agg (fA u),.bool true] (.bool (kE S n t' u)):=fun u hu t'=>ih t' u (by have:=Vl.keys_lt v u hu; omega) (o5 u hu) (j2 u hu)
    have jd:x.mems.length<=9223372036854775807:=eu.1.2.1;have bv:x.syms.length<=9223372036854775807:=eu.1.1;by_cases hr:v.rest=[]
    case neg=>rw [l8 _ x v hk hz hr]; exact fit_evR sn S t x v h0 gb g hk hp hr
    unfold jE;have hv:=hk;rcases kinds x.kind with e | e | e | e | e | e | e | e | e | e
    all_goals try rw [e] at hv
    ·have r:=fit_ev1 sn S t x v (kE S n) h0 gb g e hv hp hr; simpa [e] using r
    ·have r:=fit_ev2 sn S t x v (kE S n) h0 gb g e hv hp hr; simpa [e] using r
    ·have r:=fit_ev3 sn S t x v (kE S n) h0 gb g e hv hp hr; simpa [e] using r
    ·have r:=fit_ev4 sn S t x v (kE S n) h0 gb g e hv hp hr (rsym_ev x v.id bv); simpa [e] using r
    ·have r:=fit_ev5 sn S t x v (kE S n) h0 gb g e hv hp hr jd (rest_ev x v.rn) (fun m _ u hu=>xf u hu m.ty); simpa [e,hr] using r
    ·have r:=fit_ev6 sn S t x v (kE S n) h0 gb g e hv hp hr (kO x v.id jd) (fun m _ u hu=>xf u hu m.ty); simpa [e] using r
    ·have r:=fit_ev7 sn S t x v (kE S n) h0 gb g e hv hp hr (Z3 sn S x.elem (kE S n x.elem) v.items o2 v.xn fun u hu=>xf u hu x.elem); simpa [e] using r
    ·have r:=fit_ev8 sn S t x v (kE S n) h0 gb g e hv hp hr (sX jm e) (fun u hu=>((Vl.i64_def u).1 (j2 u hu)).1) (Z3 sn S x.elem (kE S n x.elem) v.items o2 v.xn fun u hu=>xf u hu x.elem) (Z3 sn S x.key (kE S n x.key) v.keys o1 v.kn fun u hu=>kg u hu x.key); simpa [e] using r
    ·have r:=fit_ev9 sn S t x v (kE S n) h0 gb g e hv hp hr (Z3 sn S x.elem (kE S n x.elem) v.items o2 v.xn fun u hu=>xf u hu x.elem); simpa [e] using r
    ·exact absurd xq e
noncomputable def QB (S:List pA) (t:Int) (v:Vl):Bool:=kE S (SizeOf.sizeOf v + 1) t v
theorem plain_v (sn:Bool) (S:List pA) (hS:JO S) (t:Int) (v:Vl) (sa:v.ok) (de:v.i64):gA 121 [QD sn S,.int .i64 t,.agg (fA v)] (.bool (QB S t v)):=by
 have h:=fits_ev sn S hS (SizeOf.sizeOf v + 1) t v (by omega) sa de;simp only [gA,qA] at h ⊢;refine rA (c:=bK) rfl rfl ?_;unfold QB;simp [bK,-J,-y4,-y3,y0,h]
theorem rplain_v (sn:Bool) (S:List pA) (hS:JO S) (t:Int) (v:Vl) (sa:v.ok) (de:v.i64):gA 96 [QD sn S,.int .i64 t,.agg (fA v)] (.bool (QB S t v)):=by
 have h:=fit_ev sn S hS (SizeOf.sizeOf v + 1) t v (by omega) sa de;simp only [gA,qA] at h ⊢;refine rA (c:=jK) rfl rfl ?_;unfold QB;simp [jK,-J,-y4,-y3,y0,h]
theorem LV {l:List pA}:∀ n i,i + n=l.length->XC l n i=0->∀ j,i<=j->(h:j<l.length)->tD l j l[j]=0
 | 0,i,hi,_,j,hj,h=>by omega
 | n + 1,i,hi,h0,j,hj,h=>by
  have fa:i<l.length:=by omega
  rw [XC,y5 fa] at h0;simp only at h0;by_cases he:tD l i l[i]=0
  ·rw [if_pos he] at h0;rcases Nat.lt_or_eq_of_le hj with h1 | h1
   ·exact LV n (i + 1) (by omega) h0 j h1 h
   ·subst h1; exact he
  ·rw [if_neg he] at h0; exact absurd h0 he
theorem AK {l:List pA} {i:Nat} {t:pA} (h:tD l i t=0):dB t=true/\t.usesL.any (sB l.length)=false:=by
 unfold tD at h;by_cases h1:dB t=false
 ·rw [if_pos h1] at h; cases h
 ·rw [if_neg h1] at h;refine ⟨by simpa using h1,?_⟩;by_cases h2:t.named=true/\t.name∈(l.take i).map pA.name
  ·rw [if_pos h2] at h; cases h
  ·rw [if_neg h2] at h;by_cases h3:t.usesL.any (sB l.length)=true
   ·rw [if_pos h3] at h; cases h
   ·simpa using h3
theorem SI {l:List pA} (h:valid l=0) (j:Nat) (hj:j<l.length):tD l j l[j]=0:=by
 unfold valid at h;by_cases wv:32<l.length
 ·rw [if_pos wv] at h; cases h
 ·rw [if_neg wv] at h;exact LV l.length 0 (by omega) h j (by omega) hj
theorem nI {s:FI} (hs:s.fine) (h:valid s.types=0):JO s.types:=fun x hx=>by
 obtain ⟨j,hj,rfl⟩:=yq hx;exact ⟨(AK (SI h j hj)).1,hs.2 _ hx⟩
noncomputable def qS (S:List pA) (m:zB):Bool:=m.has&&!QB S m.ty m.dflt
noncomputable def PK (S:List pA) (t:pA):Option Int:=(t.mems.find? (qS S)).map zB.id
noncomputable def sE (S:List pA):Nat->Nat->Option (Nat × Int)
 | 0,_=>none
 | n + 1,i=>match S[i]? with
  | some t=>(match PK S t with
   | some d=>some (i,d)
   | none=>sE S n (i + 1))
  | none=>none
def dfltA:Option (Nat × Int)->AV
 | some (i,d)=>.tup [.int .i64 i,.int .i64 d,.int .i64 1]
 | none=>.tup [.int .i64 0,.int .i64 0,.int .i64 0]
noncomputable def M3 (S:List pA):AV:=if valid S=0 then dfltA (sE S S.length 0) else .tup [.int .i64 0,.int .i64 0,.int .i64 (valid S)]
def pA.d64 (t:pA):Prop:=∀ m∈t.mems,m.dflt.i64
def FI.d64 (s:FI):Prop:=∀ t∈s.types,t.d64
theorem P9 {S:List pA} {i:Nat} (h:i<S.length):sE S (S.length - i) i=match PK S S[i] with
  | some d=>some (i,d)
  | none=>sE S (S.length - (i + 1)) (i + 1):=by
 rw [show S.length - i=(S.length - (i + 1)) + 1 from by omega,sE,y5 h]
theorem dlp (sn:Bool) (S:List pA) (hS:JO S) (t:pA) (ht:t.fine) (de:t.d64) (b:Bool) (i:Nat) (r:RV) (P:aA->Prop) (hP:∀ s s':aA,(∀ t n,t≠9->s'.mem t n=s.mem t n)->(∀ t,t ∉ [2,3,4,9,27,28,29,30,31,32,33,34,35,36,37,38,39,40,41,42,43,44,26]->s'.env t=s.env t)->P s->P s') (k:Ex->aA->Option RV)
  (hk:∀ s',PK S t=none->P s'->k (.exit 2) s'=some r) (hr:∀ (s':aA) d,PK S t=some d->(s'.env 2).v=.int .i64 i->(s'.env 3).v=.int .i64 d->(s'.env 4).v=.int .i64 1->k .ret s'=some r)
  (s:aA) (hs:P s) (h1:(s.env 1).v=.ptr 1 1 0) (m1:s.mem 1 1=some [⟨.sl sn (S.map eA),.no⟩]) (h6:(s.env 6).v=.int .i64 i) (h24:(s.env 24).v=.sl b (t.mems.map nA)) (h25:(s.env 25).v=.int .i64 t.mems.length) (h26:(s.env 26).v=.int .i64 0):WI jA tA HC s k=some r:=by
 refine RA t.mems.length (fun j s=>P s/\(s.env 1).v=.ptr 1 1 0/\s.mem 1 1=some [⟨.sl sn (S.map eA),.no⟩]/\(s.env 6).v=.int .i64 i/\(s.env 24).v=.sl b (t.mems.map nA)/\(s.env 25).v=.int .i64 t.mems.length/\(s.env 26).v=.int .i64 j/\(t.mems.drop j).find? (qS S)=t.mems.find? (qS S))
  (fun e s=>(e=.exit 2/\PK S t=none/\P s)\/(e=.ret/\∃ d,PK S t=some d/\(s.env 2).v=.int .i64 i/\(s.env 3).v=.int .i64 d/\(s.env 4).v=.int .i64 1)) (fun j hj s k h ih hk=>?_) _ _ ?_ (fun e s h=>?_)
 ·obtain ⟨hp,e1,m1,e6,e24,e25,ey,hs⟩:=h;refine iA ?_;by_cases fa:j<t.mems.length
  ·have ga:(j:Int)<t.mems.length:=by omega
   have g1:(t.mems.map nA)[j]?=some (nA t.mems[j]):=by simp [fa]
   have hw:=WB (i:=j) (by have:=ht.2.2; omega);have pd:=plain_v sn S hS t.mems[j].ty t.mems[j].dflt (ht.1.2.2 _ (y8 _)).1 (de _ (y8 _));rw [yb fa,List.find?_cons] at hs;generalize t.mems[j]=m at *
   simp only [nA] at g1;simp only [gA,qA] at pd;have bad:qS S m=true->PK S t=some m.id:=fun h=>by unfold PK; rw [<- hs,h]; rfl
   have good:qS S m=false->(t.mems.drop (j + 1)).find? (qS S)=t.mems.find? (qS S):=fun h=>by rw [<- hs,h]
   have nxt:∀ s':aA,(∀ t n,t≠9->s'.mem t n=s.mem t n)->(∀ t,t ∉ [2,3,4,9,27,28,29,30,31,32,33,34,35,36,37,38,39,40,41,42,43,44,26]->s'.env t=s.env t)->(s'.env 26).v=.int .i64 ((j + 1:Nat):Int)->qS S m=false->WI jA tA HC s' k=some r:=fun s' hm he h26 hb=>by
    refine ih fa _ ⟨hP s s' hm he hp,?_,?_,?_,?_,?_,h26,good hb⟩
    ·rw [he 1 (by decide)]; exact e1
    ·rw [hm 1 1 (by decide)]; exact m1
    ·rw [he 6 (by decide)]; exact e6
    ·rw [he 24 (by decide)]; exact e24
    ·rw [he 25 (by decide)]; exact e25
   cases hh:m.has with
   | false =>
    simp [HC,-J,-y4,-y3,y0,e1,m1,e6,e24,e25,ey,ga,g1,hh,hw];refine nxt _ ?_ ?_ ?_ (by simp [qS,hh])
    ·intro t n ht; simp [uB,ht]
    ·intro t ht;simp only [yg,yP,or_false,not_or] at ht;simp [nH,ht]
    ·simp
   | true =>
    cases hpv:QB S m.ty m.dflt with
    | true =>
     rw [hpv] at pd;simp [HC,-J,-y4,-y3,y0,e1,m1,e6,e24,e25,ey,ga,g1,hh,pd,hw];refine nxt _ ?_ ?_ ?_ (by simp [qS,hh,hpv])
     ·intro t n ht; simp [uB,ht]
     ·intro t ht;simp only [yg,yP,or_false,not_or] at ht;simp [nH,ht]
     ·simp
    | false =>
     rw [hpv] at pd;simp [HC,-J,-y4,-y3,y0,e1,m1,e6,e24,e25,ey,ga,g1,hh,pd];exact hk _ _ (.inr ⟨rfl,m.id,bad (by simp [qS,hh,hpv]),by simp,by simp,by simp⟩)
  ·have ga:¬ (j:Int)<t.mems.length:=by omega
   simp [HC,-J,-y4,-y3,y0,e25,ey,ga];rw [yk (by omega)] at hs;refine hk _ _ (.inl ⟨rfl,by unfold PK; rw [<- hs]; rfl,hP s _ ?_ ?_ hp⟩)
   ·intro t n _; rfl
   ·intro t ht;simp only [yg,yP,or_false,not_or] at ht;simp [nH,ht]
 ·simp [hs,h1,m1,h6,h24,h25,h26]
 ·rcases h with ⟨rfl,h1,h2⟩ | ⟨rfl,d,h1,h2,h3,h4⟩
  ·exact hk s h1 h2
  ·exact hr s d h1 h2 h3 h4
theorem dflts_ev (s:FI) (hs:s.fine) (de:s.d64):gA 75 [.agg (GA s)] (M3 s.types):=by
 have hv:=uZ s hs;simp only [gA,GA] at hv;refine rA (c:=FF) rfl rfl ?_;unfold M3;by_cases h0:valid s.types=0
 case neg =>
  rw [if_neg h0];simp [FF,-J,-y4,-y3,y0,GA,hv,h0]
 have hS:=nI hs h0;rw [if_pos h0];rw [h0] at hv;simp [FF,-J,-y4,-y3,y0,GA,hv];refine RA s.types.length (fun i σ=>(σ.env 1).v=.ptr 1 1 0/\σ.mem 1 1=some [⟨.sl s.nl (s.types.map eA),.no⟩]/\(σ.env 16).v=.sl s.nl (s.types.map eA)/\(σ.env 17).v=.int .i64 s.types.length/\(σ.env 18).v=.int .i64 i/\sE s.types (s.types.length - i) i=sE s.types s.types.length 0)
  (fun e σ=>(e=.exit 0/\sE s.types s.types.length 0=none)\/(e=.ret/\∃ j d,sE s.types s.types.length 0=some (j,d)/\(σ.env 2).v=.int .i64 j/\(σ.env 3).v=.int .i64 d/\(σ.env 4).v=.int .i64 1)) (fun i hi σ k h ih hk=>?_) _ _ ?_ (fun e σ h=>?_)
 ·obtain ⟨e1,m1,af,ld,xj,hd⟩:=h;refine iA ?_;by_cases fa:i<s.types.length
  ·have ga:(i:Int)<s.types.length:=by omega
   have g1:(s.types.map eA)[i]?=some (eA s.types[i]):=by simp [fa]
   have hw:=WB (i:=i) (by have:=hs.1; omega);have rg:=hs.2 _ (y8 fa);have hd64:=de _ (y8 fa);rw [P9 fa] at hd;generalize s.types[i]=t at *
   simp only [eA] at g1;simp [OH,-J,-y4,-y3,y0,e1,m1,af,ld,xj,ga,g1];refine dlp s.nl s.types hS t rg hd64 t.mn i _ (fun σ2=>(σ2.env 1).v=.ptr 1 1 0/\σ2.mem 1 1=some [⟨.sl s.nl (s.types.map eA),.no⟩]/\(σ2.env 16).v=.sl s.nl (s.types.map eA)/\(σ2.env 17).v=.int .i64 s.types.length/\(σ2.env 18).v=.int .i64 i) (fun a b hm he h=>?_) _ (fun σ2 hn h=>?_) (fun σ2 d hn q2 q3 q4=>?_) _ ⟨?_,?_,?_,?_,?_⟩ ?_ ?_ ?_ ?_ ?_ ?_
   ·rw [hm 1 1 (by decide),he 1 (by decide),he 16 (by decide),he 17 (by decide),he 18 (by decide)];exact h
   ·obtain ⟨f1,fm,f16,f17,f18⟩:=h;simp [-J,-y4,-y3,y0,f18,hw];refine ih fa _ ⟨?_,?_,?_,?_,?_,by rw [<- hd,hn]⟩ <;> simp [f1,fm,f16,f17]
   ·simp [-J,-y4,-y3,y0];exact hk _ _ (.inr ⟨rfl,i,d,by rw [<- hd,hn],q2,q3,q4⟩)
   all_goals simp [e1,m1,af,ld,xj]
  ·have ga:¬ (i:Int)<s.types.length:=by omega
   simp [OH,-J,-y4,-y3,y0,ld,xj,ga];exact hk _ _ (.inl ⟨rfl,by rw [<- hd,show s.types.length - i=0 from by omega,sE]⟩)
 ·simp
 ·rcases h with ⟨rfl,h1⟩ | ⟨rfl,j,d,h1,h2,h3,h4⟩
  ·rw [h1]; simp [-J,-y4,-y3,y0,dfltA]
  ·rw [h1]; simp [-J,-y4,-y3,y0,h2,h3,h4,dfltA]
noncomputable def bF (S:List pA):Int:=if valid S=0 then (match sE S S.length 0 with
 | some _=>1
 | none=>0) else valid S
theorem dfltsA_ne {S:List pA} (h:valid S=0):∃ i d,M3 S=.tup [.int .i64 i,.int .i64 d,.int .i64 (bF S)]:=by
 unfold M3 bF;rw [if_pos h,if_pos h];cases sE S S.length 0 with
 | none=>exact ⟨_,_,rfl⟩
 | some p=>exact ⟨_,_,rfl⟩
theorem right_ev (s:FI) (hs:s.fine) (de:s.d64):gA 41 [.agg (GA s)] (.int .i64 (bF s.types)):=by
 have hv:=uZ s hs;have hd:=dflts_ev s hs de;refine rA (c:=dG) rfl rfl ?_;simp only [gA,GA] at hv hd;by_cases h0:valid s.types=0
 ·obtain ⟨i,d,hA⟩:=dfltsA_ne h0;rw [hA] at hd;rw [h0] at hv;simp [dG,-J,-y4,-y3,y0,GA,hv,hd]
 ·unfold bF;rw [if_neg h0];simp [dG,-J,-y4,-y3,y0,GA,hv,h0]
end Go.Proofs.YtbhbeakhognieaaGreat
