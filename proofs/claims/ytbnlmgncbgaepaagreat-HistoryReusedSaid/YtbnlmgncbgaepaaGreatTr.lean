/- A part of the proof. -/
import Derived.Test.YtbnlmgncbgaepaaGreatTi
import Derived.Test.YtbnlmgncbgaepaaGreatTn
set_option linter.all false
set_option maxRecDepth 100000
set_option maxHeartbeats 8000000
open Option renaming bind_some → V
open List renaming range_succ → y0, map_map → y3, getElem?_map → ye
open Int renaming toNat_lt → y4
namespace Go.Proofs.YtbnlmgncbgaepaaGreat
open Go
theorem vclone0:fA 228 [.sl true []] (.sl true []):=by
 refine rA (c:=wG) rfl rfl ?_;simp [wG,-V,-y4,-y3,y0,CS]
def CP (w r:DH):List AV:=[.sl w.nl (w.types.map qA),.sl r.nl (r.types.map qA),.sl true [],.sl true []]
theorem pfail_ev (w r:DH):cE dA eA 216 [.undef,.undef,.ptr 0 0 0] (some (.agg (CP w r)))=some (.tup [.agg [.int .i64 0,.bool false,.int .i64 0,.str ⟨#[]⟩,.int .i64 0,.sl true [],.sl true [],.sl true []],.bool false],some (.agg (CP w r))):=by
 have hc:=vclone0;simp only [fA] at hc;refine GR QF rfl rfl ?_;simp [QF,-V,-y4,-y3,y0,RC,dF,mD,FG,tC,GL,GI,CP,hc]
theorem pparts_ev (w r:DH) (a b:Int):cE dA eA 219 [.undef,.undef,.ptr 0 0 0,.int .i64 a,.sl true [],.int .i64 b] (some (.agg (CP w r)))=some (.tup [.sl true [],.bool true],some (.agg (CP w r))):=by
 refine GR eF rfl rfl ?_;simp [eF,-V,-y4,-y3,y0,RC,dF,mD,FG,tC,GL,GI,CP];refine gA 0 (fun _ s=>(s.env 16).v=.int .i64 0/\(s.env 17).v=.int .i64 0/\(s.env 10).v=.sl true []/\s.mem 0 0=some [⟨.sl w.nl (w.types.map qA),tC (.sl w.nl (w.types.map qA))⟩,⟨.sl r.nl (r.types.map qA),tC (.sl r.nl (r.types.map qA))⟩,⟨.sl true [],.ex⟩,⟨.sl true [],.ex⟩])
  (fun e s=>e=.exit 0/\(s.env 10).v=.sl true []/\s.mem 0 0=some [⟨.sl w.nl (w.types.map qA),tC (.sl w.nl (w.types.map qA))⟩,⟨.sl r.nl (r.types.map qA),tC (.sl r.nl (r.types.map qA))⟩,⟨.sl true [],.ex⟩,⟨.sl true [],.ex⟩]) (fun i hi s k h ih hk=>?_) _ _ ?_ (fun e s h=>?_)
 ·obtain ⟨mc,je,e10,m0⟩:=h;refine tA ?_;simp [DI,-V,-y4,-y3,y0,mc,je];exact hk _ _ ⟨rfl,by simp [e10],m0⟩
 ·refine ⟨?_,?_,?_,?_⟩ <;> simp [tC]
 ·obtain ⟨rfl,e10,m0⟩:=h;simp [-V,-y4,-y3,y0,GL,GI,e10,m0]
theorem pread_ev (w r:DH) {x y:sA} {i k:Int} (hi:0<=i) (gx:w.types[i.toNat]?=some x) (hk:0<=k) (gy:r.types[k.toNat]?=some y) (fk:y.syms.length<=8796093022206) (ed:y.kind=7\/y.kind=8->0<=y.max) (jl:x.kind≠5/\x.kind≠6) (vk:Int) (vb:Bool) (vi:Int) (vs:ByteArray) (vd:Int) :
  cE dA eA 195 [.undef,.undef,.ptr 0 0 0,.int .i64 i,.agg (lA (.of vk vb vi vs vd)),.int .i64 k] (some (.agg (CP w r)))=some (.tup [.agg (lA (FM (aP x y (.of vk vb vi vs vd)) (.of vk vb vi vs vd))),.bool (aP x y (.of vk vb vi vs vd))],some (.agg (CP w r))):=by
 have g1:(w.types.map qA)[i.toNat]?=some (qA x):=by rw [ye,gx]; rfl
 have g2:(r.types.map qA)[k.toNat]?=some (qA y):=by rw [ye,gy]; rfl
 have hf:=pfail_ev w r;have hp:=fun a b=>pparts_ev w r a b
 have gb:=sym_ev y vd (by omega);obtain ⟨h5,h6⟩:=jl;simp only [fA,CP,qA,nW] at hf hp gb g1 g2;refine GR LA rfl rfl ?_;simp only [CP,JA,aP];by_cases e:x.kind=y.kind
 case neg=>simp [LA,-V,-y4,-y3,y0,RC,dF,mD,FG,tC,GL,GI,g1,g2,hi,hk,e,hf,FM,JA]
 rw [e] at h5 h6;by_cases k2:y.kind=2
 ·by_cases c1:y.low<=vi
  ·by_cases c2:vi<=y.high
   ·simp [LA,-V,-y4,-y3,y0,RC,dF,mD,FG,tC,GL,GI,g1,g2,hi,hk,e,k2,c1,c2,hp,FM,JA,of_i]
   ·simp [LA,-V,-y4,-y3,y0,RC,dF,mD,FG,tC,GL,GI,g1,g2,hi,hk,e,k2,c1,c2,hf,FM,JA,of_i]
  ·simp [LA,-V,-y4,-y3,y0,RC,dF,mD,FG,tC,GL,GI,g1,g2,hi,hk,e,k2,c1,hf,FM,JA,of_i]
 by_cases k3:y.kind=3
 ·by_cases c1:(vs.size:Int)<=y.max
  ·simp [LA,-V,-y4,-y3,y0,RC,dF,mD,FG,tC,GL,GI,g1,g2,hi,hk,e,k3,c1,hp,FM,JA,of_s]
  ·simp [LA,-V,-y4,-y3,y0,RC,dF,mD,FG,tC,GL,GI,g1,g2,hi,hk,e,k3,c1,hf,FM,JA,of_s]
 by_cases k4:y.kind=4
 ·rw [k4] at gb;by_cases c1:0<=bG y.syms vd
  ·simp only [c1,decide_true] at gb;simp [LA,-V,-y4,-y3,y0,RC,dF,mD,FG,tC,GL,GI,g1,g2,hi,hk,e,k4,c1,gb,hp,FM,JA,C1]
  ·simp only [c1,decide_false] at gb;cases ho:y.opn with
   | true =>
    rw [ho] at gb;simp [LA,-V,-y4,-y3,y0,RC,dF,mD,FG,tC,GL,GI,g1,g2,hi,hk,e,k4,c1,ho,gb,hp,FM,JA,C1]
   | false =>
    rw [ho] at gb;simp [LA,-V,-y4,-y3,y0,RC,dF,mD,FG,tC,GL,GI,g1,g2,hi,hk,e,k4,c1,ho,gb,hf,FM,JA,C1]
 by_cases k7:y.kind=7
 ·have hm:=ed (.inl k7);simp [LA,-V,-y4,-y3,y0,RC,dF,mD,FG,tC,GL,GI,g1,g2,hi,hk,e,k7,hm,hp,FM,JA]
 by_cases k8:y.kind=8
 ·have hm:=ed (.inr k8);simp [LA,-V,-y4,-y3,y0,RC,dF,mD,FG,tC,GL,GI,g1,g2,hi,hk,e,k8,hm,hp,FM,JA]
 simp [LA,-V,-y4,-y3,y0,RC,dF,mD,FG,tC,GL,GI,g1,g2,hi,hk,e,k2,k3,k4,h5,h6,k7,k8,hp,FM,JA]
end Go.Proofs.YtbnlmgncbgaepaaGreat
