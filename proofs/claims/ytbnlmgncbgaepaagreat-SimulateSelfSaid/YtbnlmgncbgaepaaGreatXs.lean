/- A part of the proof. -/
import Derived.Test.YtbnlmgncbgaepaaGreatXi
import Derived.Test.YtbnlmgncbgaepaaGreatXn
set_option linter.all false
set_option maxRecDepth 100000
set_option maxHeartbeats 8000000
open Option renaming bind_some → V
open List renaming range_succ → J, map_map → y0, getElem?_map → yc
open Int renaming toNat_lt → y3
namespace Go.Proofs.YtbnlmgncbgaepaaGreat
open Go
theorem vclone0:gA 228 [.sl true []] (.sl true []):=by
 refine wA (c:=fG) rfl rfl ?_;simp [fG,-V,-y3,-y0,J,AR]
def sP (w r:SG):List AV:=[.sl w.nl (w.types.map eA),.sl r.nl (r.types.map eA),.sl true [],.sl true []]
theorem pfail_ev (w r:SG):wH jA rA 216 [.undef,.undef,.ptr 0 0 0] (some (.agg (sP w r)))=some (.tup [.agg [.int .i64 0,.bool false,.int .i64 0,.str ⟨#[]⟩,.int .i64 0,.sl true [],.sl true [],.sl true []],.bool false],some (.agg (sP w r))):=by
 have hc:=vclone0;simp only [gA] at hc;refine SQ RF rfl rfl ?_;simp [RF,-V,-y3,-y0,J,zC,tF,bD,UG,KB,DL,JI,sP,hc]
theorem pparts_ev (w r:SG) (a b:Int):wH jA rA 219 [.undef,.undef,.ptr 0 0 0,.int .i64 a,.sl true [],.int .i64 b] (some (.agg (sP w r)))=some (.tup [.sl true [],.bool true],some (.agg (sP w r))):=by
 refine SQ fF rfl rfl ?_;simp [fF,-V,-y3,-y0,J,zC,tF,bD,UG,KB,DL,JI,sP];refine xA 0 (fun _ s=>(s.env 16).v=.int .i64 0/\(s.env 17).v=.int .i64 0/\(s.env 10).v=.sl true []/\s.mem 0 0=some [⟨.sl w.nl (w.types.map eA),KB (.sl w.nl (w.types.map eA))⟩,⟨.sl r.nl (r.types.map eA),KB (.sl r.nl (r.types.map eA))⟩,⟨.sl true [],.ex⟩,⟨.sl true [],.ex⟩])
  (fun e s=>e=.exit 0/\(s.env 10).v=.sl true []/\s.mem 0 0=some [⟨.sl w.nl (w.types.map eA),KB (.sl w.nl (w.types.map eA))⟩,⟨.sl r.nl (r.types.map eA),KB (.sl r.nl (r.types.map eA))⟩,⟨.sl true [],.ex⟩,⟨.sl true [],.ex⟩]) (fun i hi s k h ih hk=>?_) _ _ ?_ (fun e s h=>?_)
 ·obtain ⟨wd,mh,e10,m0⟩:=h;refine tA ?_;simp [HI,-V,-y3,-y0,J,wd,mh];exact hk _ _ ⟨rfl,by simp [e10],m0⟩
 ·refine ⟨?_,?_,?_,?_⟩ <;> simp [KB]
 ·obtain ⟨rfl,e10,m0⟩:=h;simp [-V,-y3,-y0,J,DL,JI,e10,m0]
theorem pread_ev (w r:SG) {x y:fA} {i k:Int} (hi:0<=i) (gx:w.types[i.toNat]?=some x) (hk:0<=k) (gy:r.types[k.toNat]?=some y) (gl:y.syms.length<=8796093022206) (dd:y.kind=7\/y.kind=8->0<=y.max) (gn:x.kind≠5/\x.kind≠6) (vk:Int) (vb:Bool) (vi:Int) (vs:ByteArray) (vd:Int) :
  wH jA rA 195 [.undef,.undef,.ptr 0 0 0,.int .i64 i,.agg (zA (.of vk vb vi vs vd)),.int .i64 k] (some (.agg (sP w r)))=some (.tup [.agg (zA (IM (FN x y (.of vk vb vi vs vd)) (.of vk vb vi vs vd))),.bool (FN x y (.of vk vb vi vs vd))],some (.agg (sP w r))):=by
 have g1:(w.types.map eA)[i.toNat]?=some (eA x):=by rw [yc,gx]; rfl
 have g2:(r.types.map eA)[k.toNat]?=some (eA y):=by rw [yc,gy]; rfl
 have hf:=pfail_ev w r;have hp:=fun a b=>pparts_ev w r a b
 have eb:=Z7 y vd (by omega);obtain ⟨h5,h6⟩:=gn;simp only [gA,sP,eA,ZU] at hf hp eb g1 g2;refine SQ LA rfl rfl ?_;simp only [sP,KA,FN];by_cases e:x.kind=y.kind
 case neg=>simp [LA,-V,-y3,-y0,J,zC,tF,bD,UG,KB,DL,JI,g1,g2,hi,hk,e,hf,IM,KA]
 rw [e] at h5 h6;by_cases k2:y.kind=2
 ·by_cases c1:y.low<=vi
  ·by_cases c2:vi<=y.high
   ·simp [LA,-V,-y3,-y0,J,zC,tF,bD,UG,KB,DL,JI,g1,g2,hi,hk,e,k2,c1,c2,hp,IM,KA,of_i]
   ·simp [LA,-V,-y3,-y0,J,zC,tF,bD,UG,KB,DL,JI,g1,g2,hi,hk,e,k2,c1,c2,hf,IM,KA,of_i]
  ·simp [LA,-V,-y3,-y0,J,zC,tF,bD,UG,KB,DL,JI,g1,g2,hi,hk,e,k2,c1,hf,IM,KA,of_i]
 by_cases k3:y.kind=3
 ·by_cases c1:(vs.size:Int)<=y.max
  ·simp [LA,-V,-y3,-y0,J,zC,tF,bD,UG,KB,DL,JI,g1,g2,hi,hk,e,k3,c1,hp,IM,KA,of_s]
  ·simp [LA,-V,-y3,-y0,J,zC,tF,bD,UG,KB,DL,JI,g1,g2,hi,hk,e,k3,c1,hf,IM,KA,of_s]
 by_cases k4:y.kind=4
 ·rw [k4] at eb;by_cases c1:0<=wG y.syms vd
  ·simp only [c1,decide_true] at eb;simp [LA,-V,-y3,-y0,J,zC,tF,bD,UG,KB,DL,JI,g1,g2,hi,hk,e,k4,c1,eb,hp,IM,KA,CY]
  ·simp only [c1,decide_false] at eb;cases ho:y.opn with
   | true =>
    rw [ho] at eb;simp [LA,-V,-y3,-y0,J,zC,tF,bD,UG,KB,DL,JI,g1,g2,hi,hk,e,k4,c1,ho,eb,hp,IM,KA,CY]
   | false =>
    rw [ho] at eb;simp [LA,-V,-y3,-y0,J,zC,tF,bD,UG,KB,DL,JI,g1,g2,hi,hk,e,k4,c1,ho,eb,hf,IM,KA,CY]
 by_cases k7:y.kind=7
 ·have hm:=dd (.inl k7);simp [LA,-V,-y3,-y0,J,zC,tF,bD,UG,KB,DL,JI,g1,g2,hi,hk,e,k7,hm,hp,IM,KA]
 by_cases k8:y.kind=8
 ·have hm:=dd (.inr k8);simp [LA,-V,-y3,-y0,J,zC,tF,bD,UG,KB,DL,JI,g1,g2,hi,hk,e,k8,hm,hp,IM,KA]
 simp [LA,-V,-y3,-y0,J,zC,tF,bD,UG,KB,DL,JI,g1,g2,hi,hk,e,k2,k3,k4,h5,h6,k7,k8,hp,IM,KA]
end Go.Proofs.YtbnlmgncbgaepaaGreat
