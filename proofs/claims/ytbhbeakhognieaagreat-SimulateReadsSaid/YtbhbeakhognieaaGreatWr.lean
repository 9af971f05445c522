/- A part of the proof. -/
import Derived.Test.YtbhbeakhognieaaGreatWi
import Derived.Test.YtbhbeakhognieaaGreatWn
set_option linter.all false
set_option maxRecDepth 100000
set_option maxHeartbeats 8000000
open Option renaming bind_some → J
open List renaming range_succ → y0, map_map → y3, getElem?_map → yc
open Int renaming toNat_lt → y4
namespace Go.Proofs.YtbhbeakhognieaaGreat
open Go
theorem vclone0:gA 235 [.sl true []] (.sl true []):=by
 refine rA (c:=tG) rfl rfl ?_;simp [tG,-J,-y4,-y3,y0,TS]
def KP (w r:FI):List AV:=[.sl w.nl (w.types.map eA),.sl r.nl (r.types.map eA),.sl true [],.sl true []]
theorem pfail_ev (w r:FI):dF jA tA 215 [.undef,.undef,.ptr 0 0 0] (some (.agg (KP w r)))=some (.tup [.agg [.int .i64 0,.bool false,.int .i64 0,.str ⟨#[]⟩,.int .i64 0,.sl true [],.sl true [],.sl true []],.bool false],some (.agg (KP w r))):=by
 have hc:=vclone0;simp only [gA] at hc;refine mD QF rfl rfl ?_;simp [QF,-J,-y4,-y3,y0,JA,IB,EB,GC,rB,iG,dE,KP,hc]
theorem pparts_ev (w r:FI) (a b:Int):dF jA tA 218 [.undef,.undef,.ptr 0 0 0,.int .i64 a,.sl true [],.int .i64 b] (some (.agg (KP w r)))=some (.tup [.sl true [],.bool true],some (.agg (KP w r))):=by
 refine mD sF rfl rfl ?_;simp [sF,-J,-y4,-y3,y0,JA,IB,EB,GC,rB,iG,dE,KP];refine RA 0 (fun _ s=>(s.env 16).v=.int .i64 0/\(s.env 17).v=.int .i64 0/\(s.env 10).v=.sl true []/\s.mem 0 0=some [⟨.sl w.nl (w.types.map eA),rB (.sl w.nl (w.types.map eA))⟩,⟨.sl r.nl (r.types.map eA),rB (.sl r.nl (r.types.map eA))⟩,⟨.sl true [],.ex⟩,⟨.sl true [],.ex⟩])
  (fun e s=>e=.exit 0/\(s.env 10).v=.sl true []/\s.mem 0 0=some [⟨.sl w.nl (w.types.map eA),rB (.sl w.nl (w.types.map eA))⟩,⟨.sl r.nl (r.types.map eA),rB (.sl r.nl (r.types.map eA))⟩,⟨.sl true [],.ex⟩,⟨.sl true [],.ex⟩]) (fun i hi s k h ih hk=>?_) _ _ ?_ (fun e s h=>?_)
 ·obtain ⟨af,ld,e10,m0⟩:=h;refine iA ?_;simp [QI,-J,-y4,-y3,y0,af,ld];exact hk _ _ ⟨rfl,by simp [e10],m0⟩
 ·refine ⟨?_,?_,?_,?_⟩ <;> simp [rB]
 ·obtain ⟨rfl,e10,m0⟩:=h;simp [-J,-y4,-y3,y0,iG,dE,e10,m0]
theorem pread_ev (w r:FI) {x y:pA} {i k:Int} (hi:0<=i) (gx:w.types[i.toNat]?=some x) (hk:0<=k) (gy:r.types[k.toNat]?=some y) (bz:y.syms.length<=8796093022206) (nh:y.kind=7\/y.kind=8->0<=y.max) (kt:x.kind≠5/\x.kind≠6) (vk:Int) (vb:Bool) (vi:Int) (vs:ByteArray) (vd:Int) :
  dF jA tA 186 [.undef,.undef,.ptr 0 0 0,.int .i64 i,.agg (fA (.of vk vb vi vs vd)),.int .i64 k] (some (.agg (KP w r)))=some (.tup [.agg (fA (R5 (X4 x y (.of vk vb vi vs vd)) (.of vk vb vi vs vd))),.bool (X4 x y (.of vk vb vi vs vd))],some (.agg (KP w r))):=by
 have g1:(w.types.map eA)[i.toNat]?=some (eA x):=by rw [yc,gx]; rfl
 have g2:(r.types.map eA)[k.toNat]?=some (eA y):=by rw [yc,gy]; rfl
 have hf:=pfail_ev w r;have hp:=fun a b=>pparts_ev w r a b
 have ad:=sym_ev y vd (by omega);obtain ⟨h5,h6⟩:=kt;simp only [gA,KP,eA,qZ] at hf hp ad g1 g2;refine mD HA rfl rfl ?_;simp only [KP,EC,X4];by_cases e:x.kind=y.kind
 case neg=>simp [HA,-J,-y4,-y3,y0,JA,IB,EB,GC,rB,iG,dE,g1,g2,hi,hk,e,hf,R5,EC]
 rw [e] at h5 h6;by_cases k2:y.kind=2
 ·by_cases c1:y.low<=vi
  ·by_cases c2:vi<=y.high
   ·simp [HA,-J,-y4,-y3,y0,JA,IB,EB,GC,rB,iG,dE,g1,g2,hi,hk,e,k2,c1,c2,hp,R5,EC,of_i]
   ·simp [HA,-J,-y4,-y3,y0,JA,IB,EB,GC,rB,iG,dE,g1,g2,hi,hk,e,k2,c1,c2,hf,R5,EC,of_i]
  ·simp [HA,-J,-y4,-y3,y0,JA,IB,EB,GC,rB,iG,dE,g1,g2,hi,hk,e,k2,c1,hf,R5,EC,of_i]
 by_cases k3:y.kind=3
 ·by_cases c1:(vs.size:Int)<=y.max
  ·simp [HA,-J,-y4,-y3,y0,JA,IB,EB,GC,rB,iG,dE,g1,g2,hi,hk,e,k3,c1,hp,R5,EC,of_s]
  ·simp [HA,-J,-y4,-y3,y0,JA,IB,EB,GC,rB,iG,dE,g1,g2,hi,hk,e,k3,c1,hf,R5,EC,of_s]
 by_cases k4:y.kind=4
 ·rw [k4] at ad;by_cases c1:0<=ZF y.syms vd
  ·simp only [c1,decide_true] at ad;simp [HA,-J,-y4,-y3,y0,JA,IB,EB,GC,rB,iG,dE,g1,g2,hi,hk,e,k4,c1,ad,hp,R5,EC,of_id]
  ·simp only [c1,decide_false] at ad;cases ho:y.opn with
   | true =>
    rw [ho] at ad;simp [HA,-J,-y4,-y3,y0,JA,IB,EB,GC,rB,iG,dE,g1,g2,hi,hk,e,k4,c1,ho,ad,hp,R5,EC,of_id]
   | false =>
    rw [ho] at ad;simp [HA,-J,-y4,-y3,y0,JA,IB,EB,GC,rB,iG,dE,g1,g2,hi,hk,e,k4,c1,ho,ad,hf,R5,EC,of_id]
 by_cases k7:y.kind=7
 ·have hm:=nh (.inl k7);simp [HA,-J,-y4,-y3,y0,JA,IB,EB,GC,rB,iG,dE,g1,g2,hi,hk,e,k7,hm,hp,R5,EC]
 by_cases k8:y.kind=8
 ·have hm:=nh (.inr k8);simp [HA,-J,-y4,-y3,y0,JA,IB,EB,GC,rB,iG,dE,g1,g2,hi,hk,e,k8,hm,hp,R5,EC]
 simp [HA,-J,-y4,-y3,y0,JA,IB,EB,GC,rB,iG,dE,g1,g2,hi,hk,e,k2,k3,k4,h5,h6,k7,k8,hp,R5,EC]
end Go.Proofs.YtbhbeakhognieaaGreat
