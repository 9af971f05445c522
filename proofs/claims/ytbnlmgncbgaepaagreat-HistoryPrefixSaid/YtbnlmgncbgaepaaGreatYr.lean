/- A part of the proof. -/
import Derived.Test.YtbnlmgncbgaepaaGreatYi
import Derived.Test.YtbnlmgncbgaepaaGreatYn
set_option linter.all false
set_option maxRecDepth 100000
set_option maxHeartbeats 8000000
open Option renaming bind_some → V
open List renaming range_succ → J, map_map → y0, getElem?_map → yc
open Int renaming toNat_lt → y3
namespace Go.Proofs.YtbnlmgncbgaepaaGreat
open Go
theorem vclone0:fA 228 [.sl true []] (.sl true []):=by
 refine wA (c:=CF) rfl rfl ?_;simp [CF,-V,-y3,-y0,J,bS]
def QP (w r:wI):List AV:=[.sl w.nl (w.types.map rA),.sl r.nl (r.types.map rA),.sl true [],.sl true []]
theorem pfail_ev (w r:wI):UF gA eA 216 [.undef,.undef,.ptr 0 0 0] (some (.agg (QP w r)))=some (.tup [.agg [.int .i64 0,.bool false,.int .i64 0,.str ⟨#[]⟩,.int .i64 0,.sl true [],.sl true [],.sl true []],.bool false],some (.agg (QP w r))):=by
 have hc:=vclone0;simp only [fA] at hc;refine sR jF rfl rfl ?_;simp [jF,-V,-y3,-y0,J,mC,rF,kD,DG,eC,WL,DI,QP,hc]
theorem pparts_ev (w r:wI) (a b:Int):UF gA eA 219 [.undef,.undef,.ptr 0 0 0,.int .i64 a,.sl true [],.int .i64 b] (some (.agg (QP w r)))=some (.tup [.sl true [],.bool true],some (.agg (QP w r))):=by
 refine sR XE rfl rfl ?_;simp [XE,-V,-y3,-y0,J,mC,rF,kD,DG,eC,WL,DI,QP];refine lA 0 (fun _ s=>(s.env 16).v=.int .i64 0/\(s.env 17).v=.int .i64 0/\(s.env 10).v=.sl true []/\s.mem 0 0=some [⟨.sl w.nl (w.types.map rA),eC (.sl w.nl (w.types.map rA))⟩,⟨.sl r.nl (r.types.map rA),eC (.sl r.nl (r.types.map rA))⟩,⟨.sl true [],.ex⟩,⟨.sl true [],.ex⟩])
  (fun e s=>e=.exit 0/\(s.env 10).v=.sl true []/\s.mem 0 0=some [⟨.sl w.nl (w.types.map rA),eC (.sl w.nl (w.types.map rA))⟩,⟨.sl r.nl (r.types.map rA),eC (.sl r.nl (r.types.map rA))⟩,⟨.sl true [],.ex⟩,⟨.sl true [],.ex⟩]) (fun i hi s k h ih hk=>?_) _ _ ?_ (fun e s h=>?_)
 ·obtain ⟨e16,bh,e10,m0⟩:=h;refine tA ?_;simp [SI,-V,-y3,-y0,J,e16,bh];exact hk _ _ ⟨rfl,by simp [e10],m0⟩
 ·refine ⟨?_,?_,?_,?_⟩ <;> simp [eC]
 ·obtain ⟨rfl,e10,m0⟩:=h;simp [-V,-y3,-y0,J,WL,DI,e10,m0]
theorem pread_ev (w r:wI) {x y:dA} {i k:Int} (hi:0<=i) (gx:w.types[i.toNat]?=some x) (hk:0<=k) (gy:r.types[k.toNat]?=some y) (nk:y.syms.length<=8796093022206) (dd:y.kind=7\/y.kind=8->0<=y.max) (ul:x.kind≠5/\x.kind≠6) (vk:Int) (vb:Bool) (vi:Int) (vs:ByteArray) (vd:Int) :
  UF gA eA 195 [.undef,.undef,.ptr 0 0 0,.int .i64 i,.agg (zA (.of vk vb vi vs vd)),.int .i64 k] (some (.agg (QP w r)))=some (.tup [.agg (zA (TM (ZO x y (.of vk vb vi vs vd)) (.of vk vb vi vs vd))),.bool (ZO x y (.of vk vb vi vs vd))],some (.agg (QP w r))):=by
 have g1:(w.types.map rA)[i.toNat]?=some (rA x):=by rw [yc,gx]; rfl
 have g2:(r.types.map rA)[k.toNat]?=some (rA y):=by rw [yc,gy]; rfl
 have hf:=pfail_ev w r;have hp:=fun a b=>pparts_ev w r a b
 have fb:=sym_ev y vd (by omega);obtain ⟨h5,h6⟩:=ul;simp only [fA,QP,rA,BV] at hf hp fb g1 g2;refine sR XA rfl rfl ?_;simp only [QP,LA,ZO];by_cases e:x.kind=y.kind
 case neg=>simp [XA,-V,-y3,-y0,J,mC,rF,kD,DG,eC,WL,DI,g1,g2,hi,hk,e,hf,TM,LA]
 rw [e] at h5 h6;by_cases k2:y.kind=2
 ·by_cases c1:y.low<=vi
  ·by_cases c2:vi<=y.high
   ·simp [XA,-V,-y3,-y0,J,mC,rF,kD,DG,eC,WL,DI,g1,g2,hi,hk,e,k2,c1,c2,hp,TM,LA,of_i]
   ·simp [XA,-V,-y3,-y0,J,mC,rF,kD,DG,eC,WL,DI,g1,g2,hi,hk,e,k2,c1,c2,hf,TM,LA,of_i]
  ·simp [XA,-V,-y3,-y0,J,mC,rF,kD,DG,eC,WL,DI,g1,g2,hi,hk,e,k2,c1,hf,TM,LA,of_i]
 by_cases k3:y.kind=3
 ·by_cases c1:(vs.size:Int)<=y.max
  ·simp [XA,-V,-y3,-y0,J,mC,rF,kD,DG,eC,WL,DI,g1,g2,hi,hk,e,k3,c1,hp,TM,LA,of_s]
  ·simp [XA,-V,-y3,-y0,J,mC,rF,kD,DG,eC,WL,DI,g1,g2,hi,hk,e,k3,c1,hf,TM,LA,of_s]
 by_cases k4:y.kind=4
 ·rw [k4] at fb;by_cases c1:0<=xG y.syms vd
  ·simp only [c1,decide_true] at fb;simp [XA,-V,-y3,-y0,J,mC,rF,kD,DG,eC,WL,DI,g1,g2,hi,hk,e,k4,c1,fb,hp,TM,LA,I0]
  ·simp only [c1,decide_false] at fb;cases ho:y.opn with
   | true =>
    rw [ho] at fb;simp [XA,-V,-y3,-y0,J,mC,rF,kD,DG,eC,WL,DI,g1,g2,hi,hk,e,k4,c1,ho,fb,hp,TM,LA,I0]
   | false =>
    rw [ho] at fb;simp [XA,-V,-y3,-y0,J,mC,rF,kD,DG,eC,WL,DI,g1,g2,hi,hk,e,k4,c1,ho,fb,hf,TM,LA,I0]
 by_cases k7:y.kind=7
 ·have hm:=dd (.inl k7);simp [XA,-V,-y3,-y0,J,mC,rF,kD,DG,eC,WL,DI,g1,g2,hi,hk,e,k7,hm,hp,TM,LA]
 by_cases k8:y.kind=8
 ·have hm:=dd (.inr k8);simp [XA,-V,-y3,-y0,J,mC,rF,kD,DG,eC,WL,DI,g1,g2,hi,hk,e,k8,hm,hp,TM,LA]
 simp [XA,-V,-y3,-y0,J,mC,rF,kD,DG,eC,WL,DI,g1,g2,hi,hk,e,k2,k3,k4,h5,h6,k7,k8,hp,TM,LA]
end Go.Proofs.YtbnlmgncbgaepaaGreat
