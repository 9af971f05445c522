/- A part of the proof. -/
import Derived.Test.YtbnlmgncbgaepaaGreatTn
set_option linter.all false
set_option maxRecDepth 100000
set_option maxHeartbeats 8000000
open Option renaming bind_some → V
open List renaming range_succ → y0, map_map → y3, getElem?_map → ye
open Int renaming toNat_lt → y4
namespace Go.Proofs.YtbnlmgncbgaepaaGreat
open Go
theorem reason_ev (w r:DH) {x y:sA} {i k:Int} (hi:0<=i) (gx:w.types[i.toNat]?=some x) (hk:0<=k) (gy:r.types[k.toNat]?=some y) (hx:TyGd w.types x) (hy:TyGd r.types y) {mns:SB->SB->Bool} (hR:FW w r mns x.mems y.mems):fA 77 [.agg (TA w),.int .i64 i,.agg (TA r),.int .i64 k] (.int .i64 (rsnP mns w.types x y)):=by
 have g1:(w.types.map qA)[i.toNat]?=some (qA x):=by rw [ye,gx]; rfl
 have g2:(r.types.map qA)[k.toNat]?=some (qA y):=by rw [ye,gy]; rfl
 have wc:=covered_ev x y hx.syms hx.mems hy.syms hy.mems;have ma:=J9 w r x y hx.mems hy.mems hR;simp only [fA,TA,qA] at wc ma g1 g2;refine rA (c:=AA) rfl rfl ?_;unfold rsnP;by_cases e:x.kind=y.kind
 case neg=>simp [AA,-V,-y4,-y3,y0,TA,g1,g2,hi,hk,e]
 rw [if_neg (by simpa using e),e];simp only [e] at wc ma;by_cases k2:y.kind=2
 ·by_cases c1:x.low<y.low
  ·simp [AA,-V,-y4,-y3,y0,TA,g1,g2,hi,hk,e,k2,c1]
  ·by_cases c2:y.high<x.high
   ·simp [AA,-V,-y4,-y3,y0,TA,g1,g2,hi,hk,e,k2,c1,c2]
   ·simp [AA,-V,-y4,-y3,y0,TA,g1,g2,hi,hk,e,k2,c1,c2]
 by_cases k3:y.kind=3
 ·by_cases c1:y.max<x.max
  ·simp [AA,-V,-y4,-y3,y0,TA,g1,g2,hi,hk,e,k3,c1]
  ·simp [AA,-V,-y4,-y3,y0,TA,g1,g2,hi,hk,e,k3,c1]
 by_cases k7:y.kind=7
 ·by_cases c1:y.max<x.max
  ·simp [AA,-V,-y4,-y3,y0,TA,g1,g2,hi,hk,e,k7,c1]
  ·simp [AA,-V,-y4,-y3,y0,TA,g1,g2,hi,hk,e,k7,c1]
 by_cases k8:y.kind=8
 ·obtain ⟨h0,h50,t,gt,t1,t4,tsm⟩:=hx.key (e.trans k8);have g3:(w.types.map qA)[x.key.toNat]?=some (qA t):=by rw [ye,gt]; rfl
  have rb:=keys_ev t tsm;have hmin:=keys_min t ⟨t1,t4⟩ tsm (m:=x.max) (n:=y.max) h50;simp only [fA,qA] at rb g3;have ew:keyN w.types x=NS t:=by unfold keyN; rw [gt]
  rw [ew];by_cases c1:y.max<min x.max (TX t)
  ·have c2:=hmin.1 c1;simp only [c2,if_true];generalize TX t=q at *
   simp [AA,-V,-y4,-y3,y0,TA,g1,g2,g3,h0,rb,hi,hk,e,k2,k3,k7,k8];rw [decide_eq_true c1];rfl
  ·have c2:¬ y.max<min x.max (NS t):=fun h=>c1 (hmin.2 h)
   simp only [c2,if_false];generalize TX t=q at *
   simp [AA,-V,-y4,-y3,y0,TA,g1,g2,g3,h0,rb,hi,hk,e,k2,k3,k7,k8];rw [decide_eq_false c1];rfl
 by_cases k4:y.kind=4
 ·rw [k4] at wc;cases c1:(y.opn||UM x y) with
  | true =>
   rw [c1] at wc;rw [Bool.or_eq_true] at c1;simp [AA,-V,-y4,-y3,y0,TA,g1,g2,hi,hk,e,k4,wc,c1]
  | false =>
   rw [c1] at wc;rw [Bool.or_eq_false_iff] at c1;obtain ⟨c2,c3⟩:=c1;rw [c2] at wc;simp [AA,-V,-y4,-y3,y0,TA,g1,g2,hi,hk,e,k4,wc,c2,c3]
 by_cases k6:y.kind=6
 ·rw [k6] at wc;cases c1:(y.opn||UM x y) with
  | true =>
   rw [c1] at wc;rw [Bool.or_eq_true] at c1;simp [AA,-V,-y4,-y3,y0,TA,g1,g2,hi,hk,e,k6,wc,c1]
  | false =>
   rw [c1] at wc;rw [Bool.or_eq_false_iff] at c1;obtain ⟨c2,c3⟩:=c1;rw [c2] at wc;simp [AA,-V,-y4,-y3,y0,TA,g1,g2,hi,hk,e,k6,wc,c2,c3]
 by_cases k5:y.kind=5
 ·rw [k5] at ma;simp [AA,-V,-y4,-y3,y0,TA,g1,g2,hi,hk,e,k5,ma]
 ·simp [AA,-V,-y4,-y3,y0,TA,g1,g2,hi,hk,e,k2,k3,k4,k5,k6,k7,k8]
theorem rmis_ev:fA 122 [.sl true []] (.agg [.int .i64 0,.bool false,.int .i64 0,.str ⟨#[]⟩,.int .i64 0,.sl true [],.sl true [],.sl true [],.sl false [],.bool false]):=by
 refine rA (c:=kI) rfl rfl ?_;have h0:kB 8 0=true:=by decide
 simp [kI,-V,-y4,-y3,y0,h0]
theorem rok_ev (vk:Int) (vb:Bool) (vi:Int) (vs:ByteArray) (vd:Int):fA 127 [.agg (lA (.of vk vb vi vs vd))] (.agg [.int .i64 vk,.bool vb,.int .i64 vi,.str vs,.int .i64 vd,.sl true [],.sl true [],.sl true [],.sl true [],.bool true]):=by
 refine rA (c:=PL) rfl rfl ?_;rw [JA];simp [PL,-V,-y4,-y3,y0]
theorem rread_ev (w r:DH) {x y:sA} {i k:Int} (hi:0<=i) (gx:w.types[i.toNat]?=some x) (hk:0<=k) (gy:r.types[k.toNat]?=some y) (fk:y.syms.length<=8796093022206) (ed:y.kind=7\/y.kind=8->0<=y.max) (jl:x.kind≠5/\x.kind≠6) (vk:Int) (vb:Bool) (vi:Int) (vs:ByteArray) (vd:Int) :
  fA 75 [.agg (TA w),.int .i64 i,.agg (lA (.of vk vb vi vs vd)),.agg (TA r),.int .i64 k,.sl true []] (.agg (lA (FM (aP x y (.of vk vb vi vs vd)) (.of vk vb vi vs vd))++[.sl (aP x y (.of vk vb vi vs vd)) [],.bool (aP x y (.of vk vb vi vs vd))])):=by
 have g1:(w.types.map qA)[i.toNat]?=some (qA x):=by rw [ye,gx]; rfl
 have g2:(r.types.map qA)[k.toNat]?=some (qA y):=by rw [ye,gy]; rfl
 have hf:=rmis_ev;have hp:=rok_ev vk vb vi vs vd;have gb:=Z4 y vd (by omega);obtain ⟨h5,h6⟩:=jl;simp only [fA,qA,nW,JA] at hf hp gb g1 g2;refine rA (c:=MB) rfl rfl ?_;simp only [TA,JA,aP];by_cases e:x.kind=y.kind
 case neg=>simp [MB,-V,-y4,-y3,y0,g1,g2,hi,hk,e,hf,FM,JA]
 rw [e] at h5 h6;have l2:∀ s k r',(s.env 8).v=.ptr 8 1 0->(s.env 18).v=.int .i64 0->s.mem 8 1=some [⟨.int .i64 vk,.no⟩,⟨.bool vb,.no⟩,⟨.int .i64 vi,.no⟩,⟨.str vs,.no⟩,⟨.int .i64 vd,.no⟩,⟨.sl true [],.no⟩,⟨.sl true [],.no⟩,⟨.sl true [],.no⟩] →
   (∀ s',s'.mem=s.mem->(∀ t,t<20->s'.env t=s.env t)->k (.exit 0) s'=some r')->GG dA eA fL s k=some r':=fun s k r' e8 zl m8 hk=>by
  refine tA ?_;simp [fL,-V,-y4,-y3,y0,e8,zl,m8];exact hk _ rfl (fun t ht=>by simp; repeat (rw [if_neg (by omega)]))
 have l1:∀ s k r',(s.env 8).v=.ptr 8 1 0->(s.env 20).v=.int .i64 0->s.mem 8 1=some [⟨.int .i64 vk,.no⟩,⟨.bool vb,.no⟩,⟨.int .i64 vi,.no⟩,⟨.str vs,.no⟩,⟨.int .i64 vd,.no⟩,⟨.sl true [],.no⟩,⟨.sl true [],.no⟩,⟨.sl true [],.no⟩] →
   (∀ s',s'.mem=s.mem->(∀ t,t<20->s'.env t=s.env t)->k (.exit 2) s'=some r')->GG dA eA dL s k=some r':=fun s k r' e8 gp m8 hk=>by
  refine tA ?_;simp [dL,-V,-y4,-y3,y0,e8,gp,m8];exact hk _ rfl (fun t ht=>by simp; repeat (rw [if_neg (by omega)]))
 by_cases k2:y.kind=2
 ·by_cases c1:vi<y.low
  ·have d1:¬ y.low<=vi:=by omega
   simp [MB,-V,-y4,-y3,y0,g1,g2,hi,hk,e,k2,c1,d1,hf,FM,JA,of_i]
  ·have d1:y.low<=vi:=by omega
   by_cases c2:y.high<vi
   ·have d2:¬ vi<=y.high:=by omega
    simp [MB,-V,-y4,-y3,y0,g1,g2,hi,hk,e,k2,c1,c2,d1,d2,hf,FM,JA,of_i]
   ·have d2:vi<=y.high:=by omega
    simp [MB,-V,-y4,-y3,y0,g1,g2,hi,hk,e,k2,c1,c2,d1,d2,FM,JA,of_i];refine l2 _ _ _ ?_ ?_ ?_ (fun s' hm he=>?_)
    ·simp
    ·simp
    ·simp
    ·have a8:=he 8 (by omega);have eg:=he 12 (by omega);have fg:=he 17 (by omega);simp at a8 eg fg;simp [-V,-y4,-y3,y0,hm,a8,eg,fg];refine l1 _ _ _ ?_ ?_ ?_ (fun s2 lj ki=>?_)
     ·simp [a8]
     ·simp
     ·simp
     ·have bh:=ki 12 (by omega);have ai:=ki 17 (by omega);simp [eg,fg] at bh ai;simp [-V,-y4,-y3,y0,lj,bh,ai,hp,FM,JA]
 by_cases k3:y.kind=3
 ·by_cases c1:(vs.size:Int)<=y.max
  ·have d1:¬ y.max<(vs.size:Int):=by omega
   simp [MB,-V,-y4,-y3,y0,g1,g2,hi,hk,e,k3,c1,d1,FM,JA,of_s];refine l2 _ _ _ ?_ ?_ ?_ (fun s' hm he=>?_)
   ·simp
   ·simp
   ·simp
   ·have a8:=he 8 (by omega);have eg:=he 12 (by omega);have fg:=he 17 (by omega);simp at a8 eg fg;simp [-V,-y4,-y3,y0,hm,a8,eg,fg];refine l1 _ _ _ ?_ ?_ ?_ (fun s2 lj ki=>?_)
    ·simp [a8]
    ·simp
    ·simp
    ·have bh:=ki 12 (by omega);have ai:=ki 17 (by omega);simp [eg,fg] at bh ai;simp [-V,-y4,-y3,y0,lj,bh,ai,hp,FM,JA]
  ·have d1:y.max<(vs.size:Int):=by omega
   simp [MB,-V,-y4,-y3,y0,g1,g2,hi,hk,e,k3,c1,d1,hf,FM,JA,of_s]
 by_cases k4:y.kind=4
 ·rw [k4] at gb;by_cases c1:0<=bG y.syms vd
  ·simp only [c1,decide_true] at gb;simp [MB,-V,-y4,-y3,y0,g1,g2,hi,hk,e,k4,c1,gb,FM,JA,C1];refine l2 _ _ _ ?_ ?_ ?_ (fun s' hm he=>?_)
   ·simp
   ·simp
   ·simp
   ·have a8:=he 8 (by omega);have eg:=he 12 (by omega);have fg:=he 17 (by omega);simp at a8 eg fg;simp [-V,-y4,-y3,y0,hm,a8,eg,fg];refine l1 _ _ _ ?_ ?_ ?_ (fun s2 lj ki=>?_)
    ·simp [a8]
    ·simp
    ·simp
    ·have bh:=ki 12 (by omega);have ai:=ki 17 (by omega);simp [eg,fg] at bh ai;simp [-V,-y4,-y3,y0,lj,bh,ai,hp,FM,JA]
  ·simp only [c1,decide_false] at gb;cases ho:y.opn with
   | true =>
    rw [ho] at gb;simp [MB,-V,-y4,-y3,y0,g1,g2,hi,hk,e,k4,c1,ho,gb,FM,JA,C1];refine l2 _ _ _ ?_ ?_ ?_ (fun s' hm he=>?_)
    ·simp
    ·simp
    ·simp
    ·have a8:=he 8 (by omega);have eg:=he 12 (by omega);have fg:=he 17 (by omega);simp at a8 eg fg;simp [-V,-y4,-y3,y0,hm,a8,eg,fg];refine l1 _ _ _ ?_ ?_ ?_ (fun s2 lj ki=>?_)
     ·simp [a8]
     ·simp
     ·simp
     ·have bh:=ki 12 (by omega);have ai:=ki 17 (by omega);simp [eg,fg] at bh ai;simp [-V,-y4,-y3,y0,lj,bh,ai,hp,FM,JA]
   | false =>
    rw [ho] at gb;simp [MB,-V,-y4,-y3,y0,g1,g2,hi,hk,e,k4,c1,ho,gb,hf,FM,JA,C1]
 by_cases k7:y.kind=7
 ·have hm:=ed (.inl k7);have d1:¬ y.max<0:=by omega
  simp [MB,-V,-y4,-y3,y0,g1,g2,hi,hk,e,k7,hm,d1,FM,JA];refine l2 _ _ _ ?_ ?_ ?_ (fun s' hm he=>?_)
  ·simp
  ·simp
  ·simp
  ·have a8:=he 8 (by omega);have eg:=he 12 (by omega);have fg:=he 17 (by omega);simp at a8 eg fg;simp [-V,-y4,-y3,y0,hm,a8,eg,fg];refine l1 _ _ _ ?_ ?_ ?_ (fun s2 lj ki=>?_)
   ·simp [a8]
   ·simp
   ·simp
   ·have bh:=ki 12 (by omega);have ai:=ki 17 (by omega);simp [eg,fg] at bh ai;simp [-V,-y4,-y3,y0,lj,bh,ai,hp,FM,JA]
 by_cases k8:y.kind=8
 ·have hm:=ed (.inr k8);have d1:¬ y.max<0:=by omega
  simp [MB,-V,-y4,-y3,y0,g1,g2,hi,hk,e,k8,hm,d1,FM,JA];refine l2 _ _ _ ?_ ?_ ?_ (fun s' hm he=>?_)
  ·simp
  ·simp
  ·simp
  ·have a8:=he 8 (by omega);have eg:=he 12 (by omega);have fg:=he 17 (by omega);simp at a8 eg fg;simp [-V,-y4,-y3,y0,hm,a8,eg,fg];refine l1 _ _ _ ?_ ?_ ?_ (fun s2 lj ki=>?_)
   ·simp [a8]
   ·simp
   ·simp
   ·have bh:=ki 12 (by omega);have ai:=ki 17 (by omega);simp [eg,fg] at bh ai;simp [-V,-y4,-y3,y0,lj,bh,ai,hp,FM,JA]
 simp [MB,-V,-y4,-y3,y0,g1,g2,hi,hk,e,k2,k3,k4,h5,h6,k7,k8,FM,JA];refine l2 _ _ _ ?_ ?_ ?_ (fun s' hm he=>?_)
 ·simp
 ·simp
 ·simp
 ·have a8:=he 8 (by omega);have eg:=he 12 (by omega);have fg:=he 17 (by omega);simp at a8 eg fg;simp [-V,-y4,-y3,y0,hm,a8,eg,fg];refine l1 _ _ _ ?_ ?_ ?_ (fun s2 lj ki=>?_)
  ·simp [a8]
  ·simp
  ·simp
  ·have bh:=ki 12 (by omega);have ai:=ki 17 (by omega);simp [eg,fg] at bh ai;simp [-V,-y4,-y3,y0,lj,bh,ai,hp,FM,JA]
end Go.Proofs.YtbnlmgncbgaepaaGreat
