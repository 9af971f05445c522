/- A part of the proof. -/
import Derived.Test.YtbnlmgncbgaepaaGreatYn
set_option linter.all false
set_option maxRecDepth 100000
set_option maxHeartbeats 8000000
open Option renaming bind_some → V
open List renaming range_succ → J, map_map → y0, getElem?_map → yc
open Int renaming toNat_lt → y3
namespace Go.Proofs.YtbnlmgncbgaepaaGreat
open Go
theorem reason_ev (w r:wI) {x y:dA} {i k:Int} (hi:0<=i) (gx:w.types[i.toNat]?=some x) (hk:0<=k) (gy:r.types[k.toNat]?=some y) (hx:TyGd w.types x) (hy:TyGd r.types y) {mns:uC->uC->Bool} (hR:jW w r mns x.mems y.mems):fA 77 [.agg (UA w),.int .i64 i,.agg (UA r),.int .i64 k] (.int .i64 (rsnP mns w.types x y)):=by
 have g1:(w.types.map rA)[i.toNat]?=some (rA x):=by rw [yc,gx]; rfl
 have g2:(r.types.map rA)[k.toNat]?=some (rA y):=by rw [yc,gy]; rfl
 have ed:=D9 x y hx.syms hx.mems hy.syms hy.mems;have ra:=X8 w r x y hx.mems hy.mems hR;simp only [fA,UA,rA] at ed ra g1 g2;refine wA (c:=SA) rfl rfl ?_;unfold rsnP;by_cases e:x.kind=y.kind
 case neg=>simp [SA,-V,-y3,-y0,J,UA,g1,g2,hi,hk,e]
 rw [if_neg (by simpa using e),e];simp only [e] at ed ra;by_cases k2:y.kind=2
 ·by_cases c1:x.low<y.low
  ·simp [SA,-V,-y3,-y0,J,UA,g1,g2,hi,hk,e,k2,c1]
  ·by_cases c2:y.high<x.high
   ·simp [SA,-V,-y3,-y0,J,UA,g1,g2,hi,hk,e,k2,c1,c2]
   ·simp [SA,-V,-y3,-y0,J,UA,g1,g2,hi,hk,e,k2,c1,c2]
 by_cases k3:y.kind=3
 ·by_cases c1:y.max<x.max
  ·simp [SA,-V,-y3,-y0,J,UA,g1,g2,hi,hk,e,k3,c1]
  ·simp [SA,-V,-y3,-y0,J,UA,g1,g2,hi,hk,e,k3,c1]
 by_cases k7:y.kind=7
 ·by_cases c1:y.max<x.max
  ·simp [SA,-V,-y3,-y0,J,UA,g1,g2,hi,hk,e,k7,c1]
  ·simp [SA,-V,-y3,-y0,J,UA,g1,g2,hi,hk,e,k7,c1]
 by_cases k8:y.kind=8
 ·obtain ⟨h0,h50,t,gt,t1,t4,tsm⟩:=hx.key (e.trans k8);have g3:(w.types.map rA)[x.key.toNat]?=some (rA t):=by rw [yc,gt]; rfl
  have ub:=keys_ev t tsm;have hmin:=keys_min t ⟨t1,t4⟩ tsm (m:=x.max) (n:=y.max) h50;simp only [fA,rA] at ub g3;have zr:keyN w.types x=nS t:=by unfold keyN; rw [gt]
  rw [zr];by_cases c1:y.max<min x.max (uX t)
  ·have c2:=hmin.1 c1;simp only [c2,if_true];generalize uX t=q at *
   simp [SA,-V,-y3,-y0,J,UA,g1,g2,g3,h0,ub,hi,hk,e,k2,k3,k7,k8];rw [decide_eq_true c1];rfl
  ·have c2:¬ y.max<min x.max (nS t):=fun h=>c1 (hmin.2 h)
   simp only [c2,if_false];generalize uX t=q at *
   simp [SA,-V,-y3,-y0,J,UA,g1,g2,g3,h0,ub,hi,hk,e,k2,k3,k7,k8];rw [decide_eq_false c1];rfl
 by_cases k4:y.kind=4
 ·rw [k4] at ed;cases c1:(y.opn||xM x y) with
  | true =>
   rw [c1] at ed;rw [Bool.or_eq_true] at c1;simp [SA,-V,-y3,-y0,J,UA,g1,g2,hi,hk,e,k4,ed,c1]
  | false =>
   rw [c1] at ed;rw [Bool.or_eq_false_iff] at c1;obtain ⟨c2,c3⟩:=c1;rw [c2] at ed;simp [SA,-V,-y3,-y0,J,UA,g1,g2,hi,hk,e,k4,ed,c2,c3]
 by_cases k6:y.kind=6
 ·rw [k6] at ed;cases c1:(y.opn||xM x y) with
  | true =>
   rw [c1] at ed;rw [Bool.or_eq_true] at c1;simp [SA,-V,-y3,-y0,J,UA,g1,g2,hi,hk,e,k6,ed,c1]
  | false =>
   rw [c1] at ed;rw [Bool.or_eq_false_iff] at c1;obtain ⟨c2,c3⟩:=c1;rw [c2] at ed;simp [SA,-V,-y3,-y0,J,UA,g1,g2,hi,hk,e,k6,ed,c2,c3]
 by_cases k5:y.kind=5
 ·rw [k5] at ra;simp [SA,-V,-y3,-y0,J,UA,g1,g2,hi,hk,e,k5,ra]
 ·simp [SA,-V,-y3,-y0,J,UA,g1,g2,hi,hk,e,k2,k3,k4,k5,k6,k7,k8]
theorem rmis_ev:fA 122 [.sl true []] (.agg [.int .i64 0,.bool false,.int .i64 0,.str ⟨#[]⟩,.int .i64 0,.sl true [],.sl true [],.sl true [],.sl false [],.bool false]):=by
 refine wA (c:=sI) rfl rfl ?_;have h0:uB 8 0=true:=by decide
 simp [sI,-V,-y3,-y0,J,h0]
theorem rok_ev (vk:Int) (vb:Bool) (vi:Int) (vs:ByteArray) (vd:Int):fA 127 [.agg (zA (.of vk vb vi vs vd))] (.agg [.int .i64 vk,.bool vb,.int .i64 vi,.str vs,.int .i64 vd,.sl true [],.sl true [],.sl true [],.sl true [],.bool true]):=by
 refine wA (c:=cL) rfl rfl ?_;rw [LA];simp [cL,-V,-y3,-y0,J]
theorem rread_ev (w r:wI) {x y:dA} {i k:Int} (hi:0<=i) (gx:w.types[i.toNat]?=some x) (hk:0<=k) (gy:r.types[k.toNat]?=some y) (nk:y.syms.length<=8796093022206) (dd:y.kind=7\/y.kind=8->0<=y.max) (ul:x.kind≠5/\x.kind≠6) (vk:Int) (vb:Bool) (vi:Int) (vs:ByteArray) (vd:Int) :
  fA 75 [.agg (UA w),.int .i64 i,.agg (zA (.of vk vb vi vs vd)),.agg (UA r),.int .i64 k,.sl true []] (.agg (zA (TM (ZO x y (.of vk vb vi vs vd)) (.of vk vb vi vs vd))++[.sl (ZO x y (.of vk vb vi vs vd)) [],.bool (ZO x y (.of vk vb vi vs vd))])):=by
 have g1:(w.types.map rA)[i.toNat]?=some (rA x):=by rw [yc,gx]; rfl
 have g2:(r.types.map rA)[k.toNat]?=some (rA y):=by rw [yc,gy]; rfl
 have hf:=rmis_ev;have hp:=rok_ev vk vb vi vs vd;have fb:=O3 y vd (by omega);obtain ⟨h5,h6⟩:=ul;simp only [fA,rA,BV,LA] at hf hp fb g1 g2;refine wA (c:=BB) rfl rfl ?_;simp only [UA,LA,ZO];by_cases e:x.kind=y.kind
 case neg=>simp [BB,-V,-y3,-y0,J,g1,g2,hi,hk,e,hf,TM,LA]
 rw [e] at h5 h6;have l2:∀ s k r',(s.env 8).v=.ptr 8 1 0->(s.env 18).v=.int .i64 0->s.mem 8 1=some [⟨.int .i64 vk,.no⟩,⟨.bool vb,.no⟩,⟨.int .i64 vi,.no⟩,⟨.str vs,.no⟩,⟨.int .i64 vd,.no⟩,⟨.sl true [],.no⟩,⟨.sl true [],.no⟩,⟨.sl true [],.no⟩] →
   (∀ s',s'.mem=s.mem->(∀ t,t<20->s'.env t=s.env t)->k (.exit 0) s'=some r')->TH gA eA wL s k=some r':=fun s k r' e8 dm m8 hk=>by
  refine tA ?_;simp [wL,-V,-y3,-y0,J,e8,dm,m8];exact hk _ rfl (fun t ht=>by simp; repeat (rw [if_neg (by omega)]))
 have l1:∀ s k r',(s.env 8).v=.ptr 8 1 0->(s.env 20).v=.int .i64 0->s.mem 8 1=some [⟨.int .i64 vk,.no⟩,⟨.bool vb,.no⟩,⟨.int .i64 vi,.no⟩,⟨.str vs,.no⟩,⟨.int .i64 vd,.no⟩,⟨.sl true [],.no⟩,⟨.sl true [],.no⟩,⟨.sl true [],.no⟩] →
   (∀ s',s'.mem=s.mem->(∀ t,t<20->s'.env t=s.env t)->k (.exit 2) s'=some r')->TH gA eA qL s k=some r':=fun s k r' e8 e20 m8 hk=>by
  refine tA ?_;simp [qL,-V,-y3,-y0,J,e8,e20,m8];exact hk _ rfl (fun t ht=>by simp; repeat (rw [if_neg (by omega)]))
 by_cases k2:y.kind=2
 ·by_cases c1:vi<y.low
  ·have d1:¬ y.low<=vi:=by omega
   simp [BB,-V,-y3,-y0,J,g1,g2,hi,hk,e,k2,c1,d1,hf,TM,LA,of_i]
  ·have d1:y.low<=vi:=by omega
   by_cases c2:y.high<vi
   ·have d2:¬ vi<=y.high:=by omega
    simp [BB,-V,-y3,-y0,J,g1,g2,hi,hk,e,k2,c1,c2,d1,d2,hf,TM,LA,of_i]
   ·have d2:vi<=y.high:=by omega
    simp [BB,-V,-y3,-y0,J,g1,g2,hi,hk,e,k2,c1,c2,d1,d2,TM,LA,of_i];refine l2 _ _ _ ?_ ?_ ?_ (fun s' hm he=>?_)
    ·simp
    ·simp
    ·simp
    ·have a8:=he 8 (by omega);have zf:=he 12 (by omega);have eg:=he 17 (by omega);simp at a8 zf eg;simp [-V,-y3,-y0,J,hm,a8,zf,eg];refine l1 _ _ _ ?_ ?_ ?_ (fun s2 uf si=>?_)
     ·simp [a8]
     ·simp
     ·simp
     ·have sh:=si 12 (by omega);have mi:=si 17 (by omega);simp [zf,eg] at sh mi;simp [-V,-y3,-y0,J,uf,sh,mi,hp,TM,LA]
 by_cases k3:y.kind=3
 ·by_cases c1:(vs.size:Int)<=y.max
  ·have d1:¬ y.max<(vs.size:Int):=by omega
   simp [BB,-V,-y3,-y0,J,g1,g2,hi,hk,e,k3,c1,d1,TM,LA,of_s];refine l2 _ _ _ ?_ ?_ ?_ (fun s' hm he=>?_)
   ·simp
   ·simp
   ·simp
   ·have a8:=he 8 (by omega);have zf:=he 12 (by omega);have eg:=he 17 (by omega);simp at a8 zf eg;simp [-V,-y3,-y0,J,hm,a8,zf,eg];refine l1 _ _ _ ?_ ?_ ?_ (fun s2 uf si=>?_)
    ·simp [a8]
    ·simp
    ·simp
    ·have sh:=si 12 (by omega);have mi:=si 17 (by omega);simp [zf,eg] at sh mi;simp [-V,-y3,-y0,J,uf,sh,mi,hp,TM,LA]
  ·have d1:y.max<(vs.size:Int):=by omega
   simp [BB,-V,-y3,-y0,J,g1,g2,hi,hk,e,k3,c1,d1,hf,TM,LA,of_s]
 by_cases k4:y.kind=4
 ·rw [k4] at fb;by_cases c1:0<=xG y.syms vd
  ·simp only [c1,decide_true] at fb;simp [BB,-V,-y3,-y0,J,g1,g2,hi,hk,e,k4,c1,fb,TM,LA,I0];refine l2 _ _ _ ?_ ?_ ?_ (fun s' hm he=>?_)
   ·simp
   ·simp
   ·simp
   ·have a8:=he 8 (by omega);have zf:=he 12 (by omega);have eg:=he 17 (by omega);simp at a8 zf eg;simp [-V,-y3,-y0,J,hm,a8,zf,eg];refine l1 _ _ _ ?_ ?_ ?_ (fun s2 uf si=>?_)
    ·simp [a8]
    ·simp
    ·simp
    ·have sh:=si 12 (by omega);have mi:=si 17 (by omega);simp [zf,eg] at sh mi;simp [-V,-y3,-y0,J,uf,sh,mi,hp,TM,LA]
  ·simp only [c1,decide_false] at fb;cases ho:y.opn with
   | true =>
    rw [ho] at fb;simp [BB,-V,-y3,-y0,J,g1,g2,hi,hk,e,k4,c1,ho,fb,TM,LA,I0];refine l2 _ _ _ ?_ ?_ ?_ (fun s' hm he=>?_)
    ·simp
    ·simp
    ·simp
    ·have a8:=he 8 (by omega);have zf:=he 12 (by omega);have eg:=he 17 (by omega);simp at a8 zf eg;simp [-V,-y3,-y0,J,hm,a8,zf,eg];refine l1 _ _ _ ?_ ?_ ?_ (fun s2 uf si=>?_)
     ·simp [a8]
     ·simp
     ·simp
     ·have sh:=si 12 (by omega);have mi:=si 17 (by omega);simp [zf,eg] at sh mi;simp [-V,-y3,-y0,J,uf,sh,mi,hp,TM,LA]
   | false =>
    rw [ho] at fb;simp [BB,-V,-y3,-y0,J,g1,g2,hi,hk,e,k4,c1,ho,fb,hf,TM,LA,I0]
 by_cases k7:y.kind=7
 ·have hm:=dd (.inl k7);have d1:¬ y.max<0:=by omega
  simp [BB,-V,-y3,-y0,J,g1,g2,hi,hk,e,k7,hm,d1,TM,LA];refine l2 _ _ _ ?_ ?_ ?_ (fun s' hm he=>?_)
  ·simp
  ·simp
  ·simp
  ·have a8:=he 8 (by omega);have zf:=he 12 (by omega);have eg:=he 17 (by omega);simp at a8 zf eg;simp [-V,-y3,-y0,J,hm,a8,zf,eg];refine l1 _ _ _ ?_ ?_ ?_ (fun s2 uf si=>?_)
   ·simp [a8]
   ·simp
   ·simp
   ·have sh:=si 12 (by omega);have mi:=si 17 (by omega);simp [zf,eg] at sh mi;simp [-V,-y3,-y0,J,uf,sh,mi,hp,TM,LA]
 by_cases k8:y.kind=8
 ·have hm:=dd (.inr k8);have d1:¬ y.max<0:=by omega
  simp [BB,-V,-y3,-y0,J,g1,g2,hi,hk,e,k8,hm,d1,TM,LA];refine l2 _ _ _ ?_ ?_ ?_ (fun s' hm he=>?_)
  ·simp
  ·simp
  ·simp
  ·have a8:=he 8 (by omega);have zf:=he 12 (by omega);have eg:=he 17 (by omega);simp at a8 zf eg;simp [-V,-y3,-y0,J,hm,a8,zf,eg];refine l1 _ _ _ ?_ ?_ ?_ (fun s2 uf si=>?_)
   ·simp [a8]
   ·simp
   ·simp
   ·have sh:=si 12 (by omega);have mi:=si 17 (by omega);simp [zf,eg] at sh mi;simp [-V,-y3,-y0,J,uf,sh,mi,hp,TM,LA]
 simp [BB,-V,-y3,-y0,J,g1,g2,hi,hk,e,k2,k3,k4,h5,h6,k7,k8,TM,LA];refine l2 _ _ _ ?_ ?_ ?_ (fun s' hm he=>?_)
 ·simp
 ·simp
 ·simp
 ·have a8:=he 8 (by omega);have zf:=he 12 (by omega);have eg:=he 17 (by omega);simp at a8 zf eg;simp [-V,-y3,-y0,J,hm,a8,zf,eg];refine l1 _ _ _ ?_ ?_ ?_ (fun s2 uf si=>?_)
  ·simp [a8]
  ·simp
  ·simp
  ·have sh:=si 12 (by omega);have mi:=si 17 (by omega);simp [zf,eg] at sh mi;simp [-V,-y3,-y0,J,uf,sh,mi,hp,TM,LA]
end Go.Proofs.YtbnlmgncbgaepaaGreat
