/- A part of the proof. -/
import Derived.Test.YtbnlmgncbgaepaaGreatXn
set_option linter.all false
set_option maxRecDepth 100000
set_option maxHeartbeats 8000000
open Option renaming bind_some → V
open List renaming range_succ → J, map_map → y0, getElem?_map → yc
open Int renaming toNat_lt → y3
namespace Go.Proofs.YtbnlmgncbgaepaaGreat
open Go
theorem reason_ev (w r:SG) {x y:fA} {i k:Int} (hi:0<=i) (gx:w.types[i.toNat]?=some x) (hk:0<=k) (gy:r.types[k.toNat]?=some y) (hx:TyGd w.types x) (hy:TyGd r.types y) {mns:BB->BB->Bool} (hR:aV w r mns x.mems y.mems):gA 77 [.agg (WA w),.int .i64 i,.agg (WA r),.int .i64 k] (.int .i64 (F7 mns w.types x y)):=by
 have g1:(w.types.map eA)[i.toNat]?=some (eA x):=by rw [yc,gx]; rfl
 have g2:(r.types.map eA)[k.toNat]?=some (eA y):=by rw [yc,gy]; rfl
 have wc:=G6 x y hx.syms hx.mems hy.syms hy.mems;have ma:=L5 w r x y hx.mems hy.mems hR;simp only [gA,WA,eA] at wc ma g1 g2;refine wA (c:=DA) rfl rfl ?_;unfold F7;by_cases e:x.kind=y.kind
 case neg=>simp [DA,-V,-y3,-y0,J,WA,g1,g2,hi,hk,e]
 rw [if_neg (by simpa using e),e];simp only [e] at wc ma;by_cases k2:y.kind=2
 ·by_cases c1:x.low<y.low
  ·simp [DA,-V,-y3,-y0,J,WA,g1,g2,hi,hk,e,k2,c1]
  ·by_cases c2:y.high<x.high
   ·simp [DA,-V,-y3,-y0,J,WA,g1,g2,hi,hk,e,k2,c1,c2]
   ·simp [DA,-V,-y3,-y0,J,WA,g1,g2,hi,hk,e,k2,c1,c2]
 by_cases k3:y.kind=3
 ·by_cases c1:y.max<x.max
  ·simp [DA,-V,-y3,-y0,J,WA,g1,g2,hi,hk,e,k3,c1]
  ·simp [DA,-V,-y3,-y0,J,WA,g1,g2,hi,hk,e,k3,c1]
 by_cases k7:y.kind=7
 ·by_cases c1:y.max<x.max
  ·simp [DA,-V,-y3,-y0,J,WA,g1,g2,hi,hk,e,k7,c1]
  ·simp [DA,-V,-y3,-y0,J,WA,g1,g2,hi,hk,e,k7,c1]
 by_cases k8:y.kind=8
 ·obtain ⟨h0,h50,t,gt,t1,t4,tsm⟩:=hx.key (e.trans k8);have g3:(w.types.map eA)[x.key.toNat]?=some (eA t):=by rw [yc,gt]; rfl
  have tb:=keys_ev t tsm;have hmin:=keys_min t ⟨t1,t4⟩ tsm (m:=x.max) (n:=y.max) h50;simp only [gA,eA] at tb g3;have zw:keyN w.types x=SR t:=by unfold keyN; rw [gt]
  rw [zw];by_cases c1:y.max<min x.max (eW t)
  ·have c2:=hmin.1 c1;simp only [c2,if_true];generalize eW t=q at *
   simp [DA,-V,-y3,-y0,J,WA,g1,g2,g3,h0,tb,hi,hk,e,k2,k3,k7,k8];rw [decide_eq_true c1];rfl
  ·have c2:¬ y.max<min x.max (SR t):=fun h=>c1 (hmin.2 h)
   simp only [c2,if_false];generalize eW t=q at *
   simp [DA,-V,-y3,-y0,J,WA,g1,g2,g3,h0,tb,hi,hk,e,k2,k3,k7,k8];rw [decide_eq_false c1];rfl
 by_cases k4:y.kind=4
 ·rw [k4] at wc;cases c1:(y.opn||QL x y) with
  | true =>
   rw [c1] at wc;rw [Bool.or_eq_true] at c1;simp [DA,-V,-y3,-y0,J,WA,g1,g2,hi,hk,e,k4,wc,c1]
  | false =>
   rw [c1] at wc;rw [Bool.or_eq_false_iff] at c1;obtain ⟨c2,c3⟩:=c1;rw [c2] at wc;simp [DA,-V,-y3,-y0,J,WA,g1,g2,hi,hk,e,k4,wc,c2,c3]
 by_cases k6:y.kind=6
 ·rw [k6] at wc;cases c1:(y.opn||QL x y) with
  | true =>
   rw [c1] at wc;rw [Bool.or_eq_true] at c1;simp [DA,-V,-y3,-y0,J,WA,g1,g2,hi,hk,e,k6,wc,c1]
  | false =>
   rw [c1] at wc;rw [Bool.or_eq_false_iff] at c1;obtain ⟨c2,c3⟩:=c1;rw [c2] at wc;simp [DA,-V,-y3,-y0,J,WA,g1,g2,hi,hk,e,k6,wc,c2,c3]
 by_cases k5:y.kind=5
 ·rw [k5] at ma;simp [DA,-V,-y3,-y0,J,WA,g1,g2,hi,hk,e,k5,ma]
 ·simp [DA,-V,-y3,-y0,J,WA,g1,g2,hi,hk,e,k2,k3,k4,k5,k6,k7,k8]
theorem rmis_ev:gA 122 [.sl true []] (.agg [.int .i64 0,.bool false,.int .i64 0,.str ⟨#[]⟩,.int .i64 0,.sl true [],.sl true [],.sl true [],.sl false [],.bool false]):=by
 refine wA (c:=kI) rfl rfl ?_;have h0:eB 8 0=true:=by decide
 simp [kI,-V,-y3,-y0,J,h0]
theorem rok_ev (vk:Int) (vb:Bool) (vi:Int) (vs:ByteArray) (vd:Int):gA 127 [.agg (zA (.of vk vb vi vs vd))] (.agg [.int .i64 vk,.bool vb,.int .i64 vi,.str vs,.int .i64 vd,.sl true [],.sl true [],.sl true [],.sl true [],.bool true]):=by
 refine wA (c:=IL) rfl rfl ?_;rw [KA];simp [IL,-V,-y3,-y0,J]
theorem rread_ev (w r:SG) {x y:fA} {i k:Int} (hi:0<=i) (gx:w.types[i.toNat]?=some x) (hk:0<=k) (gy:r.types[k.toNat]?=some y) (gl:y.syms.length<=8796093022206) (dd:y.kind=7\/y.kind=8->0<=y.max) (gn:x.kind≠5/\x.kind≠6) (vk:Int) (vb:Bool) (vi:Int) (vs:ByteArray) (vd:Int) :
  gA 75 [.agg (WA w),.int .i64 i,.agg (zA (.of vk vb vi vs vd)),.agg (WA r),.int .i64 k,.sl true []] (.agg (zA (IM (FN x y (.of vk vb vi vs vd)) (.of vk vb vi vs vd))++[.sl (FN x y (.of vk vb vi vs vd)) [],.bool (FN x y (.of vk vb vi vs vd))])):=by
 have g1:(w.types.map eA)[i.toNat]?=some (eA x):=by rw [yc,gx]; rfl
 have g2:(r.types.map eA)[k.toNat]?=some (eA y):=by rw [yc,gy]; rfl
 have hf:=rmis_ev;have hp:=rok_ev vk vb vi vs vd;have eb:=D1 y vd (by omega);obtain ⟨h5,h6⟩:=gn;simp only [gA,eA,ZU,KA] at hf hp eb g1 g2;refine wA (c:=eC) rfl rfl ?_;simp only [WA,KA,FN];by_cases e:x.kind=y.kind
 case neg=>simp [eC,-V,-y3,-y0,J,g1,g2,hi,hk,e,hf,IM,KA]
 rw [e] at h5 h6;have l2:∀ s k r',(s.env 8).v=.ptr 8 1 0->(s.env 18).v=.int .i64 0->s.mem 8 1=some [⟨.int .i64 vk,.no⟩,⟨.bool vb,.no⟩,⟨.int .i64 vi,.no⟩,⟨.str vs,.no⟩,⟨.int .i64 vd,.no⟩,⟨.sl true [],.no⟩,⟨.sl true [],.no⟩,⟨.sl true [],.no⟩] →
   (∀ s',s'.mem=s.mem->(∀ t,t<20->s'.env t=s.env t)->k (.exit 0) s'=some r')->OI jA rA lL s k=some r':=fun s k r' e8 ao m8 hk=>by
  refine tA ?_;simp [lL,-V,-y3,-y0,J,e8,ao,m8];exact hk _ rfl (fun t ht=>by simp; repeat (rw [if_neg (by omega)]))
 have l1:∀ s k r',(s.env 8).v=.ptr 8 1 0->(s.env 20).v=.int .i64 0->s.mem 8 1=some [⟨.int .i64 vk,.no⟩,⟨.bool vb,.no⟩,⟨.int .i64 vi,.no⟩,⟨.str vs,.no⟩,⟨.int .i64 vd,.no⟩,⟨.sl true [],.no⟩,⟨.sl true [],.no⟩,⟨.sl true [],.no⟩] →
   (∀ s',s'.mem=s.mem->(∀ t,t<20->s'.env t=s.env t)->k (.exit 2) s'=some r')->OI jA rA kL s k=some r':=fun s k r' e8 mq m8 hk=>by
  refine tA ?_;simp [kL,-V,-y3,-y0,J,e8,mq,m8];exact hk _ rfl (fun t ht=>by simp; repeat (rw [if_neg (by omega)]))
 by_cases k2:y.kind=2
 ·by_cases c1:vi<y.low
  ·have d1:¬ y.low<=vi:=by omega
   simp [eC,-V,-y3,-y0,J,g1,g2,hi,hk,e,k2,c1,d1,hf,IM,KA,of_i]
  ·have d1:y.low<=vi:=by omega
   by_cases c2:y.high<vi
   ·have d2:¬ vi<=y.high:=by omega
    simp [eC,-V,-y3,-y0,J,g1,g2,hi,hk,e,k2,c1,c2,d1,d2,hf,IM,KA,of_i]
   ·have d2:vi<=y.high:=by omega
    simp [eC,-V,-y3,-y0,J,g1,g2,hi,hk,e,k2,c1,c2,d1,d2,IM,KA,of_i];refine l2 _ _ _ ?_ ?_ ?_ (fun s' hm he=>?_)
    ·simp
    ·simp
    ·simp
    ·have a8:=he 8 (by omega);have dg:=he 12 (by omega);have bg:=he 17 (by omega);simp at a8 dg bg;simp [-V,-y3,-y0,J,hm,a8,dg,bg];refine l1 _ _ _ ?_ ?_ ?_ (fun s2 ah dj=>?_)
     ·simp [a8]
     ·simp
     ·simp
     ·have uh:=dj 12 (by omega);have wi:=dj 17 (by omega);simp [dg,bg] at uh wi;simp [-V,-y3,-y0,J,ah,uh,wi,hp,IM,KA]
 by_cases k3:y.kind=3
 ·by_cases c1:(vs.size:Int)<=y.max
  ·have d1:¬ y.max<(vs.size:Int):=by omega
   simp [eC,-V,-y3,-y0,J,g1,g2,hi,hk,e,k3,c1,d1,IM,KA,of_s];refine l2 _ _ _ ?_ ?_ ?_ (fun s' hm he=>?_)
   ·simp
   ·simp
   ·simp
   ·have a8:=he 8 (by omega);have dg:=he 12 (by omega);have bg:=he 17 (by omega);simp at a8 dg bg;simp [-V,-y3,-y0,J,hm,a8,dg,bg];refine l1 _ _ _ ?_ ?_ ?_ (fun s2 ah dj=>?_)
    ·simp [a8]
    ·simp
    ·simp
    ·have uh:=dj 12 (by omega);have wi:=dj 17 (by omega);simp [dg,bg] at uh wi;simp [-V,-y3,-y0,J,ah,uh,wi,hp,IM,KA]
  ·have d1:y.max<(vs.size:Int):=by omega
   simp [eC,-V,-y3,-y0,J,g1,g2,hi,hk,e,k3,c1,d1,hf,IM,KA,of_s]
 by_cases k4:y.kind=4
 ·rw [k4] at eb;by_cases c1:0<=wG y.syms vd
  ·simp only [c1,decide_true] at eb;simp [eC,-V,-y3,-y0,J,g1,g2,hi,hk,e,k4,c1,eb,IM,KA,CY];refine l2 _ _ _ ?_ ?_ ?_ (fun s' hm he=>?_)
   ·simp
   ·simp
   ·simp
   ·have a8:=he 8 (by omega);have dg:=he 12 (by omega);have bg:=he 17 (by omega);simp at a8 dg bg;simp [-V,-y3,-y0,J,hm,a8,dg,bg];refine l1 _ _ _ ?_ ?_ ?_ (fun s2 ah dj=>?_)
    ·simp [a8]
    ·simp
    ·simp
    ·have uh:=dj 12 (by omega);have wi:=dj 17 (by omega);simp [dg,bg] at uh wi;simp [-V,-y3,-y0,J,ah,uh,wi,hp,IM,KA]
  ·simp only [c1,decide_false] at eb;cases ho:y.opn with
   | true =>
    rw [ho] at eb;simp [eC,-V,-y3,-y0,J,g1,g2,hi,hk,e,k4,c1,ho,eb,IM,KA,CY];refine l2 _ _ _ ?_ ?_ ?_ (fun s' hm he=>?_)
    ·simp
    ·simp
    ·simp
    ·have a8:=he 8 (by omega);have dg:=he 12 (by omega);have bg:=he 17 (by omega);simp at a8 dg bg;simp [-V,-y3,-y0,J,hm,a8,dg,bg];refine l1 _ _ _ ?_ ?_ ?_ (fun s2 ah dj=>?_)
     ·simp [a8]
     ·simp
     ·simp
     ·have uh:=dj 12 (by omega);have wi:=dj 17 (by omega);simp [dg,bg] at uh wi;simp [-V,-y3,-y0,J,ah,uh,wi,hp,IM,KA]
   | false =>
    rw [ho] at eb;simp [eC,-V,-y3,-y0,J,g1,g2,hi,hk,e,k4,c1,ho,eb,hf,IM,KA,CY]
 by_cases k7:y.kind=7
 ·have hm:=dd (.inl k7);have d1:¬ y.max<0:=by omega
  simp [eC,-V,-y3,-y0,J,g1,g2,hi,hk,e,k7,hm,d1,IM,KA];refine l2 _ _ _ ?_ ?_ ?_ (fun s' hm he=>?_)
  ·simp
  ·simp
  ·simp
  ·have a8:=he 8 (by omega);have dg:=he 12 (by omega);have bg:=he 17 (by omega);simp at a8 dg bg;simp [-V,-y3,-y0,J,hm,a8,dg,bg];refine l1 _ _ _ ?_ ?_ ?_ (fun s2 ah dj=>?_)
   ·simp [a8]
   ·simp
   ·simp
   ·have uh:=dj 12 (by omega);have wi:=dj 17 (by omega);simp [dg,bg] at uh wi;simp [-V,-y3,-y0,J,ah,uh,wi,hp,IM,KA]
 by_cases k8:y.kind=8
 ·have hm:=dd (.inr k8);have d1:¬ y.max<0:=by omega
  simp [eC,-V,-y3,-y0,J,g1,g2,hi,hk,e,k8,hm,d1,IM,KA];refine l2 _ _ _ ?_ ?_ ?_ (fun s' hm he=>?_)
  ·simp
  ·simp
  ·simp
  ·have a8:=he 8 (by omega);have dg:=he 12 (by omega);have bg:=he 17 (by omega);simp at a8 dg bg;simp [-V,-y3,-y0,J,hm,a8,dg,bg];refine l1 _ _ _ ?_ ?_ ?_ (fun s2 ah dj=>?_)
   ·simp [a8]
   ·simp
   ·simp
   ·have uh:=dj 12 (by omega);have wi:=dj 17 (by omega);simp [dg,bg] at uh wi;simp [-V,-y3,-y0,J,ah,uh,wi,hp,IM,KA]
 simp [eC,-V,-y3,-y0,J,g1,g2,hi,hk,e,k2,k3,k4,h5,h6,k7,k8,IM,KA];refine l2 _ _ _ ?_ ?_ ?_ (fun s' hm he=>?_)
 ·simp
 ·simp
 ·simp
 ·have a8:=he 8 (by omega);have dg:=he 12 (by omega);have bg:=he 17 (by omega);simp at a8 dg bg;simp [-V,-y3,-y0,J,hm,a8,dg,bg];refine l1 _ _ _ ?_ ?_ ?_ (fun s2 ah dj=>?_)
  ·simp [a8]
  ·simp
  ·simp
  ·have uh:=dj 12 (by omega);have wi:=dj 17 (by omega);simp [dg,bg] at uh wi;simp [-V,-y3,-y0,J,ah,uh,wi,hp,IM,KA]
end Go.Proofs.YtbnlmgncbgaepaaGreat
