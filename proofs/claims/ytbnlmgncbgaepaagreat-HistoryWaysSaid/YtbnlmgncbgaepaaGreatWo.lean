/- A part of the proof. -/
import Derived.Test.YtbnlmgncbgaepaaGreatWn
set_option linter.all false
set_option maxRecDepth 100000
set_option maxHeartbeats 8000000
open Option renaming bind_some → V
open List renaming range_succ → J, map_map → y0, getElem?_map → yc
open Int renaming toNat_lt → y3
namespace Go.Proofs.YtbnlmgncbgaepaaGreat
open Go
theorem reason_ev (w r:Sch) {x y:Typ} {i k:Int} (hi:0<=i) (gx:w.types[i.toNat]?=some x) (hk:0<=k) (gy:r.types[k.toNat]?=some y) (hx:TyGd w.types x) (hy:TyGd r.types y) {mns:Mem->Mem->Bool} (hR:Means2 w r mns x.mems y.mems):evA 77 [.agg (schC w),.int .i64 i,.agg (schC r),.int .i64 k] (.int .i64 (rsnP mns w.types x y)):=by
 have g1:(w.types.map typC)[i.toNat]?=some (typC x):=by rw [yc,gx]; rfl
 have g2:(r.types.map typC)[k.toNat]?=some (typC y):=by rw [yc,gy]; rfl
 have ed:=covered_ev x y hx.syms hx.mems hy.syms hy.mems;have na:=smembers_ev w r x y hx.mems hy.mems hR;simp only [evA,schC,typC] at ed na g1 g2;refine q00 (c:=q0g) rfl rfl ?_;unfold rsnP;by_cases e:x.kind=y.kind
 case neg=>simp [q0g,-V,-y3,-y0,J,schC,g1,g2,hi,hk,e]
 rw [if_neg (by simpa using e),e];simp only [e] at ed na;by_cases k2:y.kind=2
 ·by_cases c1:x.low<y.low
  ·simp [q0g,-V,-y3,-y0,J,schC,g1,g2,hi,hk,e,k2,c1]
  ·by_cases c2:y.high<x.high
   ·simp [q0g,-V,-y3,-y0,J,schC,g1,g2,hi,hk,e,k2,c1,c2]
   ·simp [q0g,-V,-y3,-y0,J,schC,g1,g2,hi,hk,e,k2,c1,c2]
 by_cases k3:y.kind=3
 ·by_cases c1:y.max<x.max
  ·simp [q0g,-V,-y3,-y0,J,schC,g1,g2,hi,hk,e,k3,c1]
  ·simp [q0g,-V,-y3,-y0,J,schC,g1,g2,hi,hk,e,k3,c1]
 by_cases k7:y.kind=7
 ·by_cases c1:y.max<x.max
  ·simp [q0g,-V,-y3,-y0,J,schC,g1,g2,hi,hk,e,k7,c1]
  ·simp [q0g,-V,-y3,-y0,J,schC,g1,g2,hi,hk,e,k7,c1]
 by_cases k8:y.kind=8
 ·obtain ⟨h0,bK,t,gt,t1,t4,tsm⟩:=hx.key (e.trans k8);have g3:(w.types.map typC)[x.key.toNat]?=some (typC t):=by rw [yc,gt]; rfl
  have sb:=keys_ev t tsm;have bD:=keys_min t ⟨t1,t4⟩ tsm (m:=x.max) (n:=y.max) bK;simp only [evA,typC] at sb g3;have ji:keyN w.types x=keysR t:=by unfold keyN; rw [gt]
  rw [ji];by_cases c1:y.max<min x.max (keysP t)
  ·have c2:=bD.1 c1;simp only [c2,if_true];generalize keysP t=q at *
   simp [q0g,-V,-y3,-y0,J,schC,g1,g2,g3,h0,sb,hi,hk,e,k2,k3,k7,k8];rw [decide_eq_true c1];rfl
  ·have c2:¬ y.max<min x.max (keysR t):=fun h=>c1 (bD.2 h)
   simp only [c2,if_false];generalize keysP t=q at *
   simp [q0g,-V,-y3,-y0,J,schC,g1,g2,g3,h0,sb,hi,hk,e,k2,k3,k7,k8];rw [decide_eq_false c1];rfl
 by_cases k4:y.kind=4
 ·rw [k4] at ed;cases c1:(y.opn||allP x y) with
  | true =>
   rw [c1] at ed;rw [Bool.or_eq_true] at c1;simp [q0g,-V,-y3,-y0,J,schC,g1,g2,hi,hk,e,k4,ed,c1]
  | false =>
   rw [c1] at ed;rw [Bool.or_eq_false_iff] at c1;obtain ⟨c2,c3⟩:=c1;rw [c2] at ed;simp [q0g,-V,-y3,-y0,J,schC,g1,g2,hi,hk,e,k4,ed,c2,c3]
 by_cases k6:y.kind=6
 ·rw [k6] at ed;cases c1:(y.opn||allP x y) with
  | true =>
   rw [c1] at ed;rw [Bool.or_eq_true] at c1;simp [q0g,-V,-y3,-y0,J,schC,g1,g2,hi,hk,e,k6,ed,c1]
  | false =>
   rw [c1] at ed;rw [Bool.or_eq_false_iff] at c1;obtain ⟨c2,c3⟩:=c1;rw [c2] at ed;simp [q0g,-V,-y3,-y0,J,schC,g1,g2,hi,hk,e,k6,ed,c2,c3]
 by_cases k5:y.kind=5
 ·rw [k5] at na;simp [q0g,-V,-y3,-y0,J,schC,g1,g2,hi,hk,e,k5,na]
 ·simp [q0g,-V,-y3,-y0,J,schC,g1,g2,hi,hk,e,k2,k3,k4,k5,k6,k7,k8]
theorem rmis_ev:evA 122 [.sl true []] (.agg [.int .i64 0,.bool false,.int .i64 0,.str ⟨#[]⟩,.int .i64 0,.sl true [],.sl true [],.sl true [],.sl false [],.bool false]):=by
 refine q00 (c:=q4I) rfl rfl ?_;have h0:q0G 8 0=true:=by decide
 simp [q4I,-V,-y3,-y0,J,h0]
theorem rok_ev (vk:Int) (vb:Bool) (vi:Int) (vs:ByteArray) (vd:Int):evA 127 [.agg (valC (.of vk vb vi vs vd))] (.agg [.int .i64 vk,.bool vb,.int .i64 vi,.str vs,.int .i64 vd,.sl true [],.sl true [],.sl true [],.sl true [],.bool true]):=by
 refine q00 (c:=q6Z) rfl rfl ?_;rw [q0q];simp [q6Z,-V,-y3,-y0,J]
theorem rread_ev (w r:Sch) {x y:Typ} {i k:Int} (hi:0<=i) (gx:w.types[i.toNat]?=some x) (hk:0<=k) (gy:r.types[k.toNat]?=some y) (ik:y.syms.length<=8796093022206) (ad:y.kind=7\/y.kind=8->0<=y.max) (dm:x.kind≠5/\x.kind≠6) (vk:Int) (vb:Bool) (vi:Int) (vs:ByteArray) (vd:Int) :
  evA 75 [.agg (schC w),.int .i64 i,.agg (valC (.of vk vb vi vs vd)),.agg (schC r),.int .i64 k,.sl true []] (.agg (valC (rdV (rdOk x y (.of vk vb vi vs vd)) (.of vk vb vi vs vd))++[.sl (rdOk x y (.of vk vb vi vs vd)) [],.bool (rdOk x y (.of vk vb vi vs vd))])):=by
 have g1:(w.types.map typC)[i.toNat]?=some (typC x):=by rw [yc,gx]; rfl
 have g2:(r.types.map typC)[k.toNat]?=some (typC y):=by rw [yc,gy]; rfl
 have hf:=rmis_ev;have hp:=rok_ev vk vb vi vs vd;have fb:=rsym_ev y vd (by omega);obtain ⟨h5,h6⟩:=dm;simp only [evA,typC,symA,q0q] at hf hp fb g1 g2;refine q00 (c:=q12) rfl rfl ?_;simp only [schC,q0q,rdOk];by_cases e:x.kind=y.kind
 case neg=>simp [q12,-V,-y3,-y0,J,g1,g2,hi,hk,e,hf,rdV,q0q]
 rw [e] at h5 h6;have l2:∀ s k r',(s.env 8).v=.ptr 8 1 0->(s.env 18).v=.int .i64 0->s.mem 8 1=some [⟨.int .i64 vk,.no⟩,⟨.bool vb,.no⟩,⟨.int .i64 vi,.no⟩,⟨.str vs,.no⟩,⟨.int .i64 vd,.no⟩,⟨.sl true [],.no⟩,⟨.sl true [],.no⟩,⟨.sl true [],.no⟩] →
   (∀ s',s'.mem=s.mem->(∀ t,t<20->s'.env t=s.env t)->k (.exit 0) s'=some r')->evL allT q01 q6A s k=some r':=fun s k r' e8 lf m8 hk=>by
  refine q02 ?_;simp [q6A,-V,-y3,-y0,J,e8,lf,m8];exact hk _ rfl (fun t ht=>by simp; repeat (rw [if_neg (by omega)]))
 have l1:∀ s k r',(s.env 8).v=.ptr 8 1 0->(s.env 20).v=.int .i64 0->s.mem 8 1=some [⟨.int .i64 vk,.no⟩,⟨.bool vb,.no⟩,⟨.int .i64 vi,.no⟩,⟨.str vs,.no⟩,⟨.int .i64 vd,.no⟩,⟨.sl true [],.no⟩,⟨.sl true [],.no⟩,⟨.sl true [],.no⟩] →
   (∀ s',s'.mem=s.mem->(∀ t,t<20->s'.env t=s.env t)->k (.exit 2) s'=some r')->evL allT q01 q6z s k=some r':=fun s k r' e8 e20 m8 hk=>by
  refine q02 ?_;simp [q6z,-V,-y3,-y0,J,e8,e20,m8];exact hk _ rfl (fun t ht=>by simp; repeat (rw [if_neg (by omega)]))
 by_cases k2:y.kind=2
 ·by_cases c1:vi<y.low
  ·have d1:¬ y.low<=vi:=by omega
   simp [q12,-V,-y3,-y0,J,g1,g2,hi,hk,e,k2,c1,d1,hf,rdV,q0q,of_i]
  ·have d1:y.low<=vi:=by omega
   by_cases c2:y.high<vi
   ·have d2:¬ vi<=y.high:=by omega
    simp [q12,-V,-y3,-y0,J,g1,g2,hi,hk,e,k2,c1,c2,d1,d2,hf,rdV,q0q,of_i]
   ·have d2:vi<=y.high:=by omega
    simp [q12,-V,-y3,-y0,J,g1,g2,hi,hk,e,k2,c1,c2,d1,d2,rdV,q0q,of_i];refine l2 _ _ _ ?_ ?_ ?_ (fun s' hm he=>?_)
    ·simp
    ·simp
    ·simp
    ·have a8:=he 8 (by omega);have fg:=he 12 (by omega);have dg:=he 17 (by omega);simp at a8 fg dg;simp [-V,-y3,-y0,J,hm,a8,fg,dg];refine l1 _ _ _ ?_ ?_ ?_ (fun s2 nh ti=>?_)
     ·simp [a8]
     ·simp
     ·simp
     ·have rh:=ti 12 (by omega);have ni:=ti 17 (by omega);simp [fg,dg] at rh ni;simp [-V,-y3,-y0,J,nh,rh,ni,hp,rdV,q0q]
 by_cases k3:y.kind=3
 ·by_cases c1:(vs.size:Int)<=y.max
  ·have d1:¬ y.max<(vs.size:Int):=by omega
   simp [q12,-V,-y3,-y0,J,g1,g2,hi,hk,e,k3,c1,d1,rdV,q0q,of_s];refine l2 _ _ _ ?_ ?_ ?_ (fun s' hm he=>?_)
   ·simp
   ·simp
   ·simp
   ·have a8:=he 8 (by omega);have fg:=he 12 (by omega);have dg:=he 17 (by omega);simp at a8 fg dg;simp [-V,-y3,-y0,J,hm,a8,fg,dg];refine l1 _ _ _ ?_ ?_ ?_ (fun s2 nh ti=>?_)
    ·simp [a8]
    ·simp
    ·simp
    ·have rh:=ti 12 (by omega);have ni:=ti 17 (by omega);simp [fg,dg] at rh ni;simp [-V,-y3,-y0,J,nh,rh,ni,hp,rdV,q0q]
  ·have d1:y.max<(vs.size:Int):=by omega
   simp [q12,-V,-y3,-y0,J,g1,g2,hi,hk,e,k3,c1,d1,hf,rdV,q0q,of_s]
 by_cases k4:y.kind=4
 ·rw [k4] at fb;by_cases c1:0<=q5H y.syms vd
  ·simp only [c1,decide_true] at fb;simp [q12,-V,-y3,-y0,J,g1,g2,hi,hk,e,k4,c1,fb,rdV,q0q,of_id];refine l2 _ _ _ ?_ ?_ ?_ (fun s' hm he=>?_)
   ·simp
   ·simp
   ·simp
   ·have a8:=he 8 (by omega);have fg:=he 12 (by omega);have dg:=he 17 (by omega);simp at a8 fg dg;simp [-V,-y3,-y0,J,hm,a8,fg,dg];refine l1 _ _ _ ?_ ?_ ?_ (fun s2 nh ti=>?_)
    ·simp [a8]
    ·simp
    ·simp
    ·have rh:=ti 12 (by omega);have ni:=ti 17 (by omega);simp [fg,dg] at rh ni;simp [-V,-y3,-y0,J,nh,rh,ni,hp,rdV,q0q]
  ·simp only [c1,decide_false] at fb;cases ho:y.opn with
   | true =>
    rw [ho] at fb;simp [q12,-V,-y3,-y0,J,g1,g2,hi,hk,e,k4,c1,ho,fb,rdV,q0q,of_id];refine l2 _ _ _ ?_ ?_ ?_ (fun s' hm he=>?_)
    ·simp
    ·simp
    ·simp
    ·have a8:=he 8 (by omega);have fg:=he 12 (by omega);have dg:=he 17 (by omega);simp at a8 fg dg;simp [-V,-y3,-y0,J,hm,a8,fg,dg];refine l1 _ _ _ ?_ ?_ ?_ (fun s2 nh ti=>?_)
     ·simp [a8]
     ·simp
     ·simp
     ·have rh:=ti 12 (by omega);have ni:=ti 17 (by omega);simp [fg,dg] at rh ni;simp [-V,-y3,-y0,J,nh,rh,ni,hp,rdV,q0q]
   | false =>
    rw [ho] at fb;simp [q12,-V,-y3,-y0,J,g1,g2,hi,hk,e,k4,c1,ho,fb,hf,rdV,q0q,of_id]
 by_cases k7:y.kind=7
 ·have hm:=ad (.inl k7);have d1:¬ y.max<0:=by omega
  simp [q12,-V,-y3,-y0,J,g1,g2,hi,hk,e,k7,hm,d1,rdV,q0q];refine l2 _ _ _ ?_ ?_ ?_ (fun s' hm he=>?_)
  ·simp
  ·simp
  ·simp
  ·have a8:=he 8 (by omega);have fg:=he 12 (by omega);have dg:=he 17 (by omega);simp at a8 fg dg;simp [-V,-y3,-y0,J,hm,a8,fg,dg];refine l1 _ _ _ ?_ ?_ ?_ (fun s2 nh ti=>?_)
   ·simp [a8]
   ·simp
   ·simp
   ·have rh:=ti 12 (by omega);have ni:=ti 17 (by omega);simp [fg,dg] at rh ni;simp [-V,-y3,-y0,J,nh,rh,ni,hp,rdV,q0q]
 by_cases k8:y.kind=8
 ·have hm:=ad (.inr k8);have d1:¬ y.max<0:=by omega
  simp [q12,-V,-y3,-y0,J,g1,g2,hi,hk,e,k8,hm,d1,rdV,q0q];refine l2 _ _ _ ?_ ?_ ?_ (fun s' hm he=>?_)
  ·simp
  ·simp
  ·simp
  ·have a8:=he 8 (by omega);have fg:=he 12 (by omega);have dg:=he 17 (by omega);simp at a8 fg dg;simp [-V,-y3,-y0,J,hm,a8,fg,dg];refine l1 _ _ _ ?_ ?_ ?_ (fun s2 nh ti=>?_)
   ·simp [a8]
   ·simp
   ·simp
   ·have rh:=ti 12 (by omega);have ni:=ti 17 (by omega);simp [fg,dg] at rh ni;simp [-V,-y3,-y0,J,nh,rh,ni,hp,rdV,q0q]
 simp [q12,-V,-y3,-y0,J,g1,g2,hi,hk,e,k2,k3,k4,h5,h6,k7,k8,rdV,q0q];refine l2 _ _ _ ?_ ?_ ?_ (fun s' hm he=>?_)
 ·simp
 ·simp
 ·simp
 ·have a8:=he 8 (by omega);have fg:=he 12 (by omega);have dg:=he 17 (by omega);simp at a8 fg dg;simp [-V,-y3,-y0,J,hm,a8,fg,dg];refine l1 _ _ _ ?_ ?_ ?_ (fun s2 nh ti=>?_)
  ·simp [a8]
  ·simp
  ·simp
  ·have rh:=ti 12 (by omega);have ni:=ti 17 (by omega);simp [fg,dg] at rh ni;simp [-V,-y3,-y0,J,nh,rh,ni,hp,rdV,q0q]
end Go.Proofs.YtbnlmgncbgaepaaGreat
