/- A part of the proof. -/
import Derived.Test.YtbnlmgncbgaepaaGreatWi
import Derived.Test.YtbnlmgncbgaepaaGreatWn
set_option linter.all false
set_option maxRecDepth 100000
set_option maxHeartbeats 8000000
open Option renaming bind_some → V
open List renaming range_succ → J, map_map → y0, getElem?_map → yc
open Int renaming toNat_lt → y3
namespace Go.Proofs.YtbnlmgncbgaepaaGreat
open Go
theorem vclone0:evA 228 [.sl true []] (.sl true []):=by
 refine q00 (c:=q3o) rfl rfl ?_;simp [q3o,-V,-y3,-y0,J,isNil]
def pairC (w r:Sch):List AV:=[.sl w.nl (w.types.map typC),.sl r.nl (r.types.map typC),.sl true [],.sl true []]
theorem pfail_ev (w r:Sch):evC allT q01 216 [.undef,.undef,.ptr 0 0 0] (some (.agg (pairC w r)))=some (.tup [.agg [.int .i64 0,.bool false,.int .i64 0,.str ⟨#[]⟩,.int .i64 0,.sl true [],.sl true [],.sl true []],.bool false],some (.agg (pairC w r))):=by
 have hc:=vclone0;simp only [evA] at hc;refine qap q2V rfl rfl ?_;simp [q2V,-V,-y3,-y0,J,q1w,q3C,q2z,q6l,q1C,finR,q7u,pairC,hc]
theorem pparts_ev (w r:Sch) (a b:Int):evC allT q01 219 [.undef,.undef,.ptr 0 0 0,.int .i64 a,.sl true [],.int .i64 b] (some (.agg (pairC w r)))=some (.tup [.sl true [],.bool true],some (.agg (pairC w r))):=by
 refine qap q2H rfl rfl ?_;simp [q2H,-V,-y3,-y0,J,q1w,q3C,q2z,q6l,q1C,finR,q7u,pairC];refine q06 0 (fun _ s=>(s.env 16).v=.int .i64 0/\(s.env 17).v=.int .i64 0/\(s.env 10).v=.sl true []/\s.mem 0 0=some [⟨.sl w.nl (w.types.map typC),q1C (.sl w.nl (w.types.map typC))⟩,⟨.sl r.nl (r.types.map typC),q1C (.sl r.nl (r.types.map typC))⟩,⟨.sl true [],.ex⟩,⟨.sl true [],.ex⟩])
  (fun e s=>e=.exit 0/\(s.env 10).v=.sl true []/\s.mem 0 0=some [⟨.sl w.nl (w.types.map typC),q1C (.sl w.nl (w.types.map typC))⟩,⟨.sl r.nl (r.types.map typC),q1C (.sl r.nl (r.types.map typC))⟩,⟨.sl true [],.ex⟩,⟨.sl true [],.ex⟩]) (fun i hi s k h ih hk=>?_) _ _ ?_ (fun e s h=>?_)
 ·obtain ⟨oc,dh,e10,m0⟩:=h;refine q02 ?_;simp [q4z,-V,-y3,-y0,J,oc,dh];exact hk _ _ ⟨rfl,by simp [e10],m0⟩
 ·refine ⟨?_,?_,?_,?_⟩ <;> simp [q1C]
 ·obtain ⟨rfl,e10,m0⟩:=h;simp [-V,-y3,-y0,J,finR,q7u,e10,m0]
theorem pread_ev (w r:Sch) {x y:Typ} {i k:Int} (hi:0<=i) (gx:w.types[i.toNat]?=some x) (hk:0<=k) (gy:r.types[k.toNat]?=some y) (ik:y.syms.length<=8796093022206) (ad:y.kind=7\/y.kind=8->0<=y.max) (dm:x.kind≠5/\x.kind≠6) (vk:Int) (vb:Bool) (vi:Int) (vs:ByteArray) (vd:Int) :
  evC allT q01 195 [.undef,.undef,.ptr 0 0 0,.int .i64 i,.agg (valC (.of vk vb vi vs vd)),.int .i64 k] (some (.agg (pairC w r)))=some (.tup [.agg (valC (rdV (rdOk x y (.of vk vb vi vs vd)) (.of vk vb vi vs vd))),.bool (rdOk x y (.of vk vb vi vs vd))],some (.agg (pairC w r))):=by
 have g1:(w.types.map typC)[i.toNat]?=some (typC x):=by rw [yc,gx]; rfl
 have g2:(r.types.map typC)[k.toNat]?=some (typC y):=by rw [yc,gy]; rfl
 have hf:=pfail_ev w r;have hp:=fun a b=>pparts_ev w r a b
 have fb:=sym_ev y vd (by omega);obtain ⟨h5,h6⟩:=dm;simp only [evA,pairC,typC,symA] at hf hp fb g1 g2;refine qap q0j rfl rfl ?_;simp only [pairC,q0q,rdOk];by_cases e:x.kind=y.kind
 case neg=>simp [q0j,-V,-y3,-y0,J,q1w,q3C,q2z,q6l,q1C,finR,q7u,g1,g2,hi,hk,e,hf,rdV,q0q]
 rw [e] at h5 h6;by_cases k2:y.kind=2
 ·by_cases c1:y.low<=vi
  ·by_cases c2:vi<=y.high
   ·simp [q0j,-V,-y3,-y0,J,q1w,q3C,q2z,q6l,q1C,finR,q7u,g1,g2,hi,hk,e,k2,c1,c2,hp,rdV,q0q,of_i]
   ·simp [q0j,-V,-y3,-y0,J,q1w,q3C,q2z,q6l,q1C,finR,q7u,g1,g2,hi,hk,e,k2,c1,c2,hf,rdV,q0q,of_i]
  ·simp [q0j,-V,-y3,-y0,J,q1w,q3C,q2z,q6l,q1C,finR,q7u,g1,g2,hi,hk,e,k2,c1,hf,rdV,q0q,of_i]
 by_cases k3:y.kind=3
 ·by_cases c1:(vs.size:Int)<=y.max
  ·simp [q0j,-V,-y3,-y0,J,q1w,q3C,q2z,q6l,q1C,finR,q7u,g1,g2,hi,hk,e,k3,c1,hp,rdV,q0q,of_s]
  ·simp [q0j,-V,-y3,-y0,J,q1w,q3C,q2z,q6l,q1C,finR,q7u,g1,g2,hi,hk,e,k3,c1,hf,rdV,q0q,of_s]
 by_cases k4:y.kind=4
 ·rw [k4] at fb;by_cases c1:0<=q5H y.syms vd
  ·simp only [c1,decide_true] at fb;simp [q0j,-V,-y3,-y0,J,q1w,q3C,q2z,q6l,q1C,finR,q7u,g1,g2,hi,hk,e,k4,c1,fb,hp,rdV,q0q,of_id]
  ·simp only [c1,decide_false] at fb;cases ho:y.opn with
   | true =>
    rw [ho] at fb;simp [q0j,-V,-y3,-y0,J,q1w,q3C,q2z,q6l,q1C,finR,q7u,g1,g2,hi,hk,e,k4,c1,ho,fb,hp,rdV,q0q,of_id]
   | false =>
    rw [ho] at fb;simp [q0j,-V,-y3,-y0,J,q1w,q3C,q2z,q6l,q1C,finR,q7u,g1,g2,hi,hk,e,k4,c1,ho,fb,hf,rdV,q0q,of_id]
 by_cases k7:y.kind=7
 ·have hm:=ad (.inl k7);simp [q0j,-V,-y3,-y0,J,q1w,q3C,q2z,q6l,q1C,finR,q7u,g1,g2,hi,hk,e,k7,hm,hp,rdV,q0q]
 by_cases k8:y.kind=8
 ·have hm:=ad (.inr k8);simp [q0j,-V,-y3,-y0,J,q1w,q3C,q2z,q6l,q1C,finR,q7u,g1,g2,hi,hk,e,k8,hm,hp,rdV,q0q]
 simp [q0j,-V,-y3,-y0,J,q1w,q3C,q2z,q6l,q1C,finR,q7u,g1,g2,hi,hk,e,k2,k3,k4,h5,h6,k7,k8,hp,rdV,q0q]
end Go.Proofs.YtbnlmgncbgaepaaGreat
