/- A part of the proof. -/
import Derived.Test.YtbnlmgncbgaepaaGreatWg
set_option linter.all false
set_option maxRecDepth 100000
set_option maxHeartbeats 8000000
open Option renaming bind_some → V
open List renaming range_succ → J, map_map → y0, all_eq_true → y4, getElem?_eq_getElem → y5, getElem_mem → y6, drop_eq_getElem_cons → y9, getElem?_eq_some_iff → yb, getElem?_map → yc, drop_eq_nil_of_le → ye, map_cons → yh, mem_of_getElem? → yj, map_congr_left → yl, length_map → yo, length_append → yp, map_nil → yr, mem_map → yw, getElem_of_mem → yx, length_take → yC, take_of_length_le → yD, getElem?_append_left → yE, length_cons → yH, take_append_getElem → yK, getElem?_eq_none → yL, append_nil → yO, append_assoc → yV, mem_map_of_mem → yX
open Int renaming toNat_lt → y3
open Nat renaming le_refl → ym, succ_mul → yt
namespace Go.Proofs.YtbnlmgncbgaepaaGreat
open Go
def Typ.sm (t:Typ):Prop:=t.kind=2->-100<=t.low/\t.low<=t.high/\t.high<=100
def keysP (x:Typ):Int:=if x.kind=1 then 2 else if x.kind=2 then x.high - x.low + 1 else if x.kind=4 then x.syms.length else if x.kind=3/\x.max=0 then 1 else 2147483647
def keysR (x:Typ):Int:=if x.kind=1 then 2 else if x.kind=2 then min 100 (x.high - x.low + 1) else if x.kind=4 then x.syms.length else if x.max=0 then 1 else 100
theorem keys_ev (x:Typ) (hx:x.sm):evA 129 [.agg (typC x)] (.int .i64 (keysP x)):=by
 refine q00 (c:=q1t) rfl rfl ?_;unfold keysP;by_cases k1:x.kind=1
 ·simp [q1t,-V,-y3,-y0,J,typC,k1]
 by_cases k2:x.kind=2
 ·obtain ⟨h1,h2,h3⟩:=hx k2;have w1:IntKind.u64.wrap (IntKind.u64.wrap x.high - IntKind.u64.wrap x.low)=x.high - x.low:=by
   simp only [IntKind.wrap,IntKind.bits,IntKind.signed];simp;omega
  have c:x.high - x.low<2147483647:=by omega
  have w2:IntKind.i64.wrap (x.high - x.low)=x.high - x.low:=IntWalk.i64_in _ (by omega);have w3:IntKind.i64.wrap (x.high - x.low + 1)=x.high - x.low + 1:=IntWalk.i64_in _ (by omega);simp [q1t,-V,-y3,-y0,J,typC,k1,k2,w1,c,w2,w3]
 by_cases k4:x.kind=4
 ·simp [q1t,-V,-y3,-y0,J,typC,k1,k2,k4]
 by_cases k3:x.kind=3
 ·by_cases hm:x.max=0
  ·simp [q1t,-V,-y3,-y0,J,typC,k1,k2,k3,k4,hm]
  ·simp [q1t,-V,-y3,-y0,J,typC,k1,k2,k3,k4,hm]
 ·simp [q1t,-V,-y3,-y0,J,typC,k1,k2,k3,k4]
theorem rkeys_ev (x:Typ) (hx:x.sm):evA 132 [.agg (typC x)] (.int .i64 (keysR x)):=by
 refine q00 (c:=q2S) rfl rfl ?_;unfold keysR;by_cases k1:x.kind=1
 ·simp [q2S,-V,-y3,-y0,J,typC,k1]
 by_cases k2:x.kind=2
 ·obtain ⟨h1,h2,h3⟩:=hx k2;simp [q2S,-V,-y3,-y0,J,typC,k1,k2];refine q06 100 (fun i s=>(s.env 1).v=.ptr 1 1 0/\s.mem 1 1=some (q0b x)/\(s.env 3).v=.int .i64 ((i:Int) + 1)/\(s.env 4).v=.int .i64 (x.low + i)/\x.low + i<=x.high/\i + 1<=100)
   (fun e s=>e=.exit 1/\(s.env 3).v=.int .i64 (min 100 (x.high - x.low + 1))) (fun i hi s k h ih hk=>?_) _ _ ?_ (fun e s h=>?_)
  ·obtain ⟨e1,m1,e3,e4,wb,h100⟩:=h;simp only [q0b] at m1;refine q02 ?_;by_cases c1:(i:Int) + 1<100
   ·by_cases c2:x.low + i<x.high
    ·have w1:IntKind.i64.wrap ((i:Int) + 1 + 1)=(i:Int) + 1 + 1:=IntWalk.i64_in _ (by omega);have w2:IntKind.i64.wrap (x.low + i + 1)=x.low + i + 1:=IntWalk.i64_in _ (by omega);simp [q4O,-V,-y3,-y0,J,e1,m1,e3,e4,c1,c2,w1,w2];refine ih (by omega) _ ⟨?_,?_,?_,?_,by omega,by omega⟩
     ·simp [e1]
     ·simp [m1]
     ·simp
     ·simp; omega
    ·simp [q4O,-V,-y3,-y0,J,e1,m1,e3,e4,c1,c2];refine hk _ _ ⟨rfl,?_⟩;simp [e3];omega
   ·simp [q4O,-V,-y3,-y0,J,e1,m1,e3,e4,c1];refine hk _ _ ⟨rfl,?_⟩;simp [e3];omega
  ·exact ⟨by simp,by simp [k2],by simp,by simp,by omega,by omega⟩
  ·obtain ⟨rfl,e3⟩:=h;simp [-V,-y3,-y0,J,e3]
 by_cases k4:x.kind=4
 ·simp [q2S,-V,-y3,-y0,J,typC,k1,k2,k4]
 by_cases hm:x.max=0
 ·simp [q2S,-V,-y3,-y0,J,typC,k1,k2,k4,hm]
 ·simp [q2S,-V,-y3,-y0,J,typC,k1,k2,k4,hm]
theorem keys_min (x:Typ) (hk:1<=x.kind/\x.kind<=4) (hx:x.sm) {m n:Int} (hm:m<=50):(n<min m (keysP x) ↔ n<min m (keysR x)):=by
 unfold keysP keysR;by_cases k1:x.kind=1
 ·rw [if_pos k1,if_pos k1]
 rw [if_neg k1,if_neg k1];by_cases k2:x.kind=2
 ·rw [if_pos k2,if_pos k2];omega
 rw [if_neg k2,if_neg k2];by_cases k4:x.kind=4
 ·rw [if_pos k4,if_pos k4]
 rw [if_neg k4,if_neg k4];by_cases h0:x.max=0
 ·rw [if_pos ⟨by omega,h0⟩,if_pos h0]
 ·rw [if_neg (fun h=>h0 h.2),if_neg h0];omega
def allP (x y:Typ):Bool:=x.syms.all (fun s=>decide (0<=q5H y.syms s.id))&&x.mems.all (fun m=>decide (0<=q1d y.mems m.id))
theorem q8i {α:Type} (p:α->Bool) (l:List α) {i:Nat} (h:i<l.length):(l.take (i + 1)).all p=((l.take i).all p&&p l[i]):=by
 rw [<- yK h,List.all_append];simp
theorem all_no {α:Type} (p:α->Bool) (l:List α) {i:Nat} (h:i<l.length) (hp:p l[i]=false):l.all p=false:=by
 rw [List.all_eq_false];exact ⟨_,y6 h,by simp [hp]⟩
section
variable (x y:Typ) (fe:x.syms.length<=8796093022206) (ev:x.mems.length<=8796093022206) (ik:y.syms.length<=8796093022206) (aE:y.mems.length<=8796093022206)
include x y fe ev ik aE
theorem covered_ev:evA 130 [.agg (typC x),.agg (typC y)] (.bool (y.opn||allP x y)):=by
 refine q00 (c:=q2v) rfl rfl ?_;cases ho:y.opn with
 | true=>simp [q2v,-V,-y3,-y0,J,typC,ho]
 | false =>
 have kF:∀ l:List Sym,l.all (fun s=>decide (0<=q5H y.syms s.id))=false->allP x y=false\/l≠x.syms:=fun l h=>by
  by_cases e:l=x.syms
  ·left; unfold allP; rw [<- e,h]; rfl
  ·exact .inr e
 simp [q2v,-V,-y3,-y0,J,typC,ho];refine q06 x.syms.length (fun i s=>(s.env 2).v=.ptr 2 1 0/\(s.env 3).v=.ptr 3 1 0/\s.mem 2 1=some (q0b x)/\s.mem 3 1=some (q0b y)/\(s.env 16).v=.sl x.sn (x.syms.map symC)/\(s.env 17).v=.int .i64 x.syms.length/\(s.env 18).v=.int .i64 i/\(x.syms.take i).all (fun s=>decide (0<=q5H y.syms s.id))=true)
  (fun e s=>(e=.exit 0/\(s.env 2).v=.ptr 2 1 0/\(s.env 3).v=.ptr 3 1 0/\s.mem 2 1=some (q0b x)/\s.mem 3 1=some (q0b y)/\x.syms.all (fun s=>decide (0<=q5H y.syms s.id))=true)\/(e=.ret/\(s.env 4).v=.bool false/\allP x y=false)) (fun i hi s k h ih hk=>?_) _ _ ?_ (fun e s h=>?_)
 ·obtain ⟨e2,e3,m2,m3,oc,dh,lf,be⟩:=h;refine q02 ?_;by_cases fa:i<x.syms.length
  ·have ga:(i:Int)<x.syms.length:=by omega
   have g1:(x.syms.map symC)[i]?=some (symC x.syms[i]):=by simp [fa]
   have uc:=q0s (i:=i);have fb:=sym_ev y x.syms[i].id (by omega);have ph:=q8i (fun s=>decide (0<=q5H y.syms s.id)) x.syms fa;have tc:=all_no (fun s=>decide (0<=q5H y.syms s.id)) x.syms fa;generalize x.syms[i]=q at *
   simp only [symC] at g1;simp only [q0b] at m2 m3;simp only [evA,typC,symA,ho] at fb;by_cases c:0<=q5H y.syms q.id
   ·simp only [c,decide_true] at fb ph;simp [q2x,-V,-y3,-y0,J,e2,e3,m3,oc,dh,lf,ga,g1,fb,uc,ho];refine ih fa _ ⟨?_,?_,?_,?_,?_,?_,?_,by rw [ph,be]; rfl⟩ <;> simp [e2,e3,m2,m3,oc,dh,q0b,ho]
   ·simp only [c,decide_false] at fb tc;simp [q2x,-V,-y3,-y0,J,e2,e3,m3,oc,dh,lf,ga,g1,fb,uc,ho];refine hk _ _ (.inr ⟨rfl,by simp,?_⟩);unfold allP;rw [tc trivial];rfl
  ·have ga:¬ (i:Int)<x.syms.length:=by omega
   simp [q2x,-V,-y3,-y0,J,dh,lf,ga];refine hk _ _ (.inl ⟨rfl,by simp [e2],by simp [e3],by simp [m2],by simp [m3],?_⟩);rw [yD (by omega)] at be;exact be
 ·refine ⟨?_,?_,?_,?_,?_,?_,?_,?_⟩ <;> simp [q0b,ho]
 rcases h with ⟨rfl,e2,e3,m2,m3,be⟩ | ⟨rfl,e4,hf⟩
 case inr=>simp [-V,-y3,-y0,J,e4,hf]
 simp only [q0b] at m2;simp [-V,-y3,-y0,J,e2,m2];refine q06 x.mems.length (fun i s=>(s.env 3).v=.ptr 3 1 0/\s.mem 3 1=some (q0b y)/\(s.env 33).v=.sl x.mn (x.mems.map memC)/\(s.env 34).v=.int .i64 x.mems.length/\(s.env 35).v=.int .i64 i/\(x.mems.take i).all (fun s=>decide (0<=q1d y.mems s.id))=true)
  (fun e s=>(e=.exit 2/\allP x y=true)\/(e=.ret/\(s.env 4).v=.bool false/\allP x y=false)) (fun i hi s k h ih hk=>?_) _ _ ?_ (fun e s h=>?_)
 ·obtain ⟨e3,m3,bG,jE,zw,zm⟩:=h;refine q02 ?_;by_cases fa:i<x.mems.length
  ·have ga:(i:Int)<x.mems.length:=by omega
   have g1:(x.mems.map memC)[i]?=some (memC x.mems[i]):=by simp [fa]
   have uc:=q0s (i:=i);have fb:=mem_ev y x.mems[i].id (by omega);have ph:=q8i (fun s=>decide (0<=q1d y.mems s.id)) x.mems fa;have tc:=all_no (fun s=>decide (0<=q1d y.mems s.id)) x.mems fa;generalize x.mems[i]=q at *
   simp only [memC] at g1;simp only [q0b] at m3;simp only [evA,typC,memA,ho] at fb;by_cases c:0<=q1d y.mems q.id
   ·simp only [c,decide_true] at fb ph;simp [q2w,-V,-y3,-y0,J,e3,m3,bG,jE,zw,ga,g1,fb,uc,ho];refine ih fa _ ⟨?_,?_,?_,?_,?_,by rw [ph,zm]; rfl⟩ <;> simp [e3,m3,bG,jE,q0b,ho]
   ·simp only [c,decide_false] at fb tc;simp [q2w,-V,-y3,-y0,J,e3,m3,bG,jE,zw,ga,g1,fb,uc,ho];refine hk _ _ (.inr ⟨rfl,by simp,?_⟩);unfold allP;rw [tc trivial,Bool.and_false]
  ·have ga:¬ (i:Int)<x.mems.length:=by omega
   simp [q2w,-V,-y3,-y0,J,jE,zw,ga];refine hk _ _ (.inl ⟨rfl,?_⟩);rw [yD (by omega)] at zm;unfold allP;rw [be,zm];rfl
 ·refine ⟨?_,?_,?_,?_,?_,?_⟩ <;> simp [e3,m3,q0b,ho]
 ·rcases h with ⟨rfl,hf⟩ | ⟨rfl,e4,hf⟩
  ·simp [-V,-y3,-y0,J,hf]
  ·simp [-V,-y3,-y0,J,e4,hf]
theorem rall_ev:evA 133 [.agg (typC x),.agg (typC y)] (.bool (allP x y)):=by
 refine q00 (c:=q7M) rfl rfl ?_;simp [q7M,-V,-y3,-y0,J,typC];refine q06 x.syms.length (fun i s=>(s.env 2).v=.ptr 2 1 0/\(s.env 3).v=.ptr 3 1 0/\s.mem 2 1=some (q0b x)/\s.mem 3 1=some (q0b y)/\(s.env 5).v=.int .i64 i/\(x.syms.take i).all (fun s=>decide (0<=q5H y.syms s.id))=true)
  (fun e s=>(e=.exit 0/\(s.env 2).v=.ptr 2 1 0/\(s.env 3).v=.ptr 3 1 0/\s.mem 2 1=some (q0b x)/\s.mem 3 1=some (q0b y)/\x.syms.all (fun s=>decide (0<=q5H y.syms s.id))=true)\/(e=.ret/\(s.env 4).v=.bool false/\allP x y=false)) (fun i hi s k h ih hk=>?_) _ _ ?_ (fun e s h=>?_)
 ·obtain ⟨e2,e3,m2,m3,e5,be⟩:=h;refine q02 ?_;by_cases fa:i<x.syms.length
  ·have ga:(i:Int)<x.syms.length:=by omega
   have g1:(x.syms.map symC)[i]?=some (symC x.syms[i]):=by simp [fa]
   have uc:=q0s (i:=i);have fb:=rsym_ev y x.syms[i].id (by omega);have ph:=q8i (fun s=>decide (0<=q5H y.syms s.id)) x.syms fa;have tc:=all_no (fun s=>decide (0<=q5H y.syms s.id)) x.syms fa;generalize x.syms[i]=q at *
   simp only [symC] at g1;simp only [q0b] at m2 m3;simp only [evA,typC,symA] at fb;by_cases c:0<=q5H y.syms q.id
   ·simp only [c,decide_true] at fb ph;simp [q5m,-V,-y3,-y0,J,e2,e3,m2,m3,e5,ga,g1,fb,uc];refine ih fa _ ⟨?_,?_,?_,?_,?_,by rw [ph,be]; rfl⟩ <;> simp [e2,e3,m2,m3,q0b]
   ·simp only [c,decide_false] at fb tc;simp [q5m,-V,-y3,-y0,J,e2,e3,m2,m3,e5,ga,g1,fb,uc];refine hk _ _ (.inr ⟨rfl,by simp,?_⟩);unfold allP;rw [tc trivial];rfl
  ·have ga:¬ (i:Int)<x.syms.length:=by omega
   simp only [q0b] at m2;simp [q5m,-V,-y3,-y0,J,e2,m2,e5,ga];refine hk _ _ (.inl ⟨rfl,by simp [e2],by simp [e3],by simp [m2],by simp [m3],?_⟩);rw [yD (by omega)] at be;exact be
 ·refine ⟨?_,?_,?_,?_,?_,?_⟩ <;> simp [q0b]
 rcases h with ⟨rfl,e2,e3,m2,m3,be⟩ | ⟨rfl,e4,hf⟩
 case inr=>simp [-V,-y3,-y0,J,e4,hf]
 simp only [q0b] at m2;simp [-V,-y3,-y0,J];refine q06 x.mems.length (fun i s=>(s.env 2).v=.ptr 2 1 0/\(s.env 3).v=.ptr 3 1 0/\s.mem 2 1=some (q0b x)/\s.mem 3 1=some (q0b y)/\(s.env 8).v=.int .i64 i/\(x.mems.take i).all (fun s=>decide (0<=q1d y.mems s.id))=true)
  (fun e s=>(e=.exit 2/\allP x y=true)\/(e=.ret/\(s.env 4).v=.bool false/\allP x y=false)) (fun i hi s k h ih hk=>?_) _ _ ?_ (fun e s h=>?_)
 ·obtain ⟨e2,e3,m2,m3,e8,zm⟩:=h;refine q02 ?_;simp only [q0b] at m2 m3;by_cases fa:i<x.mems.length
  ·have ga:(i:Int)<x.mems.length:=by omega
   have g1:(x.mems.map memC)[i]?=some (memC x.mems[i]):=by simp [fa]
   have uc:=q0s (i:=i);have fb:=rmem_ev y x.mems[i].id (by omega);have ph:=q8i (fun s=>decide (0<=q1d y.mems s.id)) x.mems fa;have tc:=all_no (fun s=>decide (0<=q1d y.mems s.id)) x.mems fa;generalize x.mems[i]=q at *
   simp only [memC] at g1;simp only [evA,typC,memA] at fb;by_cases c:0<=q1d y.mems q.id
   ·simp only [c,decide_true] at fb ph;simp [q5l,-V,-y3,-y0,J,e2,e3,m2,m3,e8,ga,g1,fb,uc];refine ih fa _ ⟨?_,?_,?_,?_,?_,by rw [ph,zm]; rfl⟩ <;> simp [e2,e3,m2,m3,q0b]
   ·simp only [c,decide_false] at fb tc;simp [q5l,-V,-y3,-y0,J,e2,e3,m2,m3,e8,ga,g1,fb,uc];refine hk _ _ (.inr ⟨rfl,by simp,?_⟩);unfold allP;rw [tc trivial,Bool.and_false]
  ·have ga:¬ (i:Int)<x.mems.length:=by omega
   simp [q5l,-V,-y3,-y0,J,e2,m2,e8,ga];refine hk _ _ (.inl ⟨rfl,?_⟩);rw [yD (by omega)] at zm;unfold allP;rw [be,zm];rfl
 ·refine ⟨?_,?_,?_,?_,?_,?_⟩ <;> simp [e2,e3,m2,m3,q0b]
 ·rcases h with ⟨rfl,hf⟩ | ⟨rfl,e4,hf⟩
  ·simp [-V,-y3,-y0,J,hf]
  ·simp [-V,-y3,-y0,J,e4,hf]
end
def recP (mns:Mem->Mem->Bool) (xs:List Mem):List Mem->Int
 | []=>0
 | g :: r=>if 0<=q1d xs g.id then (match xs[(q1d xs g.id).toNat]? with
   | some f=>if f.has=true then (if g.has=true then (if mns f g=true then recP mns xs r else 10) else 7) else recP mns xs r
   | none=>recP mns xs r) else if g.has=true then recP mns xs r else 7
def crP (ys:List Mem) (f:Mem):Bool:=f.crit&&!decide (0<=q1d ys f.id)
def qa0 (mns:Mem->Mem->Bool) (xs ys:List Mem):Int:=if recP mns xs ys=0 then (if xs.any (crP ys)=true then 6 else 0) else recP mns xs ys
def Means2 (w r:Sch) (mns:Mem->Mem->Bool) (xs ys:List Mem):Prop:=∀ f∈xs,∀ g∈ys,f.has=true->g.has=true →
 (∃ (u:Vl) (e:Int),evA 155 [.agg (schC w),.int .i64 f.ty,.agg (valC f.dflt),.agg (schC r),.int .i64 g.ty] (.tup [.agg (valC u),.int .i64 e])/\(e=0->evA 156 [.agg (valC u),.agg (valC g.dflt)] (.bool (mns f g)))/\(e≠0->mns f g=false)) ∧
 evA 157 [.agg (schC w),.int .i64 f.ty,.agg (valC f.dflt),.agg (schC r),.int .i64 g.ty,.agg (valC g.dflt)] (.bool (mns f g))
theorem any_take' {α:Type} (p:α->Bool) (l:List α) {i:Nat} (h:i<l.length):(l.take (i + 1)).any p=((l.take i).any p||p l[i]):=by
 rw [<- yK h,List.any_append];simp
theorem any_yes {α:Type} (p:α->Bool) (l:List α) {i:Nat} (h:i<l.length) (hp:p l[i]=true):l.any p=true:=List.any_eq_true.2 ⟨_,y6 h,hp⟩
theorem q8Q {l:List Mem} {id:Int} (h:0<=q1d l id):∃ f,l[(q1d l id).toNat]?=some f/\f∈l:=by
 obtain ⟨f,h1,_⟩:=q8r (fun x:Mem=>decide (x.id=id)) l (by unfold q1d at h; omega);exact ⟨f,h1,yj h1⟩
section
variable (w r:Sch) (x y:Typ) (ev:x.mems.length<=8796093022206) (aE:y.mems.length<=8796093022206) {mns:Mem->Mem->Bool} (hR:Means2 w r mns x.mems y.mems)
include w r x y ev aE mns hR
theorem smembers_ev:evA 131 [.agg (schC w),.agg (typC x),.agg (schC r),.agg (typC y)] (.int .i64 (qa0 mns x.mems y.mems)):=by
 refine q00 (c:=q3m) rfl rfl ?_;simp only [schC];simp [q3m,-V,-y3,-y0,J,typC];refine q06 y.mems.length (fun i s=>(s.env 4).v=.ptr 4 1 0/\(s.env 5).v=.ptr 5 1 0/\(s.env 6).v=.ptr 6 1 0/\(s.env 7).v=.ptr 7 1 0/\s.mem 4 1=some [⟨.sl w.nl (w.types.map typC),.no⟩]/\s.mem 5 1=some (q0b x)/\s.mem 6 1=some [⟨.sl r.nl (r.types.map typC),.no⟩]/\s.mem 7 1=some (q0b y)/\(s.env 21).v=.sl y.mn (y.mems.map memC)/\(s.env 22).v=.int .i64 y.mems.length/\(s.env 23).v=.int .i64 i/\recP mns x.mems (y.mems.drop i)=recP mns x.mems y.mems)
  (fun e s=>(e=.exit 0/\(s.env 5).v=.ptr 5 1 0/\(s.env 7).v=.ptr 7 1 0/\s.mem 5 1=some (q0b x)/\s.mem 7 1=some (q0b y)/\recP mns x.mems y.mems=0)\/(e=.ret/\(s.env 8).v=.int .i64 (qa0 mns x.mems y.mems))) (fun i hi s k h ih hk=>?_) _ _ ?_ (fun e s h=>?_)
 ·obtain ⟨e4,e5,e6,e7,m4,m5,m6,m7,e21,e22,ww,kb⟩:=h;refine q02 ?_;by_cases fa:i<y.mems.length
  ·have ga:(i:Int)<y.mems.length:=by omega
   have g1:(y.mems.map memC)[i]?=some (memC y.mems[i]):=by simp [fa]
   have uc:=q0s (i:=i);have tu:=y6 fa;rw [y9 fa,recP] at kb;generalize y.mems[i]=g at *
   have fb:=mem_ev x g.id (by omega);simp only [memC] at g1;simp only [q0b] at m5 m7;simp only [evA,typC,memA] at fb;have done:∀ (E:Nat->Slot) (M:Nat->Nat->Option (List Slot)) (nx:Nat) (z:Int),(E 8).v=.int .i64 z->recP mns x.mems y.mems=z->z≠0->k .ret ⟨E,M,nx,s.obj,s.gh⟩=some (.int .i64 (qa0 mns x.mems y.mems),none):=fun E M nx z h1 h2 h3=>hk _ _ (.inr ⟨rfl,by unfold qa0; rw [if_neg (by omega),h2]; exact h1⟩)
   by_cases c:0<=q1d x.mems g.id
   ·obtain ⟨f,hf,mH⟩:=q8Q c;rw [if_pos c,hf] at kb;simp only at kb;simp only [c,decide_true] at fb;have gf:(x.mems.map memC)[(q1d x.mems g.id).toNat]?=some (memC f):=by rw [yc,hf]; rfl
    have ad:max (q1d x.mems g.id) 0=q1d x.mems g.id:=by omega
    generalize q1d x.mems g.id=ix at *
    rw [ad] at fb;simp only [memC] at gf;by_cases lj:f.has=true
    ·rw [if_pos lj] at kb;by_cases ue:g.has=true
     ·rw [if_pos ue] at kb;obtain ⟨⟨u,e,pF,pD,wI⟩,_⟩:=hR f mH g tu lj ue;simp only [evA,schC,q04] at pF pD;by_cases he:e=0
      ·have hq:=pD he;subst he;by_cases hm:mns f g=true
       ·rw [if_pos hm] at kb;rw [hm] at hq;simp [q0z,-V,-y3,-y0,J,e4,e5,e6,e7,m4,m5,m6,m7,e21,e22,ww,ga,g1,fb,gf,c,lj,ue,pF,hq,uc];refine ih fa _ ⟨?_,?_,?_,?_,?_,?_,?_,?_,?_,?_,?_,kb⟩ <;> simp [e4,e5,e6,e7,m4,m5,m6,m7,e21,e22,q0b]
       ·have ld:mns f g=false:=by simpa using hm
        rw [if_neg hm] at kb;rw [ld] at hq;simp [q0z,-V,-y3,-y0,J,e4,e5,e6,e7,m4,m5,m6,m7,e21,e22,ww,ga,g1,fb,gf,c,lj,ue,pF,hq,uc];exact done _ _ _ 10 (by simp) kb.symm (by omega)
      ·have ld:=wI he;rw [if_neg (by simp [ld])] at kb;simp [q0z,-V,-y3,-y0,J,e4,e5,e6,e7,m4,m5,m6,m7,e21,e22,ww,ga,g1,fb,gf,c,lj,ue,pF,he,uc];exact done _ _ _ 10 (by simp) kb.symm (by omega)
     ·have bn:g.has=false:=by simpa using ue
      rw [if_neg ue] at kb;simp [q0z,-V,-y3,-y0,J,e4,e5,e6,e7,m4,m5,m6,m7,e21,e22,ww,ga,g1,fb,gf,c,lj,bn,uc];exact done _ _ _ 7 (by simp) kb.symm (by omega)
    ·have wv:f.has=false:=by simpa using lj
     rw [if_neg lj] at kb;simp [q0z,-V,-y3,-y0,J,e4,e5,e6,e7,m4,m5,m6,m7,e21,e22,ww,ga,g1,fb,gf,c,wv,uc];refine ih fa _ ⟨?_,?_,?_,?_,?_,?_,?_,?_,?_,?_,?_,kb⟩ <;> simp [e4,e5,e6,e7,m4,m5,m6,m7,e21,e22,q0b]
   ·rw [if_neg c] at kb;simp only [c,decide_false] at fb;by_cases ue:g.has=true
    ·rw [if_pos ue] at kb;simp [q0z,-V,-y3,-y0,J,e4,e5,e6,e7,m4,m5,m6,m7,e21,e22,ww,ga,g1,fb,ue,uc];refine ih fa _ ⟨?_,?_,?_,?_,?_,?_,?_,?_,?_,?_,?_,kb⟩ <;> simp [e4,e5,e6,e7,m4,m5,m6,m7,e21,e22,q0b]
    ·have bn:g.has=false:=by simpa using ue
     rw [if_neg ue] at kb;simp [q0z,-V,-y3,-y0,J,e4,e5,e6,e7,m4,m5,m6,m7,e21,e22,ww,ga,g1,fb,bn,uc];exact done _ _ _ 7 (by simp) kb.symm (by omega)
  ·have ga:¬ (i:Int)<y.mems.length:=by omega
   simp [q0z,-V,-y3,-y0,J,e22,ww,ga];refine hk _ _ (.inl ⟨rfl,by simp [e5],by simp [e7],by simp [m5],by simp [m7],?_⟩);rw [ye (by omega),recP] at kb;exact kb.symm
 ·refine ⟨?_,?_,?_,?_,?_,?_,?_,?_,?_,?_,?_,?_⟩ <;> simp [q0b]
 rcases h with ⟨rfl,e5,e7,m5,m7,h0⟩ | ⟨rfl,e8⟩
 case inr=>simp [-V,-y3,-y0,J,e8]
 simp only [q0b] at m5;simp [-V,-y3,-y0,J,e5,m5];have nd:qa0 mns x.mems y.mems=if x.mems.any (crP y.mems)=true then 6 else 0:=by unfold qa0; rw [if_pos h0]
 refine q06 x.mems.length (fun i s=>(s.env 7).v=.ptr 7 1 0/\s.mem 7 1=some (q0b y)/\(s.env 73).v=.sl x.mn (x.mems.map memC)/\(s.env 74).v=.int .i64 x.mems.length/\(s.env 75).v=.int .i64 i/\(x.mems.take i).any (crP y.mems)=false)
  (fun e s=>(e=.exit 2/\x.mems.any (crP y.mems)=false)\/(e=.ret/\(s.env 8).v=.int .i64 6/\x.mems.any (crP y.mems)=true)) (fun i hi s k h ih hk=>?_) _ _ ?_ (fun e s h=>?_)
 ·obtain ⟨e7,m7,uB,rA,nE,be⟩:=h;refine q02 ?_;by_cases fa:i<x.mems.length
  ·have ga:(i:Int)<x.mems.length:=by omega
   have g1:(x.mems.map memC)[i]?=some (memC x.mems[i]):=by simp [fa]
   have uc:=q0s (i:=i);have fb:=mem_ev y x.mems[i].id (by omega);have ph:=any_take' (crP y.mems) x.mems fa;have ik:=any_yes (crP y.mems) x.mems fa;generalize x.mems[i]=q at *
   simp only [memC] at g1;simp only [q0b] at m7;simp only [evA,typC,memA] at fb;simp only [crP] at ph ik;by_cases c:0<=q1d y.mems q.id
   ·simp only [c,decide_true] at fb;simp only [c,decide_true,Bool.not_true,Bool.and_false,Bool.or_false] at ph;simp [q1M,-V,-y3,-y0,J,e7,m7,uB,rA,nE,ga,g1,fb,uc];refine ih fa _ ⟨?_,?_,?_,?_,?_,ph.trans be⟩ <;> simp [e7,m7,uB,rA,q0b]
   ·simp only [c,decide_false] at fb;cases tv:q.crit with
    | true =>
     simp [q1M,-V,-y3,-y0,J,e7,m7,uB,rA,nE,ga,g1,fb,tv,uc];exact hk _ _ (.inr ⟨rfl,by simp,ik (by simp [tv,c])⟩)
    | false =>
     simp [q1M,-V,-y3,-y0,J,e7,m7,uB,rA,nE,ga,g1,fb,tv,uc];refine ih fa _ ⟨?_,?_,?_,?_,?_,by rw [ph,be,tv]; rfl⟩ <;> simp [e7,m7,uB,rA,q0b]
  ·have ga:¬ (i:Int)<x.mems.length:=by omega
   simp [q1M,-V,-y3,-y0,J,rA,nE,ga];rw [yD (by omega)] at be;exact hk _ _ (.inl ⟨rfl,be⟩)
 ·refine ⟨?_,?_,?_,?_,?_,?_⟩ <;> simp [e7,m7,q0b]
 ·rcases h with ⟨rfl,hf⟩ | ⟨rfl,e8,hf⟩
  ·simp [-V,-y3,-y0,J,nd,hf]
  ·simp [-V,-y3,-y0,J,e8,nd,hf]
theorem rrecord_ev:evA 134 [.agg (schC w),.agg (typC x),.agg (schC r),.agg (typC y)] (.int .i64 (qa0 mns x.mems y.mems)):=by
 refine q00 (c:=q5n) rfl rfl ?_;simp only [schC];simp [q5n,-V,-y3,-y0,J,typC];refine q06 y.mems.length (fun i s=>(s.env 4).v=.ptr 4 1 0/\(s.env 5).v=.ptr 5 1 0/\(s.env 6).v=.ptr 6 1 0/\(s.env 7).v=.ptr 7 1 0/\s.mem 4 1=some [⟨.sl w.nl (w.types.map typC),.no⟩]/\s.mem 5 1=some (q0b x)/\s.mem 6 1=some [⟨.sl r.nl (r.types.map typC),.no⟩]/\s.mem 7 1=some (q0b y)/\(s.env 9).v=.int .i64 i/\recP mns x.mems (y.mems.drop i)=recP mns x.mems y.mems)
  (fun e s=>(e=.exit 0/\(s.env 5).v=.ptr 5 1 0/\(s.env 7).v=.ptr 7 1 0/\s.mem 5 1=some (q0b x)/\s.mem 7 1=some (q0b y)/\recP mns x.mems y.mems=0)\/(e=.ret/\(s.env 8).v=.int .i64 (qa0 mns x.mems y.mems))) (fun i hi s k h ih hk=>?_) _ _ ?_ (fun e s h=>?_)
 ·obtain ⟨e4,e5,e6,e7,m4,m5,m6,m7,e9,kb⟩:=h;refine q02 ?_;simp only [q0b] at m5 m7;by_cases fa:i<y.mems.length
  ·have ga:(i:Int)<y.mems.length:=by omega
   have g1:(y.mems.map memC)[i]?=some (memC y.mems[i]):=by simp [fa]
   have uc:=q0s (i:=i);have tu:=y6 fa;rw [y9 fa,recP] at kb;generalize y.mems[i]=g at *
   have fb:=rmem_ev x g.id (by omega);simp only [memC] at g1;simp only [evA,typC,memA] at fb;have done:∀ (E:Nat->Slot) (M:Nat->Nat->Option (List Slot)) (nx:Nat) (z:Int),(E 8).v=.int .i64 z->recP mns x.mems y.mems=z->z≠0->k .ret ⟨E,M,nx,s.obj,s.gh⟩=some (.int .i64 (qa0 mns x.mems y.mems),none):=fun E M nx z h1 h2 h3=>hk _ _ (.inr ⟨rfl,by unfold qa0; rw [if_neg (by omega),h2]; exact h1⟩)
   by_cases c:0<=q1d x.mems g.id
   ·obtain ⟨f,hf,mH⟩:=q8Q c;rw [if_pos c,hf] at kb;simp only at kb;simp only [c,decide_true] at fb;have gf:(x.mems.map memC)[(q1d x.mems g.id).toNat]?=some (memC f):=by rw [yc,hf]; rfl
    have ad:max (q1d x.mems g.id) 0=q1d x.mems g.id:=by omega
    generalize q1d x.mems g.id=ix at *
    rw [ad] at fb;simp only [memC] at gf;by_cases lj:f.has=true
    ·rw [if_pos lj] at kb;by_cases ue:g.has=true
     ·rw [if_pos ue] at kb;obtain ⟨_,hq⟩:=hR f mH g tu lj ue;simp only [evA,schC,q04] at hq;by_cases hm:mns f g=true
      ·rw [if_pos hm] at kb;rw [hm] at hq;simp [q14,-V,-y3,-y0,J,e4,e5,e6,e7,m4,m5,m6,m7,e9,ga,g1,fb,gf,c,lj,ue,hq,uc];refine ih fa _ ⟨?_,?_,?_,?_,?_,?_,?_,?_,?_,kb⟩ <;> simp [e4,e5,e6,e7,m4,m5,m6,m7,q0b]
      ·have ld:mns f g=false:=by simpa using hm
       rw [if_neg hm] at kb;rw [ld] at hq;simp [q14,-V,-y3,-y0,J,e4,e5,e6,e7,m4,m5,m6,m7,e9,ga,g1,fb,gf,c,lj,ue,hq,uc];exact done _ _ _ 10 (by simp) kb.symm (by omega)
     ·have bn:g.has=false:=by simpa using ue
      rw [if_neg ue] at kb;simp [q14,-V,-y3,-y0,J,e4,e5,e6,e7,m4,m5,m6,m7,e9,ga,g1,fb,gf,c,lj,bn,uc];exact done _ _ _ 7 (by simp) kb.symm (by omega)
    ·have wv:f.has=false:=by simpa using lj
     rw [if_neg lj] at kb;cases ue:g.has with
     | true =>
      simp [q14,-V,-y3,-y0,J,e4,e5,e6,e7,m4,m5,m6,m7,e9,ga,g1,fb,gf,c,wv,ue,uc];refine ih fa _ ⟨?_,?_,?_,?_,?_,?_,?_,?_,?_,kb⟩ <;> simp [e4,e5,e6,e7,m4,m5,m6,m7,q0b]
     | false =>
      simp [q14,-V,-y3,-y0,J,e4,e5,e6,e7,m4,m5,m6,m7,e9,ga,g1,fb,gf,c,wv,ue,uc];refine ih fa _ ⟨?_,?_,?_,?_,?_,?_,?_,?_,?_,kb⟩ <;> simp [e4,e5,e6,e7,m4,m5,m6,m7,q0b]
   ·rw [if_neg c] at kb;simp only [c,decide_false] at fb;by_cases ue:g.has=true
    ·rw [if_pos ue] at kb;simp [q14,-V,-y3,-y0,J,e4,e5,e6,e7,m4,m5,m6,m7,e9,ga,g1,fb,ue,uc];refine ih fa _ ⟨?_,?_,?_,?_,?_,?_,?_,?_,?_,kb⟩ <;> simp [e4,e5,e6,e7,m4,m5,m6,m7,q0b]
    ·have bn:g.has=false:=by simpa using ue
     rw [if_neg ue] at kb;simp [q14,-V,-y3,-y0,J,e4,e5,e6,e7,m4,m5,m6,m7,e9,ga,g1,fb,bn,uc];exact done _ _ _ 7 (by simp) kb.symm (by omega)
  ·have ga:¬ (i:Int)<y.mems.length:=by omega
   simp [q14,-V,-y3,-y0,J,e7,m7,e9,ga];refine hk _ _ (.inl ⟨rfl,by simp [e5],by simp [e7],by simp [m5],by simp [m7],?_⟩);rw [ye (by omega),recP] at kb;exact kb.symm
 ·refine ⟨?_,?_,?_,?_,?_,?_,?_,?_,?_,?_⟩ <;> simp [q0b]
 rcases h with ⟨rfl,e5,e7,m5,m7,h0⟩ | ⟨rfl,e8⟩
 case inr=>simp [-V,-y3,-y0,J,e8]
 simp [-V,-y3,-y0,J];have nd:qa0 mns x.mems y.mems=if x.mems.any (crP y.mems)=true then 6 else 0:=by unfold qa0; rw [if_pos h0]
 refine q06 x.mems.length (fun i s=>(s.env 5).v=.ptr 5 1 0/\(s.env 7).v=.ptr 7 1 0/\s.mem 5 1=some (q0b x)/\s.mem 7 1=some (q0b y)/\(s.env 13).v=.int .i64 i/\(x.mems.take i).any (crP y.mems)=false)
  (fun e s=>(e=.exit 2/\x.mems.any (crP y.mems)=false)\/(e=.ret/\(s.env 8).v=.int .i64 6/\x.mems.any (crP y.mems)=true)) (fun i hi s k h ih hk=>?_) _ _ ?_ (fun e s h=>?_)
 ·obtain ⟨e5,e7,m5,m7,xl,be⟩:=h;refine q02 ?_;simp only [q0b] at m5 m7;by_cases fa:i<x.mems.length
  ·have ga:(i:Int)<x.mems.length:=by omega
   have g1:(x.mems.map memC)[i]?=some (memC x.mems[i]):=by simp [fa]
   have uc:=q0s (i:=i);have fb:=rmem_ev y x.mems[i].id (by omega);have ph:=any_take' (crP y.mems) x.mems fa;have ik:=any_yes (crP y.mems) x.mems fa;generalize x.mems[i]=q at *
   simp only [memC] at g1;simp only [evA,typC,memA] at fb;simp only [crP] at ph ik;by_cases c:0<=q1d y.mems q.id
   ·simp only [c,decide_true] at fb;simp only [c,decide_true,Bool.not_true,Bool.and_false,Bool.or_false] at ph;simp [q2N,-V,-y3,-y0,J,e5,e7,m5,m7,xl,ga,g1,fb,uc];refine ih fa _ ⟨?_,?_,?_,?_,?_,ph.trans be⟩ <;> simp [e5,e7,m5,m7,q0b]
   ·simp only [c,decide_false] at fb;cases tv:q.crit with
    | true =>
     simp [q2N,-V,-y3,-y0,J,e5,e7,m5,m7,xl,ga,g1,fb,tv,uc];exact hk _ _ (.inr ⟨rfl,by simp,ik (by simp [tv,c])⟩)
    | false =>
     simp [q2N,-V,-y3,-y0,J,e5,e7,m5,m7,xl,ga,g1,fb,tv,uc];refine ih fa _ ⟨?_,?_,?_,?_,?_,by rw [ph,be,tv]; rfl⟩ <;> simp [e5,e7,m5,m7,q0b]
  ·have ga:¬ (i:Int)<x.mems.length:=by omega
   simp [q2N,-V,-y3,-y0,J,e5,m5,xl,ga];rw [yD (by omega)] at be;exact hk _ _ (.inl ⟨rfl,be⟩)
 ·refine ⟨?_,?_,?_,?_,?_,?_⟩ <;> simp [e5,e7,m5,m7,q0b]
 ·rcases h with ⟨rfl,hf⟩ | ⟨rfl,e8,hf⟩
  ·simp [-V,-y3,-y0,J,nd,hf]
  ·simp [-V,-y3,-y0,J,e8,nd,hf]
end
abbrev Pr:=Int × Int
def prC (p:Pr):List AV:=[.int .i64 p.1,.int .i64 p.2]
theorem room1:q0G 16 1=true:=by decide
theorem room2:q0G 16 2=true:=by decide
theorem q6C (l:List Pr):q13 2 (l.map prC)=true:=q1a _ _ _ fun _=>rfl
section
variable (l:List Pr) (hl:l.length<=9223372036854775807) (b:Bool) (p:Pr)
include l hl b p
theorem rin_ev:evA 35 [.sl b (l.map prC),.agg (prC p)] (.bool (decide (p∈l))):=by
 refine q00 (c:=q8L) rfl rfl ?_;simp [q8L,-V,-y3,-y0,J,prC];refine q06 l.length (fun i s=>(s.env 0).v=.sl b (l.map prC)/\(s.env 3).v=.ptr 3 1 0/\s.mem 3 1=some [⟨.int .i64 p.1,.no⟩,⟨.int .i64 p.2,.no⟩]/\(s.env 5).v=.int .i64 i/\(decide (p∈l)=decide (p∈l.drop i)))
  (fun e s=>(e=.exit 0/\¬ p∈l)\/(e=.ret/\(s.env 4).v=.bool true/\p∈l)) (fun i hi s k h ih hk=>?_) _ _ ?_ (fun e s h=>?_)
 ·obtain ⟨e0,e3,m3,e5,hd⟩:=h;refine q02 ?_;by_cases fa:i<l.length
  ·have ga:(i:Int)<l.length:=by omega
   have g1:(l.map prC)[i]?=some (prC l[i]):=by simp [fa]
   have hw:=q0s (i:=i);rw [y9 fa] at hd;generalize l[i]=q at *
   simp only [prC] at g1;by_cases c1:q.1=p.1
   ·by_cases c2:q.2=p.2
    ·have e:q=p:=Prod.ext c1 c2;simp [q4K,-V,-y3,-y0,J,e0,e3,m3,e5,ga,g1,c1,c2,hw];refine hk _ _ (.inr ⟨rfl,by simp,?_⟩);simp [e] at hd;exact hd
    ·have e:¬ p=q:=fun h=>c2 (by rw [h])
     simp [q4K,-V,-y3,-y0,J,e0,e3,m3,e5,ga,g1,c1,c2,hw];refine ih fa _ ⟨?_,?_,?_,?_,?_⟩ <;> simp [e0,e3,m3]
     simpa [e] using hd
   ·have e:¬ p=q:=fun h=>c1 (by rw [h])
    simp [q4K,-V,-y3,-y0,J,e0,e3,m3,e5,ga,g1,c1,hw];refine ih fa _ ⟨?_,?_,?_,?_,?_⟩ <;> simp [e0,e3,m3]
    simpa [e] using hd
  ·have ga:¬ (i:Int)<l.length:=by omega
   simp [q4K,-V,-y3,-y0,J,e0,e5,ga];refine hk _ _ (.inl ⟨rfl,?_⟩);rw [ye (by omega)] at hd;simpa using hd
 ·refine ⟨?_,?_,?_,?_,?_⟩ <;> simp [prC]
 ·rcases h with ⟨rfl,hn⟩ | ⟨rfl,e4,hy⟩
  ·simp [-V,-y3,-y0,J,hn]
  ·simp [-V,-y3,-y0,J,e4,hy]
theorem index_ev:evA 158 [.sl b (l.map prC),.agg (prC p)] (.int .i64 (idxI (fun q=>decide (q=p)) l)):=by
 refine q00 (c:=q2y) rfl rfl ?_;simp [q2y,-V,-y3,-y0,J,prC];refine q06 l.length (fun i s=>(s.env 0).v=.sl b (l.map prC)/\(s.env 3).v=.ptr 3 1 0/\s.mem 3 1=some [⟨.int .i64 p.1,.no⟩,⟨.int .i64 p.2,.no⟩]/\(s.env 7).v=.int .i64 l.length/\(s.env 8).v=.int .i64 i/\(idxI (fun q=>decide (q=p)) l=if idxI (fun q=>decide (q=p)) (l.drop i)=-1 then -1 else idxI (fun q=>decide (q=p)) (l.drop i) + i))
  (fun e s=>(e=.exit 0/\idxI (fun q=>decide (q=p)) l=-1)\/(e=.ret/\(s.env 4).v=.int .i64 (idxI (fun q=>decide (q=p)) l))) (fun i hi s k h ih hk=>?_) _ _ ?_ (fun e s h=>?_)
 ·obtain ⟨e0,e3,m3,e7,e8,hd⟩:=h;refine q02 ?_;by_cases fa:i<l.length
  ·have ga:(i:Int)<l.length:=by omega
   have g1:(l.map prC)[i]?=some (prC l[i]):=by simp [fa]
   have hw:=q0s (i:=i);have te:=q3A (fun q=>decide (q=p)) (l.drop (i + 1));rw [y9 fa] at hd;generalize l[i]=q at *
   simp only [prC] at g1;have no:¬ q=p->idxI (fun q=>decide (q=p)) l=if idxI (fun q=>decide (q=p)) (l.drop (i + 1))=-1 then -1 else idxI (fun q=>decide (q=p)) (l.drop (i + 1)) + ((i + 1:Nat):Int):=fun e=>by
    rw [q7v _ _ _ (by simpa using e)] at hd;rw [hd];split
    ·rename_i h; simp [h]
    ·rename_i h; rw [if_neg (by omega)]; omega
   by_cases c1:q.1=p.1
   ·by_cases c2:q.2=p.2
    ·have e:q=p:=Prod.ext c1 c2;simp [q1p,-V,-y3,-y0,J,e0,e3,m3,e7,e8,ga,g1,c1,c2,hw];refine hk _ _ (.inr ⟨rfl,?_⟩);rw [hd];simp [e,idxI]
    ·have xq:¬ p.2=q.2:=fun h=>c2 h.symm
     simp [q1p,-V,-y3,-y0,J,e0,e3,m3,e7,e8,ga,g1,c1,xq,hw];refine ih fa _ ⟨?_,?_,?_,?_,?_,no fun h=>c2 (by rw [h])⟩ <;> simp [e0,e3,m3,e7]
   ·have oi:¬ p.1=q.1:=fun h=>c1 h.symm
    simp [q1p,-V,-y3,-y0,J,e0,e3,m3,e7,e8,ga,g1,oi,hw];refine ih fa _ ⟨?_,?_,?_,?_,?_,no fun h=>c1 (by rw [h])⟩ <;> simp [e0,e3,m3,e7]
  ·have ga:¬ (i:Int)<l.length:=by omega
   simp [q1p,-V,-y3,-y0,J,e7,e8,ga];refine hk _ _ (.inl ⟨rfl,?_⟩);rw [ye (by omega)] at hd;simpa [idxI] using hd
 ·refine ⟨?_,?_,?_,?_,?_,?_⟩ <;> simp [prC]
 ·rcases h with ⟨rfl,hn⟩ | ⟨rfl,e4⟩
  ·simp [-V,-y3,-y0,J,hn]
  ·simp [-V,-y3,-y0,J,e4]
theorem contains_ev:evA 136 [.sl b (l.map prC),.agg (prC p)] (.bool (decide (p∈l))):=by
 have h:=index_ev l hl b p;refine q00 (c:=q1V) rfl rfl ?_;simp only [evA,prC] at h;have h2:decide (p∈l)=decide (0<=idxI (fun q=>decide (q=p)) l):=by
  rw [q9U];by_cases hp:p∈l
  ·rw [decide_eq_true hp,List.any_eq_true.2 ⟨p,hp,by simp⟩]
  ·rw [decide_eq_false hp]
   symm
   rw [List.any_eq_false];intro x hx;simp only [decide_eq_true_eq];rintro rfl;exact hp hx
 rw [h2];simp [q1V,-V,-y3,-y0,J,prC,h]
end
def addP (out:List Pr) (p:Pr):List Pr:=if p∈out then out else out++[p]
def comM (ys:List Mem) (f:Mem):List Pr:=if 0<=q1d ys f.id then (match ys[(q1d ys f.id).toNat]? with
 | some g=>[(f.ty,g.ty)]
 | none=>[]) else []
def comL (xs ys:List Mem):List Pr:=xs.flatMap (comM ys)
def keyL (x y:Typ):List Pr:=if x.kind=8/\0<x.max then [(x.key,y.key)] else []
def elemL (x y:Typ):List Pr:=if x.kind=9\/(x.kind=7\/x.kind=8)/\0<x.max then [(x.elem,y.elem)] else []
def q9f (x y:Typ):List Pr:=if x.kind=y.kind then (comL x.mems y.mems++keyL x y++elemL x y).foldl addP [] else []
theorem comM_len (ys:List Mem) (f:Mem):(comM ys f).length<=1:=by
 unfold comM;split
 ·split <;> simp
 ·simp
theorem addP_len (out:List Pr) (p:Pr):(addP out p).length<=out.length + 1:=by
 unfold addP;split <;> simp
theorem q8H:∀ (l out:List Pr),(l.foldl addP out).length<=out.length + l.length
 | [],out=>by simp
 | p :: r,out=>by
  have h1:=q8H r (addP out p);have h2:=addP_len out p;simp only [List.foldl_cons,yH];omega
theorem q9N (ys:List Mem):∀ xs:List Mem,(comL xs ys).length<=xs.length
 | []=>by simp [comL]
 | f :: r=>by
  have h1:=q9N ys r;have h2:=comM_len ys f;simp only [comL,List.flatMap_cons,yp,yH] at h1 ⊢;omega
def q7a (out:List Pr) (a:An):List Slot:=[⟨.sl out.isEmpty (out.map prC),a⟩]
def outAn (out:List Pr) (a:An):Prop:=out=[]/\a=.ex\/out≠[]/\a=.own 16 63
theorem add_ev {r:RV} (out:List Pr) (ja:out.length<=1000000) (a b:Int) {a1 a2 a3:An} {s:MSt} {t n:Nat} {an:An} (ht:t≠5) (hm:s.mem t n=some (q7a out an)) (xp:outAn out an) (k:Slot->MSt->Option RV)
  (hk:∀ y s' cE,s.next<=s'.next->s'.mem t n=some (q7a (addP out (a,b)) cE)->outAn (addP out (a,b)) cE->(∀ j,(s'.gh j).v=(s.gh j).v)->(∀ t' n' row,t'≠5->¬ (t'=t/\n'=n)->s.mem t' n'=some row->(∀ x∈row,x.a=.no)->s'.mem t' n'=some row)->k y s'=some r) :
  evH allT q01 135 [⟨.int .i64 a,a1⟩,⟨.int .i64 b,a2⟩,⟨.ptr t n 0,a3⟩] s k=some r:=by
 refine evH_intro q0X rfl rfl ?_;have hc:=contains_ev out (by omega) out.isEmpty (a,b);have q:=q6C out;have ba:q0G 16 (out.length + 1)=true:=by rw [q0d]; omega
 have ka:∀ (row:List Slot),(∀ x∈row,x.a=.no)->row.map (Slot.strip 16)=row:=fun row h=>by
  conv=>rhs; rw [<- List.map_id row]
  refine yl fun x hx=>?_
  have:=h x hx;cases x;simp only at this;subst this;rfl
 simp only [evA,prC] at hc;simp only [q7a] at hm;by_cases wd:(a,b)∈out
 ·rw [decide_eq_true wd] at hc;have oy:addP out (a,b)=out:=if_pos wd;rw [oy] at hk;simp [q0X,-V,-y3,-y0,J,hm,ht,hc];refine hk _ _ an ?_ ?_ xp ?_ ?_
  ·simp; omega
  ·simp [hm,ht,q7a]
  ·intro j; simp
  ·intro t' n' row h5 oa h1 _;simp [h5,h1]
 ·rw [decide_eq_false wd] at hc;have oy:addP out (a,b)=out++[(a,b)]:=if_neg wd;rw [oy] at hk;rcases xp with ⟨rfl,rfl⟩ | ⟨oa,rfl⟩
  ·simp only [List.isEmpty_nil,yr] at hc hm;simp [q0X,-V,-y3,-y0,J,hm,ht,hc,room1];refine hk _ _ (.own 16 63) ?_ ?_ (.inr ⟨by simp,rfl⟩) ?_ ?_
   ·simp; omega
   ·simp [hm,ht,q7a,prC]
   ·intro j; simp
   ·intro t' n' row h5 oa h1 h2;have:=ka row h2;simp [h5,oa,h1,this]
  ·have jg:out.isEmpty=false:=by simpa using oa
   rw [jg] at hm hc;simp [q0X,-V,-y3,-y0,J,hm,ht,hc,ba,q];refine hk _ _ (.own 16 63) ?_ ?_ (.inr ⟨by simp,rfl⟩) ?_ ?_
   ·simp; omega
   ·simp [hm,ht,q7a,prC]
   ·intro j; simp
   ·intro t' n' row h5 oa h1 h2;have:=ka row h2;simp [h5,oa,h1,this]
theorem comM_some {ys:List Mem} {f:Mem} (h:0<=q1d ys f.id) {g:Mem} (hg:ys[(q1d ys f.id).toNat]?=some g):comM ys f=[(f.ty,g.ty)]:=by
 unfold comM;rw [if_pos h,hg]
theorem comM_none {ys:List Mem} {f:Mem} (h:¬ 0<=q1d ys f.id):comM ys f=[]:=if_neg h
def qbc (xs ys:List Mem) (i:Nat):List Pr:=(comL (xs.take i) ys).foldl addP []
theorem comTo_step {xs ys:List Mem} {i:Nat} (h:i<xs.length):qbc xs ys (i + 1)=(comM ys xs[i]).foldl addP (qbc xs ys i):=by
 unfold qbc comL;rw [<- yK h,List.flatMap_append,List.foldl_append];simp
theorem comTo_len (xs ys:List Mem) (i:Nat):(qbc xs ys i).length<=i:=by
 have h1:=q8H (comL (xs.take i) ys) [];have h2:=q9N ys (xs.take i);simp only [yC,List.length_nil] at h1 h2;unfold qbc;omega
structure SucI (x y:Typ) (out:List Pr) (s:MSt):Prop where
 e9:(s.env 9).v=.ptr 9 2 0
 e10:(s.env 10).v=.ptr 10 2 0
 e11:(s.env 11).v=.ptr 11 3 0
 e12:(s.env 12).v=.fn 135 [.ptr 11 3 0]
 m9:s.mem 9 2=some (q0b x)
 m10:s.mem 10 2=some (q0b y)
 m11:∃ an,s.mem 11 3=some (q7a out an)/\outAn out an
theorem SucI.of {x y:Typ} {out:List Pr} {s s':MSt} (h:SucI x y out s) (he:∀ t,9<=t->t<=12->(s'.env t).v=(s.env t).v) (hm:∀ t n,9<=t->t<=11->s'.mem t n=s.mem t n):SucI x y out s':=by
 obtain ⟨h1,h2,h3,h4,h5,h6,h7⟩:=h;exact ⟨by rw [he 9 (by omega) (by omega),h1],by rw [he 10 (by omega) (by omega),h2],by rw [he 11 (by omega) (by omega),h3],by rw [he 12 (by omega) (by omega),h4],by rw [hm 9 _ (by omega) (by omega),h5],by rw [hm 10 _ (by omega) (by omega),h6],by rw [hm 11 _ (by omega) (by omega)]; exact h7⟩
theorem typRow_no (x:Typ):∀ s∈q0b x,s.a=.no:=by simp [q0b]
theorem suc_add {r:RV} {x y:Typ} {out:List Pr} {E:Nat->Slot} {M:Nat->Nat->Option (List Slot)} {n:Nat} {ob:Nat->Nat->Option AV} {g:Nat->Slot} (h:SucI x y out ⟨E,M,n,ob,g⟩) (ja:out.length<=1000000) (a b:Int) {a1 a2 a3:An} (k:Slot->MSt->Option RV)
  (hk:∀ yv s',SucI x y (addP out (a,b)) ⟨backE 99 s'.gh,s'.mem,s'.next,s'.obj,restE 99 s'.gh⟩->(∀ j,j<99->(s'.gh j).v=(E j).v)->k yv s'=some r) :
  evH allT q01 135 [⟨.int .i64 a,a1⟩,⟨.int .i64 b,a2⟩,⟨.ptr 11 3 0,a3⟩] ⟨E,M,n,ob,waitE 99 E g⟩ k=some r:=by
 obtain ⟨h1,h2,h3,h4,h5,h6,an,h7,h8⟩:=h;refine add_ev (s:=⟨E,M,n,ob,waitE 99 E g⟩) out ja a b (by decide) h7 h8 k (fun yv s' cE hn hm xp ue na=>?_);have hj:∀ j,j<99->(s'.gh j).v=(E j).v:=fun j hj=>by rw [ue j]; simp [hj]
 refine hk yv s' ⟨?_,?_,?_,?_,?_,?_,cE,hm,xp⟩ hj
 ·simpa [hj 9] using h1
 ·simpa [hj 10] using h2
 ·simpa [hj 11] using h3
 ·simpa [hj 12] using h4
 ·exact na 9 2 _ (by decide) (by decide) h5 (typRow_no x)
 ·exact na 10 2 _ (by decide) (by decide) h6 (typRow_no y)
theorem successors_ev (w r:Sch) {x y:Typ} {i k:Int} (hi:0<=i) (gx:w.types[i.toNat]?=some x) (hk:0<=k) (gy:r.types[k.toNat]?=some y) (ev:x.mems.length<=1000) (aE:y.mems.length<=1000):evA 79 [.agg (schC w),.int .i64 i,.agg (schC r),.int .i64 k] (.sl (q9f x y).isEmpty ((q9f x y).map prC)):=by
 have g1:(w.types.map typC)[i.toNat]?=some (typC x):=by rw [yc,gx]; rfl
 have g2:(r.types.map typC)[k.toNat]?=some (typC y):=by rw [yc,gy]; rfl
 simp only [typC] at g1 g2;refine q00 (c:=q1O) rfl rfl ?_;by_cases e:x.kind=y.kind
 case neg=>simp [q1O,-V,-y3,-y0,J,schC,g1,g2,hi,hk,e,q9f]
 simp [q1O,-V,-y3,-y0,J,schC,g1,g2,hi,hk,e];refine q06 x.mems.length (fun i s=>SucI x y (qbc x.mems y.mems i) s/\(s.env 35).v=.sl x.mn (x.mems.map memC)/\(s.env 36).v=.int .i64 x.mems.length/\(s.env 37).v=.int .i64 i)
  (fun e s=>e=.exit 0/\SucI x y (qbc x.mems y.mems x.mems.length) s) (fun i hi s k h ih hk=>?_) _ _ ?_ (fun e1 s h=>?_)
 ·obtain ⟨hS,zw,rB,kE⟩:=h;have ly:=hS;obtain ⟨e9,e10,e11,e12,m9,m10,an,m11,ha⟩:=hS;refine q02 ?_;by_cases fa:i<x.mems.length
  ·have ga:(i:Int)<x.mems.length:=by omega
   have gm:(x.mems.map memC)[i]?=some (memC x.mems[i]):=by simp [fa]
   have uc:=q0s (i:=i);have za:=comTo_step (ys:=y.mems) fa;have jd:=comTo_len x.mems y.mems i;have fb:=mem_ev y x.mems[i].id (by omega);generalize x.mems[i]=f at *
   simp only [memC] at gm;simp only [evA,typC,memA] at fb;simp only [q0b] at m9 m10;by_cases c:0<=q1d y.mems f.id
   ·obtain ⟨g,hg,tu⟩:=q8Q c;have gg:(y.mems.map memC)[(q1d y.mems f.id).toNat]?=some (memC g):=by rw [yc,hg]; rfl
    rw [comM_some c hg] at za;have ad:max (q1d y.mems f.id) 0=q1d y.mems f.id:=by omega
    simp only [c,decide_true,ad] at fb;generalize q1d y.mems f.id=ix at *
    simp only [memC] at gg;simp [q1U,-V,-y3,-y0,J,e9,e10,e11,e12,m9,m10,zw,rB,kE,ga,gm,fb,gg,c,uc];refine suc_add (x:=x) (y:=y) (out:=qbc x.mems y.mems i) (ly.of ?_ ?_) (by omega) _ _ _ (fun yv s' hA hj=>?_)
    ·intro t h9 wm;simp
     repeat (rw [if_neg (by omega)])
    ·intro t n h9 um;simp
     repeat (rw [if_neg (by omega)])
    ·have uL:=hj 35 (by omega);have wL:=hj 36 (by omega);have xL:=hj 37 (by omega);simp [zw,rB,kE] at uL wL xL;simp [-V,-y3,-y0,J,xL,uc];refine ih fa _ ⟨?_,?_,?_,?_⟩
     ·rw [za];refine hA.of (fun t h9 wm=>?_) (fun t n _ _=>rfl);simp
      repeat (rw [if_neg (by omega)])
     ·simp [uL]
     ·simp [wL]
     ·simp
   ·rw [comM_none c] at za;simp only [c,decide_false] at fb;simp [q1U,-V,-y3,-y0,J,e9,e10,e11,e12,m9,m10,zw,rB,kE,ga,gm,fb,c,uc];refine ih fa _ ⟨?_,?_,?_,?_⟩
    ·rw [za];refine ly.of (fun t h9 wm=>?_) (fun t n h9 um=>?_)
     ·simp
      repeat (rw [if_neg (by omega)])
     ·simp
      repeat (rw [if_neg (by omega)])
    ·simp [zw]
    ·simp [rB]
    ·simp
  ·have ga:¬ (i:Int)<x.mems.length:=by omega
   have zf:i=x.mems.length:=by omega
   simp [q1U,-V,-y3,-y0,J,rB,kE,ga];refine hk _ _ ⟨rfl,?_⟩;rw [<- zf];refine ly.of (fun t h9 wm=>?_) (fun t n _ _=>rfl);simp
   repeat (rw [if_neg (by omega)])
 ·refine ⟨⟨?_,?_,?_,?_,?_,?_,.ex,?_,.inl ⟨rfl,rfl⟩⟩,?_,?_,?_⟩ <;> simp [q0b,e,q7a,qbc,comL]
 obtain ⟨rfl,hS⟩:=h;have jd:=comTo_len x.mems y.mems x.mems.length;have pd:q9f x y=(keyL x y++elemL x y).foldl addP (qbc x.mems y.mems x.mems.length):=by
  unfold q9f qbc;rw [if_pos e,List.take_length,List.foldl_append,List.foldl_append,List.foldl_append]
 generalize qbc x.mems y.mems x.mems.length=out at *
 unfold keyL elemL at pd;have ly:=hS;obtain ⟨e9,e10,e11,e12,m9,m10,an,m11,ha⟩:=hS;simp only [q0b] at m9 m10;rw [e] at pd;by_cases k8:y.kind=8
 ·by_cases c:0<x.max
  ·rw [if_pos ⟨k8,c⟩,if_pos (.inr ⟨.inr k8,c⟩)] at pd;simp only [List.cons_append,List.nil_append,List.foldl_cons,List.foldl_nil] at pd;simp [-V,-y3,-y0,J,e9,e10,e11,e12,m9,m10,e,k8,c];refine suc_add (x:=x) (y:=y) (out:=out) (ly.of ?_ ?_) (by omega) _ _ _ (fun yv s' hA hj=>?_)
   ·intro t h9 wm;simp
    repeat (rw [if_neg (by omega)])
   ·intro t n h9 um;rfl
   ·have eN:=hA;obtain ⟨f9,aK,f11,f12,n9,zL,an1,n11,hb⟩:=hA;simp at f9 aK f11 f12;simp only [q0b] at n9 zL;simp [-V,-y3,-y0,J,f9,aK,f11,f12,n9,zL,e,k8,c];have nn:=addP_len out (x.key,y.key);refine suc_add (x:=x) (y:=y) (out:=addP out (x.key,y.key)) (eN.of ?_ ?_) (by omega) _ _ _ (fun yv2 s2 hB tK=>?_)
    ·intro t h9 wm;simp
     repeat (rw [if_neg (by omega)])
    ·intro t n h9 um;rfl
    ·obtain ⟨b9,fK,uw,rh,p9,eM,zJ,tx,hc⟩:=hB;simp at uw;simp only [q7a] at tx;simp [-V,-y3,-y0,J,uw,tx,pd]
  ·rw [if_neg (fun h=>c h.2),if_neg (by omega)] at pd;simp only [yO,List.foldl_nil] at pd;simp only [q7a] at m11;simp [-V,-y3,-y0,J,e9,e10,e11,e12,m9,m10,m11,e,k8,c,pd]
 rw [if_neg (fun h=>k8 h.1),List.nil_append] at pd;by_cases k9:y.kind=9
 ·rw [if_pos (.inl k9)] at pd;simp only [List.foldl_cons,List.foldl_nil] at pd;simp [-V,-y3,-y0,J,e9,e10,e11,e12,m9,m10,e,k9];refine suc_add (x:=x) (y:=y) (out:=out) (ly.of ?_ ?_) (by omega) _ _ _ (fun yv s' hA hj=>?_)
  ·intro t h9 wm;simp
   repeat (rw [if_neg (by omega)])
  ·intro t n h9 um;rfl
  ·obtain ⟨b9,fK,uw,rh,p9,eM,zJ,tx,hc⟩:=hA;simp at uw;simp only [q7a] at tx;simp [-V,-y3,-y0,J,uw,tx,pd]
 by_cases k7:y.kind=7
 ·by_cases c:0<x.max
  ·rw [if_pos (.inr ⟨.inl k7,c⟩)] at pd;simp only [List.foldl_cons,List.foldl_nil] at pd;simp [-V,-y3,-y0,J,e9,e10,e11,e12,m9,m10,e,k7,c];refine suc_add (x:=x) (y:=y) (out:=out) (ly.of ?_ ?_) (by omega) _ _ _ (fun yv s' hA hj=>?_)
   ·intro t h9 wm;simp
    repeat (rw [if_neg (by omega)])
   ·intro t n h9 um;rfl
   ·obtain ⟨b9,fK,uw,rh,p9,eM,zJ,tx,hc⟩:=hA;simp at uw;simp only [q7a] at tx;simp [-V,-y3,-y0,J,uw,tx,pd]
  ·rw [if_neg (by omega)] at pd;simp only [List.foldl_nil] at pd;simp only [q7a] at m11;simp [-V,-y3,-y0,J,e9,e10,e11,e12,m9,m10,m11,e,k7,c,pd]
 rw [if_neg (by omega)] at pd;simp only [List.foldl_nil] at pd;simp only [q7a] at m11;simp [-V,-y3,-y0,J,e9,e10,e11,e12,m9,m10,m11,e,k7,k8,k9,pd]
theorem comL_step {xs ys:List Mem} {i:Nat} (h:i<xs.length):comL (xs.take (i + 1)) ys=comL (xs.take i) ys++comM ys xs[i]:=by
 unfold comL;rw [<- yK h,List.flatMap_append];simp
theorem comLT_len (ys xs:List Mem) (i:Nat):(comL (xs.take i) ys).length<=i:=by
 have h2:=q9N ys (xs.take i);simp only [yC] at h2;omega
def apA (l:List Pr) (a:An) (k:Nat):Prop:=l=[]/\a=.ex\/l≠[]/\a=.own k 63
theorem q6o {r:RV} (l:List Pr) (hl:l.length<=1000000) (s:MSt) (um:(s.env 11).v=.sl l.isEmpty (l.map prC)) (zh:(s.env 15).v=.sl true []) (tA:(s.env 16).v=.int .i64 0) (k:Ex->MSt->Option RV)
  (hk:∀ s',(s'.env 15).v=.sl (l.foldl addP []).isEmpty ((l.foldl addP []).map prC)->k (.exit 2) s'=some r):evL allT q01 q2M s k=some r:=by
 refine q06 l.length (fun i s=>(s.env 11).v=.sl l.isEmpty (l.map prC)/\(s.env 16).v=.int .i64 i/\(s.env 15).v=.sl ((l.take i).foldl addP []).isEmpty (((l.take i).foldl addP []).map prC)/\(((l.take i).foldl addP []=[])\/((l.take i).foldl addP []≠[])/\(s.env 15).a=.own 128 63))
  (fun e s=>e=.exit 2/\(s.env 15).v=.sl (l.foldl addP []).isEmpty ((l.foldl addP []).map prC)) (fun i hi s k h ih hk=>?_) _ _ ⟨um,tA,by simpa using zh,.inl rfl⟩ (fun e s h=>by obtain ⟨rfl,h⟩:=h; exact hk _ h)
 obtain ⟨e11,oc,fc,bE⟩:=h;refine q02 ?_;by_cases fa:i<l.length
 ·have ga:(i:Int)<l.length:=by omega
  have g1:(l.map prC)[i]?=some (prC l[i]):=by simp [fa]
  have hw:=q0s (i:=i);have za:(l.take (i + 1)).foldl addP []=addP ((l.take i).foldl addP []) l[i]:=by rw [<- yK fa,List.foldl_append]; rfl
  have ja:((l.take i).foldl addP []).length<=i:=by
   have:=q8H (l.take i) [];simp only [yC,List.length_nil] at this;omega
  rw [za] at ih;generalize (l.take i).foldl addP []=out at *
  generalize l[i]=p at *
  have wd:=rin_ev out (by omega) out.isEmpty p;have q:=q6C out;have ba:q0G 16 (out.length + 1)=true:=by rw [q0d]; omega
  simp only [evA,prC] at wd g1;by_cases c:p∈out
  ·rw [decide_eq_true c] at wd;rw [show addP out p=out from if_pos c] at ih;simp [q2M,-V,-y3,-y0,J,e11,fc,oc,ga,g1,wd,hw];refine ih fa _ ⟨?_,?_,?_,?_⟩
   ·simp [e11]
   ·simp
   ·simp [fc]
   ·simpa using bE
  ·rw [decide_eq_false c] at wd;rw [show addP out p=out++[p] from if_neg c] at ih;rcases bE with rfl | ⟨oa,bE⟩
   ·simp at fc wd;simp [q2M,-V,-y3,-y0,J,e11,fc,oc,ga,g1,wd,hw,room1,room2];refine ih fa _ ⟨?_,?_,?_,.inr ⟨by simp,?_⟩⟩
    ·simp [e11]
    ·simp
    ·simp [prC]
    ·simp
   ·have jg:out.isEmpty=false:=by simpa using oa
    rw [jg] at fc wd;simp [q2M,-V,-y3,-y0,J,e11,fc,bE,oc,ga,g1,wd,hw,ba,q];refine ih fa _ ⟨?_,?_,?_,.inr ⟨by simp,?_⟩⟩
    ·simp [e11]
    ·simp
    ·simp [prC]
    ·simp
 ·have ga:¬ (i:Int)<l.length:=by omega
  simp [q2M,-V,-y3,-y0,J,e11,oc,ga];refine hk _ _ ⟨rfl,?_⟩;rw [yD (by omega)] at fc;simp [fc]
structure RnI (x y:Typ) (l:List Pr) (s:MSt):Prop where
 e9:(s.env 9).v=.ptr 9 2 0
 e10:(s.env 10).v=.ptr 10 2 0
 m9:s.mem 9 2=some (q0b x)
 m10:s.mem 10 2=some (q0b y)
 e11:(s.env 11).v=.sl l.isEmpty (l.map prC)
 a11:apA l (s.env 11).a 66
theorem next_ev (w r:Sch) {x y:Typ} {i k:Int} (hi:0<=i) (gx:w.types[i.toNat]?=some x) (hk:0<=k) (gy:r.types[k.toNat]?=some y) (ev:x.mems.length<=1000) (aE:y.mems.length<=1000):evA 41 [.agg (schC w),.int .i64 i,.agg (schC r),.int .i64 k] (.sl (q9f x y).isEmpty ((q9f x y).map prC)):=by
 have g1:(w.types.map typC)[i.toNat]?=some (typC x):=by rw [yc,gx]; rfl
 have g2:(r.types.map typC)[k.toNat]?=some (typC y):=by rw [yc,gy]; rfl
 simp only [typC] at g1 g2;refine q00 (c:=q5u) rfl rfl ?_;by_cases e:x.kind=y.kind
 case neg=>simp [q5u,-V,-y3,-y0,J,schC,g1,g2,hi,hk,e,q9f]
 simp [q5u,-V,-y3,-y0,J,schC,g1,g2,hi,hk,e];refine q06 x.mems.length (fun i s=>RnI x y (comL (x.mems.take i) y.mems) s/\(s.env 12).v=.int .i64 i)
  (fun e s=>e=.exit 0/\RnI x y (comL x.mems y.mems) s) (fun i hi s k h ih hk=>?_) _ _ ?_ (fun e1 s h=>?_)
 ·obtain ⟨⟨e9,e10,m9,m10,e11,a11⟩,e12⟩:=h;refine q02 ?_;simp only [q0b] at m9 m10;by_cases fa:i<x.mems.length
  ·have ga:(i:Int)<x.mems.length:=by omega
   have gm:(x.mems.map memC)[i]?=some (memC x.mems[i]):=by simp [fa]
   have uc:=q0s (i:=i);have za:=comL_step (ys:=y.mems) fa;have jd:=comLT_len y.mems x.mems i;have fb:=rmem_ev y x.mems[i].id (by omega);rw [za] at ih;generalize x.mems[i]=f at *
   generalize comL (x.mems.take i) y.mems=out at *
   have q:=q6C out;have ba:q0G 16 (out.length + 1)=true:=by rw [q0d]; omega
   simp only [memC] at gm;simp only [evA,typC,memA] at fb;by_cases c:0<=q1d y.mems f.id
   ·obtain ⟨g,hg,tu⟩:=q8Q c;have gg:(y.mems.map memC)[(q1d y.mems f.id).toNat]?=some (memC g):=by rw [yc,hg]; rfl
    rw [comM_some c hg] at ih;have ad:max (q1d y.mems f.id) 0=q1d y.mems f.id:=by omega
    simp only [c,decide_true,ad] at fb;generalize q1d y.mems f.id=ix at *
    simp only [memC] at gg;rcases a11 with ⟨rfl,a11⟩ | ⟨oa,a11⟩
    ·simp at e11;simp [q3w,-V,-y3,-y0,J,e9,e10,e11,a11,e12,m9,m10,ga,gm,fb,gg,c,uc,room1,room2];refine ih fa _ ⟨⟨?_,?_,?_,?_,?_,.inr ⟨by simp,?_⟩⟩,?_⟩ <;> simp [e9,e10,m9,m10,q0b,prC]
    ·have jg:out.isEmpty=false:=by simpa using oa
     rw [jg] at e11;simp [q3w,-V,-y3,-y0,J,e9,e10,e11,a11,e12,m9,m10,ga,gm,fb,gg,c,uc,ba,q];refine ih fa _ ⟨⟨?_,?_,?_,?_,?_,.inr ⟨by simp,?_⟩⟩,?_⟩ <;> simp [e9,e10,m9,m10,q0b,prC]
   ·rw [comM_none c,yO] at ih;simp only [c,decide_false] at fb;simp [q3w,-V,-y3,-y0,J,e9,e10,e11,e12,m9,m10,ga,gm,fb,c,uc];refine ih fa _ ⟨⟨?_,?_,?_,?_,?_,?_⟩,?_⟩
    ·simp [e9]
    ·simp [e10]
    ·simp [m9,q0b]
    ·simp [m10,q0b]
    ·simp [e11]
    ·simpa using a11
    ·simp
  ·have ga:¬ (i:Int)<x.mems.length:=by omega
   simp [q3w,-V,-y3,-y0,J,e9,m9,e12,ga];rw [yD (by omega)] at e11 a11;refine hk _ _ ⟨rfl,⟨?_,?_,?_,?_,?_,?_⟩⟩
   ·simp [e9]
   ·simp [e10]
   ·simp [m9,q0b]
   ·simp [m10,q0b]
   ·simp [e11]
   ·simpa using a11
 ·refine ⟨⟨?_,?_,?_,?_,?_,.inl ⟨rfl,?_⟩⟩,?_⟩ <;> simp [q0b,e,comL]
 obtain ⟨rfl,e9,e10,m9,m10,e11,a11⟩:=h;have jd:=q9N y.mems x.mems;have pd:q9f x y=(comL x.mems y.mems++keyL x y++elemL x y).foldl addP []:=by
  unfold q9f;rw [if_pos e]
 generalize comL x.mems y.mems=out at *
 unfold keyL elemL at pd;simp only [q0b] at m9 m10;rw [e] at pd;have q:=q6C out;have ba:q0G 16 (out.length + 1)=true:=by rw [q0d]; omega
 by_cases k8:y.kind=8
 ·by_cases c:0<x.max
  ·rw [if_pos ⟨k8,c⟩,if_pos (.inr ⟨.inr k8,c⟩)] at pd;have bo:q0G 16 (out.length + 1 + 1)=true:=by rw [q0d]; omega
   have q2:=q6C (out++[(x.key,y.key)]);simp only [List.map_append,yh,yr,prC] at q2;rcases a11 with ⟨rfl,a11⟩ | ⟨oa,a11⟩
   ·simp at e11;simp [-V,-y3,-y0,J,e9,e10,e11,a11,m9,m10,e,k8,c,room1,room2];refine q6o [(x.key,y.key),(x.elem,y.elem)] (by simp) _ ?_ ?_ ?_ _ (fun s' zh=>?_)
    ·simp [prC]
    ·simp
    ·simp
    ·simp [-V,-y3,-y0,J,zh,pd]
   ·have jg:out.isEmpty=false:=by simpa using oa
    rw [jg] at e11;simp [-V,-y3,-y0,J,e9,e10,e11,a11,m9,m10,e,k8,c,ba,bo,q,q2];refine q6o (out++[(x.key,y.key)]++[(x.elem,y.elem)]) (by simp; omega) _ ?_ ?_ ?_ _ (fun s' zh=>?_)
    ·simp [prC]
    ·simp
    ·simp
    ·simp only [yV] at zh pd;simp [-V,-y3,-y0,J,zh,pd]
  ·rw [if_neg (fun h=>c h.2),if_neg (by omega),yO,yO] at pd;simp [-V,-y3,-y0,J,e9,e10,e11,m9,m10,e,k8,c];refine q6o out (by omega) _ ?_ ?_ ?_ _ (fun s' zh=>?_)
   ·simp [e11]
   ·simp
   ·simp
   ·simp [-V,-y3,-y0,J,zh,pd]
 rw [if_neg (fun h=>k8 h.1),yO] at pd;by_cases k9:y.kind=9
 ·rw [if_pos (.inl k9)] at pd;rcases a11 with ⟨rfl,a11⟩ | ⟨oa,a11⟩
  ·simp at e11;simp [-V,-y3,-y0,J,e9,e10,e11,a11,m9,m10,e,k9,room1,room2];refine q6o [(x.elem,y.elem)] (by simp) _ ?_ ?_ ?_ _ (fun s' zh=>?_)
   ·simp [prC]
   ·simp
   ·simp
   ·simp [-V,-y3,-y0,J,zh,pd]
  ·have jg:out.isEmpty=false:=by simpa using oa
   rw [jg] at e11;simp [-V,-y3,-y0,J,e9,e10,e11,a11,m9,m10,e,k9,ba,q];refine q6o (out++[(x.elem,y.elem)]) (by simp; omega) _ ?_ ?_ ?_ _ (fun s' zh=>?_)
   ·simp [prC]
   ·simp
   ·simp
   ·simp [-V,-y3,-y0,J,zh,pd]
 by_cases k7:y.kind=7
 ·by_cases c:0<x.max
  ·rw [if_pos (.inr ⟨.inl k7,c⟩)] at pd;rcases a11 with ⟨rfl,a11⟩ | ⟨oa,a11⟩
   ·simp at e11;simp [-V,-y3,-y0,J,e9,e10,e11,a11,m9,m10,e,k7,c,room1,room2];refine q6o [(x.elem,y.elem)] (by simp) _ ?_ ?_ ?_ _ (fun s' zh=>?_)
    ·simp [prC]
    ·simp
    ·simp
    ·simp [-V,-y3,-y0,J,zh,pd]
   ·have jg:out.isEmpty=false:=by simpa using oa
    rw [jg] at e11;simp [-V,-y3,-y0,J,e9,e10,e11,a11,m9,m10,e,k7,c,ba,q];refine q6o (out++[(x.elem,y.elem)]) (by simp; omega) _ ?_ ?_ ?_ _ (fun s' zh=>?_)
    ·simp [prC]
    ·simp
    ·simp
    ·simp [-V,-y3,-y0,J,zh,pd]
  ·rw [if_neg (by omega),yO] at pd;simp [-V,-y3,-y0,J,e9,e10,e11,m9,m10,e,k7,c];refine q6o out (by omega) _ ?_ ?_ ?_ _ (fun s' zh=>?_)
   ·simp [e11]
   ·simp
   ·simp
   ·simp [-V,-y3,-y0,J,zh,pd]
 rw [if_neg (by omega),yO] at pd;simp [-V,-y3,-y0,J,e9,e10,e11,m9,m10,e,k7,k8,k9];refine q6o out (by omega) _ ?_ ?_ ?_ _ (fun s' zh=>?_)
 ·simp [e11]
 ·simp
 ·simp
 ·simp [-V,-y3,-y0,J,zh,pd]
def inP (n m:Nat) (p:Pr):Prop:=0<=p.1/\p.1<n/\0<=p.2/\p.2<m
structure SimF (w r:Sch) (nx:Pr->List Pr) (rs:Pr->Int):Prop where
 suc:∀ p,inP w.types.length r.types.length p->evA 79 [.agg (schC w),.int .i64 p.1,.agg (schC r),.int .i64 p.2] (.sl (nx p).isEmpty ((nx p).map prC))
 rsuc:∀ p,inP w.types.length r.types.length p->evA 41 [.agg (schC w),.int .i64 p.1,.agg (schC r),.int .i64 p.2] (.sl (nx p).isEmpty ((nx p).map prC))
 rsn:∀ p,inP w.types.length r.types.length p->evA 77 [.agg (schC w),.int .i64 p.1,.agg (schC r),.int .i64 p.2] (.int .i64 (rs p))
 rrsn:∀ p,inP w.types.length r.types.length p->evA 78 [.agg (schC w),.int .i64 p.1,.agg (schC r),.int .i64 p.2] (.int .i64 (rs p))
 rng:∀ p,inP w.types.length r.types.length p->∀ q∈nx p,inP w.types.length r.types.length q
 len:∀ p,inP w.types.length r.types.length p->(nx p).length<=2000
 wl:w.types.length<=32
 rl:r.types.length<=32
abbrev Ent:=Pr × List Pr × Int
def addE (path:List Pr) (i:Int) (out:List Ent) (q:Pr):List Ent:=if q∈out.map (·.1) then out else out++[(q,path++[q],i)]
def bfs (nx:Pr->List Pr) (p:Pr):Nat->List Ent
 | 0=>[(p,[p],-1)]
 | i + 1=>match (bfs nx p i)[i]? with
  | some e=>(nx e.1).foldl (addE e.2.1 i) (bfs nx p i)
  | none=>bfs nx p i
def prs (l:List Ent):List Pr:=l.map (·.1)
theorem addE_prs (path:List Pr) (i:Int) (out:List Ent) (q:Pr):prs (addE path i out q)=addP (prs out) q:=by
 unfold addE addP prs;split <;> simp
theorem q6w (path:List Pr) (i:Int):∀ (l:List Pr) (out:List Ent),prs (l.foldl (addE path i) out)=l.foldl addP (prs out)
 | [],_=>rfl
 | q :: r,out=>by rw [List.foldl_cons,List.foldl_cons,q6w path i r,addE_prs]
theorem addP_nodup {out:List Pr} (h:out.Nodup) (q:Pr):(addP out q).Nodup:=by
 unfold addP;split
 ·exact h
 ·rename_i hq;rw [List.nodup_append];refine ⟨h,by simp,?_⟩;rintro a ha b hb rfl;simp at hb;subst hb;exact hq ha
theorem addsP_nodup:∀ (l out:List Pr),out.Nodup->(l.foldl addP out).Nodup
 | [],_,h=>h
 | q :: r,_,h=>addsP_nodup r _ (addP_nodup h q)
theorem addP_mem {out:List Pr} {q x:Pr}:x∈addP out q ↔ x∈out\/x=q:=by
 unfold addP;split
 ·rename_i h;constructor
  ·exact .inl
  ·rintro (h' | rfl)
   ·exact h'
   ·exact h
 ·simp
theorem q7p:∀ (l out:List Pr) {x:Pr},x∈l.foldl addP out ↔ x∈out\/x∈l
 | [],out,x=>by simp
 | q :: r,out,x=>by
  rw [List.foldl_cons,q7p r,addP_mem];simp [or_assoc]
theorem bfs_nodup (nx:Pr->List Pr) (p:Pr):∀ i,(prs (bfs nx p i)).Nodup
 | 0=>by simp [bfs,prs]
 | i + 1=>by
  rw [bfs];split
  ·rw [q6w]; exact addsP_nodup _ _ (bfs_nodup nx p i)
  ·exact bfs_nodup nx p i
theorem q8k {n m:Nat} {nx:Pr->List Pr} {p:Pr} (hp:inP n m p) (hr:∀ p,inP n m p->∀ q∈nx p,inP n m q):∀ i,∀ x∈prs (bfs nx p i),inP n m x
 | 0=>by simp [bfs,prs]; exact hp
 | i + 1=>fun x hx=>by
  rw [bfs] at hx;split at hx
  ·rename_i e he;rw [q6w,q7p] at hx;have hi:e.1∈prs (bfs nx p i):=yX (yj he);rcases hx with hx | hx
   ·exact q8k hp hr i x hx
   ·exact hr _ (q8k hp hr i _ hi) x hx
  ·exact q8k hp hr i x hx
def allPr (n m:Nat):List Pr:=(List.range n).flatMap fun (a:Nat)=>(List.range m).map fun (b:Nat)=>((a:Int),(b:Int))
theorem sum_const (m:Nat):∀ l:List Nat,(l.map fun _=>m).sum=l.length * m
 | []=>by simp
 | x :: r=>by
  simp only [yh,List.sum_cons,sum_const m r,yH,yt];omega
theorem allPr_len (n m:Nat):(allPr n m).length=n * m:=by
 have h:=sum_const m (List.range n);rw [List.length_range] at h;simp [allPr,List.length_flatMap,h]
theorem mem_allPr {n m:Nat} {p:Pr} (h:inP n m p):p∈allPr n m:=by
 obtain ⟨a,b⟩:=p;obtain ⟨h1,h2,h3,h4⟩:=h;simp only at h1 h2 h3 h4;unfold allPr;rw [List.mem_flatMap];refine ⟨a.toNat,by simp; omega,?_⟩;rw [yw];refine ⟨b.toNat,by simp; omega,?_⟩;rw [Int.toNat_of_nonneg h1,Int.toNat_of_nonneg h3]
theorem nodup_len:∀ {l m:List Pr},l.Nodup->(∀ x∈l,x∈m)->l.length<=m.length
 | [],m,_,_=>Nat.zero_le _
 | x :: r,m,hn,hm=>by
  rw [List.nodup_cons] at hn;have hx:=hm x (by simp);have:=nodup_len (l:=r) (m:=m.erase x) hn.2 (fun y hy=>by
   have oa:y≠x:=fun e=>hn.1 (e ▸ hy)
   exact (List.mem_erase_of_ne oa).2 (hm y (by simp [hy])))
  rw [List.length_erase_of_mem hx] at this;have hp:0<m.length:=List.length_pos_of_mem hx;simp only [yH];omega
theorem bfs_len {n m:Nat} {nx:Pr->List Pr} {p:Pr} (hp:inP n m p) (hr:∀ p,inP n m p->∀ q∈nx p,inP n m q) (i:Nat):(bfs nx p i).length<=n * m:=by
 have h1:=nodup_len (bfs_nodup nx p i) (fun x hx=>mem_allPr (q8k hp hr i x hx));rw [allPr_len] at h1;simpa [prs] using h1
theorem addE_pre (path:List Pr) (i:Int) (out:List Ent) (q:Pr):∃ t,addE path i out q=out++t:=by
 unfold addE;split
 ·exact ⟨[],by simp⟩
 ·exact ⟨_,rfl⟩
theorem addsE_pre (path:List Pr) (i:Int):∀ (l:List Pr) (out:List Ent),∃ t,l.foldl (addE path i) out=out++t
 | [],out=>⟨[],by simp⟩
 | q :: r,out=>by
  obtain ⟨t,ht⟩:=addE_pre path i out q;obtain ⟨u,hu⟩:=addsE_pre path i r (addE path i out q);exact ⟨t++u,by rw [List.foldl_cons,hu,ht,yV]⟩
theorem bfs_pre (nx:Pr->List Pr) (p:Pr) (i:Nat):∃ t,bfs nx p (i + 1)=bfs nx p i++t:=by
 rw [bfs];split
 ·exact addsE_pre _ _ _ _
 ·exact ⟨[],by simp⟩
theorem bfs_pre' (nx:Pr->List Pr) (p:Pr) {i:Nat}:∀ {j:Nat},i<=j->∃ t,bfs nx p j=bfs nx p i++t
 | 0,h=>by
  have:i=0:=by omega
  subst this;exact ⟨[],by simp⟩
 | j + 1,h=>by
  by_cases e:i=j + 1
  ·subst e; exact ⟨[],by simp⟩
  ·obtain ⟨t,ht⟩:=bfs_pre' nx p (i:=i) (j:=j) (by omega);obtain ⟨u,hu⟩:=bfs_pre nx p j;exact ⟨t++u,by rw [hu,ht,yV]⟩
theorem bfs_get (nx:Pr->List Pr) (p:Pr) {i j k:Nat} (h:i<=j) {e:Ent} (he:(bfs nx p i)[k]?=some e):(bfs nx p j)[k]?=some e:=by
 obtain ⟨t,ht⟩:=bfs_pre' nx p h;rw [ht,yE (yb.1 he).1];exact he
theorem bfs_stop {nx:Pr->List Pr} {p:Pr} {i:Nat} (h:(bfs nx p i).length=i):∀ {j:Nat},i<=j->bfs nx p j=bfs nx p i
 | 0,hj=>by
  have:i=0:=by omega
  rw [this]
 | j + 1,hj=>by
  by_cases e:i=j + 1
  ·rw [e]
  ·have hb:=bfs_stop h (j:=j) (by omega);rw [bfs,hb,yL (by omega)]
def bfsE (nx:Pr->List Pr) (p:Pr):List Ent:=bfs nx p 1024
theorem bfsE_of {nx:Pr->List Pr} {p:Pr} {i:Nat} (h:(bfs nx p i).length=i) (hi:i<=1024):bfsE nx p=bfs nx p i:=bfs_stop h hi
structure EntOk (nx:Pr->List Pr) (p:Pr) (l:List Ent) (k:Nat) (e:Ent):Prop where
 bef:(k=0/\e=(p,[p],-1))\/(∃ j:Nat,j<k/\e.2.2=j/\∃ e',l[j]?=some e'/\e.2.1=e'.2.1++[e.1]/\e.1∈nx e'.1)
theorem EntOk.more {nx:Pr->List Pr} {p:Pr} {l:List Ent} {k:Nat} {e:Ent} (h:EntOk nx p l k e) (t:List Ent):EntOk nx p (l++t) k e:=by
 rcases h with ⟨h | ⟨j,h1,h2,e',h3,h4⟩⟩
 ·exact ⟨.inl h⟩
 ·exact ⟨.inr ⟨j,h1,h2,e',by rw [yE (yb.1 h3).1]; exact h3,h4⟩⟩
theorem addsE_ok {nx:Pr->List Pr} {p:Pr} {i:Nat} {e0:Ent}:∀ (l:List Pr) (out:List Ent),(∀ q∈l,q∈nx e0.1)->out[i]?=some e0->(∀ k e,out[k]?=some e->EntOk nx p out k e)->∀ k e,(l.foldl (addE e0.2.1 i) out)[k]?=some e->EntOk nx p (l.foldl (addE e0.2.1 i) out) k e
 | [],_,_,_,h=>h
 | q :: r,out,hq,hi,h=>by
  rw [List.foldl_cons];have zf:=(yb.1 hi).1;refine addsE_ok r _ (fun x hx=>hq x (by simp [hx])) ?_ ?_
  ·obtain ⟨t,ht⟩:=addE_pre e0.2.1 i out q;rw [ht,yE zf];exact hi
  ·intro k e he;unfold addE at he ⊢;split at he
   ·rename_i hc;rw [if_pos hc];exact h k e he
   ·rename_i hc;rw [if_neg hc];by_cases hk:k<out.length
    ·rw [yE hk] at he;exact (h k e he).more _
    ·have aI:k=out.length:=by
      have:=(yb.1 he).1;simp at this;omega
     subst aI;simp at he;subst he;exact ⟨.inr ⟨i,zf,rfl,e0,by rw [yE zf]; exact hi,rfl,hq q (by simp)⟩⟩
theorem bfs_ok (nx:Pr->List Pr) (p:Pr):∀ i,∀ k e,(bfs nx p i)[k]?=some e->EntOk nx p (bfs nx p i) k e
 | 0=>fun k e he=>by
  simp [bfs] at he ⊢;cases k with
  | zero=>simp at he; subst he; exact ⟨.inl ⟨rfl,rfl⟩⟩
  | succ k=>simp at he
 | i + 1=>by
  rw [bfs];split
  ·rename_i e0 md;exact addsE_ok _ _ (fun q hq=>hq) md (bfs_ok nx p i)
  ·exact bfs_ok nx p i
theorem bfs_closed {nx:Pr->List Pr} {p:Pr} {i:Nat}:∀ k,k<i->∀ e,(bfs nx p i)[k]?=some e->∀ q∈nx e.1,q∈prs (bfs nx p i):=by
 induction i with
 | zero=>intro k hk; omega
 | succ i ih =>
  intro k hk e he q hq;have uI:=bfs_pre nx p i;obtain ⟨t,ht⟩:=uI;by_cases zO:k=i
  ·subst zO;cases hb:(bfs nx p k)[k]? with
   | none =>
    have hE:bfs nx p (k + 1)=bfs nx p k:=by rw [bfs,hb]
    rw [hE,hb] at he;cases he
   | some e0 =>
    have:=bfs_get nx p (Nat.le_succ k) hb;rw [this] at he;injection he with he;subst he;rw [bfs,hb];simp only;rw [q6w,q7p];exact .inr hq
  ·by_cases kh:k<(bfs nx p i).length
   ·have tg:(bfs nx p i)[k]?=some e:=by rw [ht,yE kh] at he; exact he
    have:=ih k (by omega) e tg q hq;rw [ht];unfold prs at this ⊢;rw [List.map_append];exact List.mem_append_left _ this
   ·have za:(bfs nx p i).length=i\/(bfs nx p i).length<i:=by omega
    have hE:bfs nx p (i + 1)=bfs nx p i:=by rw [bfs,yL (by omega)]
    rw [hE,yL (by omega)] at he;cases he
section
variable {n m:Nat} {nx:Pr->List Pr} {p:Pr} (hp:inP n m p) (hr:∀ p,inP n m p->∀ q∈nx p,inP n m q) (hn:n<=32) (hm:m<=32)
include n m nx p hp hr hn hm
theorem bfs_full:(bfsE nx p).length<=1024:=by
 have h1:=bfs_len hp hr 1024;have h2:n * m<=32 * 32:=Nat.mul_le_mul hn hm;unfold bfsE;omega
theorem bfsE_closed {x:Pr} (hx:x∈prs (bfsE nx p)):∀ q∈nx x,q∈prs (bfsE nx p):=by
 obtain ⟨e,he,rfl⟩:=yw.1 hx;obtain ⟨k,hk,rfl⟩:=yx he;have hf:=bfs_full hp hr hn hm;exact bfs_closed k (by omega) _ (y5 hk)
end
theorem bfsE_root (nx:Pr->List Pr) (p:Pr):(bfsE nx p)[0]?=some (p,[p],-1):=bfs_get nx p (Nat.zero_le 1024) rfl
def qaQ (p:Pr):List AV:=[.agg (prC p),.bool true]
def befC (e:Ent):List AV:=[.int .i64 e.2.2]
def q3d (s:Sch) (t:Int):List AV:=[.sl s.nl (s.types.map typC),.int .i64 t]
def q2Q (s:Sch) (t:Int):List Slot:=[⟨.sl s.nl (s.types.map typC),.no⟩,⟨.int .i64 t,.no⟩]
theorem seenP_get (p:Pr):∀ l:List Pr,q6J (l.map qaQ) (.agg [.int .i64 p.1,.int .i64 p.2])=if p∈l then some (AV.bool true) else none
 | []=>rfl
 | x :: r=>by
  have:=seenP_get p r;simp only [yh,qaQ,prC,q6J,qbe,keyEqs];by_cases h1:x.1=p.1
  ·by_cases h2:x.2=p.2
   ·have e:x=p:=Prod.ext h1 h2;simp [h1,h2,e]
   ·have e:¬ p=x:=fun h=>h2 (by rw [h])
    simp [h1,h2,e,this,qaQ]
  ·have e:¬ p=x:=fun h=>h1 (by rw [h])
   simp [h1,e,this,qaQ]
theorem seenP_set (p:Pr):∀ l:List Pr,¬ p∈l->q55 (l.map qaQ) (.agg [.int .i64 p.1,.int .i64 p.2]) (.bool true)=(l++[p]).map qaQ
 | [],_=>rfl
 | x :: r,hn=>by
  have h:¬ p=x:=fun e=>hn (by simp [e])
  have:=seenP_set p r fun e=>hn (by simp [e])
  have h':¬ (x.1=p.1/\x.2=p.2):=fun ⟨a,b⟩=>h (Prod.ext a.symm b.symm)
  simp only [yh,qaQ,prC,q55,qbe,keyEqs,List.cons_append];by_cases h1:x.1=p.1
  ·have h2:¬ x.2=p.2:=fun b=>h' ⟨h1,b⟩
   simp [h1,h2,this,qaQ,prC]
  ·simp [h1,this,qaQ,prC]
theorem seenP_ok:∀ l:List Pr,q76 (.agg [some .i64,some .i64]) (l.map qaQ)=true
 | []=>rfl
 | x :: r=>by
  have:=seenP_ok r;simp only [q76] at this;simp [q76,qaQ,prC,q6i,q82,AV.flat,AV.scal]
theorem els_bef (l:List Ent):q13 1 (l.map befC)=true:=q1a _ _ _ fun _=>rfl
structure ReI (w r:Sch) (t u:Int) (out:List Ent) (s:MSt):Prop where
 e2:(s.env 2).v=.ptr 2 1 0
 e3:(s.env 3).v=.ptr 3 1 0
 m2:s.mem 2 1=some (q2Q w t)
 m3:s.mem 3 1=some (q2Q r u)
 e6:(s.env 6).v=.sl false ((prs out).map prC)
 a6:(s.env 6).a=.ex\/(s.env 6).a=.own 59 63
 e7:(s.env 7).v=.sl false (out.map befC)
 a7:(s.env 7).a=.ex\/(s.env 7).a=.own 63 3
 e8:(s.env 8).v=.mp 19 3
 ob:s.obj 19 3=some (q6m ((prs out).map qaQ))
theorem addE_in {path:List Pr} {i:Int} {out:List Ent} {q:Pr} (h:q∈prs out):addE path i out q=out:=if_pos h
theorem addE_out {path:List Pr} {i:Int} {out:List Ent} {q:Pr} (h:¬ q∈prs out):addE path i out q=out++[(q,path++[q],i)]:=if_neg h
theorem reach_in {rv:RV} (w r:Sch) (t u:Int) (path:List Pr) (i:Nat) (hi:i<=1000000) (qs:List Pr) (hq:qs.length<=1000000) (qb:Bool) (out:List Ent) (ho:out.length<=1000000) (s:MSt) (h:ReI w r t u out s) (e9:(s.env 9).v=.int .i64 i) (pA:(s.env 44).v=.sl qb (qs.map prC)) (ay:(s.env 45).v=.int .i64 qs.length) (tB:(s.env 46).v=.int .i64 0) (k:Ex->MSt->Option RV)
  (hk:∀ s',ReI w r t u (qs.foldl (addE path i) out) s'->(s'.env 9).v=.int .i64 i->k (.exit 2) s'=some rv):evL allT q01 q1N s k=some rv:=by
 refine q06 qs.length (fun j s=>ReI w r t u ((qs.take j).foldl (addE path i) out) s/\(s.env 9).v=.int .i64 i/\(s.env 44).v=.sl qb (qs.map prC)/\(s.env 45).v=.int .i64 qs.length/\(s.env 46).v=.int .i64 j)
  (fun e s=>e=.exit 2/\ReI w r t u (qs.foldl (addE path i) out) s/\(s.env 9).v=.int .i64 i) (fun j hj s k h ih hk=>?_) _ _ ⟨h,e9,pA,ay,tB⟩ (fun e s h=>by obtain ⟨rfl,h1,h2⟩:=h; exact hk _ h1 h2)
 obtain ⟨⟨e2,e3,m2,m3,e6,a6,e7,a7,e8,ob⟩,e9,pA,ay,tB⟩:=h;refine q02 ?_;by_cases fa:j<qs.length
 ·have ga:(j:Int)<qs.length:=by omega
  have g1:(qs.map prC)[j]?=some (prC qs[j]):=by simp [fa]
  have hw:=q0s (i:=j);have za:(qs.take (j + 1)).foldl (addE path i) out=addE path i ((qs.take j).foldl (addE path i) out) qs[j]:=by rw [<- yK fa,List.foldl_append]; rfl
  have ja:((qs.take j).foldl (addE path i) out).length<=out.length + j:=by
   have h1:=q8H (qs.take j) (prs out);rw [<- q6w path i] at h1;simp only [prs,yo,yC] at h1;omega
  rw [za] at ih;generalize (qs.take j).foldl (addE path i) out=out' at *
  generalize qs[j]=q at *
  have te:=seenP_get q (prs out');have bq:=seenP_ok (prs out');have q1:=q6C (prs out');have q2:=els_bef out';have rf:(prs out').length=out'.length:=by simp [prs]
  have ao:q0G 16 (out'.length + 1)=true:=by rw [q0d]; omega
  have bo:q0G 8 (out'.length + 1)=true:=by rw [q0d]; omega
  simp only [prC] at g1;by_cases c:q∈prs out'
  ·rw [if_pos c] at te;rw [addE_in c] at ih;simp [q1N,-V,-y3,-y0,J,e8,pA,ay,tB,ga,g1,ob,q46,bq,q6i,q82,AV.flat,AV.scal,te,hw];refine ih fa _ ⟨⟨?_,?_,?_,?_,?_,?_,?_,?_,?_,?_⟩,?_,?_,?_,?_⟩
   ·simp [e2]
   ·simp [e3]
   ·simp [m2]
   ·simp [m3]
   ·simp [e6]
   ·simpa using a6
   ·simp [e7]
   ·simpa using a7
   ·simp [e8]
   ·simp [ob]
   ·simp [e9]
   ·simp [pA]
   ·simp [ay]
   ·simp
  ·rw [if_neg c] at te;rw [addE_out c] at ih;have rP:=seenP_set q (prs out') c;have fL:prs (out'++[(q,path++[q],(i:Int))])=prs out'++[q]:=by simp [prs]
   rcases a6 with a6 | a6 <;> rcases a7 with a7 | a7
   all_goals
    simp [q1N,-V,-y3,-y0,J,e6,a6,e7,a7,e8,e9,pA,ay,tB,ga,g1,ob,q46,bq,q6i,q82,AV.flat,AV.scal,te,rP,hw,rf,ao,bo,q1,q2];refine ih fa _ ⟨⟨?_,?_,?_,?_,?_,.inr ?_,?_,.inr ?_,?_,?_⟩,?_,?_,?_,?_⟩
    ·simp [e2]
    ·simp [e3]
    ·simp [m2,q2Q]
    ·simp [m3,q2Q]
    ·simp [fL,prC]
    ·simp
    ·simp [befC]
    ·simp
    ·simp [e8]
    ·simp [fL]
    ·simp [e9]
    ·simp [pA]
    ·simp [ay]
    ·simp
 ·have ga:¬ (j:Int)<qs.length:=by omega
  rw [yD (by omega)] at e6 e7 ob;simp [q1N,-V,-y3,-y0,J,ay,tB,ga];refine hk _ _ ⟨rfl,⟨?_,?_,?_,?_,?_,?_,?_,?_,?_,?_⟩,?_⟩
  ·simp [e2]
  ·simp [e3]
  ·simp [m2]
  ·simp [m3]
  ·simp [e6]
  ·simpa using a6
  ·simp [e7]
  ·simpa using a7
  ·simp [e8]
  ·simp [ob]
  ·simp [e9]
theorem reached_ev {w r:Sch} {nx:Pr->List Pr} {rs:Pr->Int} (hF:SimF w r nx rs) {p:Pr} (hp:inP w.types.length r.types.length p):evA 81 [.agg (q3d w p.1),.agg (q3d r p.2)] (.tup [.sl false ((prs (bfsE nx p)).map prC),.sl false ((bfsE nx p).map befC)]):=by
 refine q00 (c:=q3n) rfl rfl ?_;have wb:∀ i,(bfs nx p i).length<=1024:=fun i=>by
  have h1:=bfs_len hp hF.rng i;have h2:w.types.length * r.types.length<=32 * 32:=Nat.mul_le_mul hF.wl hF.rl;omega
 simp [q3n,-V,-y3,-y0,J,q3d,q46,q76,q6i,q82,AV.flat,AV.scal,q55];refine q06 1024 (fun i s=>ReI w r p.1 p.2 (bfs nx p i) s/\(s.env 9).v=.int .i64 i/\i<=(bfs nx p i).length)
  (fun e s=>e=.exit 0/\ReI w r p.1 p.2 (bfsE nx p) s) (fun i hi s k h ih hk=>?_) _ _ ?_ (fun e s h=>?_)
 ·obtain ⟨hI,e9,zf⟩:=h;have iK:=hI;obtain ⟨e2,e3,m2,m3,e6,a6,e7,a7,e8,ob⟩:=hI;refine q02 ?_;simp only [q2Q] at m2 m3;have xr:=wb i;have rf:(prs (bfs nx p i)).length=(bfs nx p i).length:=by simp [prs]
  by_cases fa:i<(bfs nx p i).length
  ·have ga:(i:Int)<(bfs nx p i).length:=by omega
   obtain ⟨e0,md⟩:∃ e0,(bfs nx p i)[i]?=some e0:=⟨_,y5 fa⟩;have g1:((prs (bfs nx p i)).map prC)[i]?=some (prC e0.1):=by simp [prs,md]
   have jq:=q8k hp hF.rng i e0.1 (yX (yj md));have lw:=hF.suc e0.1 jq;have jB:=hF.len e0.1 jq;have hw:=q0s (i:=i);have za:bfs nx p (i + 1)=(nx e0.1).foldl (addE e0.2.1 i) (bfs nx p i):=by rw [bfs,md]
   have nn:=wb (i + 1);have lz:i + 1<=(bfs nx p (i + 1)).length:=by
    obtain ⟨t,ht⟩:=bfs_pre nx p i;rw [ht,yp];omega
   simp only [evA,schC,prC] at lw g1;generalize nx e0.1=qs at *
   simp [q3y,-V,-y3,-y0,J,e2,e3,e6,e9,m2,m3,rf,ga,g1,lw];refine reach_in w r p.1 p.2 e0.2.1 i (by omega) qs (by omega) qs.isEmpty (bfs nx p i) (by omega) _ ⟨?_,?_,?_,?_,?_,?_,?_,?_,?_,?_⟩ ?_ ?_ ?_ ?_ _ (fun s' h' iG=>?_)
   ·simp [e2]
   ·simp [e3]
   ·simp [m2,q2Q]
   ·simp [m3,q2Q]
   ·simp [e6]
   ·simpa using a6
   ·simp [e7]
   ·simpa using a7
   ·simp [e8]
   ·simp [ob]
   ·simp [e9]
   ·simp
   ·simp
   ·simp
   ·rw [<- za] at h';obtain ⟨e2,e3,m2,m3,e6,a6,e7,a7,e8,ob⟩:=h';simp [-V,-y3,-y0,J,iG,hw];refine ih (by omega) _ ⟨⟨?_,?_,?_,?_,?_,?_,?_,?_,?_,?_⟩,?_,lz⟩
    ·simp [e2]
    ·simp [e3]
    ·simp [m2]
    ·simp [m3]
    ·simp [e6]
    ·simpa using a6
    ·simp [e7]
    ·simpa using a7
    ·simp [e8]
    ·simp [ob]
    ·simp
  ·have ga:¬ (i:Int)<(bfs nx p i).length:=by omega
   rw [<- bfsE_of (nx:=nx) (p:=p) (i:=i) (by omega) hi] at iK;simp [q3y,-V,-y3,-y0,J,e6,e9,rf,ga];obtain ⟨e2,e3,m2,m3,e6,a6,e7,a7,e8,ob⟩:=iK;refine hk _ _ ⟨rfl,⟨?_,?_,?_,?_,?_,?_,?_,?_,?_,?_⟩⟩
   ·simp [e2]
   ·simp [e3]
   ·simp [m2]
   ·simp [m3]
   ·simp [e6]
   ·simpa using a6
   ·simp [e7]
   ·simpa using a7
   ·simp [e8]
   ·simp [ob]
 ·refine ⟨⟨?_,?_,?_,?_,?_,.inl ?_,?_,.inl ?_,?_,?_⟩,?_,?_⟩ <;> simp [q2Q,bfs,prs,prC,befC,qaQ]
 ·obtain ⟨rfl,hI⟩:=h;obtain ⟨e2,e3,m2,m3,e6,a6,e7,a7,e8,ob⟩:=hI;simp [-V,-y3,-y0,J,e6,e7]
structure RrI (w r:Sch) (out:List Pr) (s:MSt):Prop where
 e4:(s.env 4).v=.ptr 4 1 0
 e6:(s.env 6).v=.ptr 6 1 0
 m4:s.mem 4 1=some [⟨.sl w.nl (w.types.map typC),.no⟩]
 m6:s.mem 6 1=some [⟨.sl r.nl (r.types.map typC),.no⟩]
 e9:(s.env 9).v=.sl false (out.map prC)
 a9:(s.env 9).a=.ex\/(s.env 9).a=.own 55 63
theorem rreach_in {rv:RV} (w r:Sch) (i:Nat) (qs:List Pr) (hq:qs.length<=1000000) (qb:Bool) (out:List Pr) (ho:out.length<=1000000) (s:MSt) (h:RrI w r out s) (e10:(s.env 10).v=.int .i64 i) (e11:(s.env 11).v=.sl qb (qs.map prC)) (e12:(s.env 12).v=.int .i64 0) (k:Ex->MSt->Option RV)
  (hk:∀ s',RrI w r (qs.foldl addP out) s'->(s'.env 10).v=.int .i64 i->k (.exit 2) s'=some rv):evL allT q01 q2t s k=some rv:=by
 refine q06 qs.length (fun j s=>RrI w r ((qs.take j).foldl addP out) s/\(s.env 10).v=.int .i64 i/\(s.env 11).v=.sl qb (qs.map prC)/\(s.env 12).v=.int .i64 j)
  (fun e s=>e=.exit 2/\RrI w r (qs.foldl addP out) s/\(s.env 10).v=.int .i64 i) (fun j hj s k h ih hk=>?_) _ _ ⟨h,e10,e11,e12⟩ (fun e s h=>by obtain ⟨rfl,h1,h2⟩:=h; exact hk _ h1 h2)
 obtain ⟨⟨e4,e6,m4,m6,e9,a9⟩,e10,e11,e12⟩:=h;refine q02 ?_;by_cases fa:j<qs.length
 ·have ga:(j:Int)<qs.length:=by omega
  have g1:(qs.map prC)[j]?=some (prC qs[j]):=by simp [fa]
  have hw:=q0s (i:=j);have za:(qs.take (j + 1)).foldl addP out=addP ((qs.take j).foldl addP out) qs[j]:=by rw [<- yK fa,List.foldl_append]; rfl
  have ja:((qs.take j).foldl addP out).length<=out.length + j:=by
   have h1:=q8H (qs.take j) out;simp only [yC] at h1;omega
  rw [za] at ih;generalize (qs.take j).foldl addP out=out' at *
  generalize qs[j]=q at *
  have wd:=rin_ev out' (by omega) false q;have q1:=q6C out';have ao:q0G 16 (out'.length + 1)=true:=by rw [q0d]; omega
  simp only [evA,prC] at g1 wd;by_cases c:q∈out'
  ·rw [decide_eq_true c] at wd;rw [show addP out' q=out' from if_pos c] at ih;simp [q2t,-V,-y3,-y0,J,e9,e11,e12,ga,g1,wd,hw];refine ih fa _ ⟨⟨?_,?_,?_,?_,?_,?_⟩,?_,?_,?_⟩
   ·simp [e4]
   ·simp [e6]
   ·simp [m4]
   ·simp [m6]
   ·simp [e9]
   ·simpa using a9
   ·simp [e10]
   ·simp [e11]
   ·simp
  ·rw [decide_eq_false c] at wd;rw [show addP out' q=out'++[q] from if_neg c] at ih;rcases a9 with a9 | a9
   all_goals
    simp [q2t,-V,-y3,-y0,J,e9,a9,e11,e12,ga,g1,wd,hw,ao,q1];refine ih fa _ ⟨⟨?_,?_,?_,?_,?_,.inr ?_⟩,?_,?_,?_⟩
    ·simp [e4]
    ·simp [e6]
    ·simp [m4]
    ·simp [m6]
    ·simp [prC]
    ·simp
    ·simp [e10]
    ·simp [e11]
    ·simp
 ·have ga:¬ (j:Int)<qs.length:=by omega
  rw [yD (by omega)] at e9;simp [q2t,-V,-y3,-y0,J,e11,e12,ga];refine hk _ _ ⟨rfl,⟨?_,?_,?_,?_,?_,?_⟩,?_⟩
  ·simp [e4]
  ·simp [e6]
  ·simp [m4]
  ·simp [m6]
  ·simp [e9]
  ·simpa using a9
  ·simp [e10]
theorem rreached_ev {w r:Sch} {nx:Pr->List Pr} {rs:Pr->Int} (hF:SimF w r nx rs) {p:Pr} (hp:inP w.types.length r.types.length p):evA 85 [.agg (schC w),.int .i64 p.1,.agg (schC r),.int .i64 p.2] (.sl false ((prs (bfsE nx p)).map prC)):=by
 refine q00 (c:=q4L) rfl rfl ?_;have wb:∀ i,(bfs nx p i).length<=1024:=fun i=>by
  have h1:=bfs_len hp hF.rng i;have h2:w.types.length * r.types.length<=32 * 32:=Nat.mul_le_mul hF.wl hF.rl;omega
 simp [q4L,-V,-y3,-y0,J,schC];refine q06 1024 (fun i s=>RrI w r (prs (bfs nx p i)) s/\(s.env 10).v=.int .i64 i/\i<=(bfs nx p i).length)
  (fun e s=>e=.exit 0/\(s.env 9).v=.sl false ((prs (bfsE nx p)).map prC)) (fun i hi s k h ih hk=>?_) _ _ ?_ (fun e s h=>?_)
 ·obtain ⟨⟨e4,e6,m4,m6,e9,a9⟩,e10,zf⟩:=h;refine q02 ?_;have xr:=wb i;have rf:(prs (bfs nx p i)).length=(bfs nx p i).length:=by simp [prs]
  by_cases fa:i<(bfs nx p i).length
  ·have ga:(i:Int)<(bfs nx p i).length:=by omega
   obtain ⟨e0,md⟩:∃ e0,(bfs nx p i)[i]?=some e0:=⟨_,y5 fa⟩;have g1:((prs (bfs nx p i)).map prC)[i]?=some (prC e0.1):=by simp [prs,md]
   have jq:=q8k hp hF.rng i e0.1 (yX (yj md));have lw:=hF.rsuc e0.1 jq;have jB:=hF.len e0.1 jq;have hw:=q0s (i:=i);have za:prs (bfs nx p (i + 1))=(nx e0.1).foldl addP (prs (bfs nx p i)):=by rw [bfs,md]; exact q6w _ _ _ _
   have nn:=wb (i + 1);have lz:i + 1<=(bfs nx p (i + 1)).length:=by
    obtain ⟨t,ht⟩:=bfs_pre nx p i;rw [ht,yp];omega
   simp only [evA,schC,prC] at lw g1;generalize nx e0.1=qs at *
   simp [q4M,-V,-y3,-y0,J,e4,e6,e9,e10,m4,m6,rf,ga,g1,lw];refine rreach_in w r i qs (by omega) qs.isEmpty (prs (bfs nx p i)) (by omega) _ ⟨?_,?_,?_,?_,?_,?_⟩ ?_ ?_ ?_ _ (fun s' h' aG=>?_)
   ·simp [e4]
   ·simp [e6]
   ·simp [m4]
   ·simp [m6]
   ·simp [e9]
   ·simpa using a9
   ·simp [e10]
   ·simp
   ·simp
   ·rw [<- za] at h';obtain ⟨e4,e6,m4,m6,e9,a9⟩:=h';simp [-V,-y3,-y0,J,aG,hw];refine ih (by omega) _ ⟨⟨?_,?_,?_,?_,?_,?_⟩,?_,lz⟩
    ·simp [e4]
    ·simp [e6]
    ·simp [m4]
    ·simp [m6]
    ·simp [e9]
    ·simpa using a9
    ·simp
  ·have ga:¬ (i:Int)<(bfs nx p i).length:=by omega
   rw [<- bfsE_of (nx:=nx) (p:=p) (i:=i) (by omega) hi] at e9 ga rf;simp [q4M,-V,-y3,-y0,J,e9,e10,rf,ga];exact hk _ _ ⟨rfl,by simp [e9]⟩
 ·refine ⟨⟨?_,?_,?_,?_,?_,.inl ?_⟩,?_,?_⟩ <;> simp [bfs,prs,prC]
 ·obtain ⟨rfl,e9⟩:=h;simp [-V,-y3,-y0,J,e9]
def q8q (nx:Pr->List Pr) (rs:Pr->Int) (p:Pr):Bool:=(prs (bfsE nx p)).all fun q=>decide (rs q=0)
theorem fine_ev {w r:Sch} {nx:Pr->List Pr} {rs:Pr->Int} (hF:SimF w r nx rs) {p:Pr} (hp:inP w.types.length r.types.length p):evA 80 [.agg (schC w),.int .i64 p.1,.agg (schC r),.int .i64 p.2] (.bool (q8q nx rs p)):=by
 have eh:=rreached_ev hF hp;refine q00 (c:=q71) rfl rfl ?_;have ja:(prs (bfsE nx p)).length<=1024:=by
  have:=bfs_full hp hF.rng hF.wl hF.rl;simpa [prs] using this
 have jq:∀ q∈prs (bfsE nx p),inP w.types.length r.types.length q:=q8k hp hF.rng 1024;unfold q8q;generalize prs (bfsE nx p)=l at *
 simp only [evA,schC] at eh;simp [q71,-V,-y3,-y0,J,schC,eh];refine q06 l.length (fun i s=>(s.env 4).v=.ptr 4 1 0/\(s.env 6).v=.ptr 6 1 0/\s.mem 4 1=some [⟨.sl w.nl (w.types.map typC),.no⟩]/\s.mem 6 1=some [⟨.sl r.nl (r.types.map typC),.no⟩]/\(s.env 9).v=.sl false (l.map prC)/\(s.env 10).v=.int .i64 i/\(l.take i).all (fun q=>decide (rs q=0))=true)
  (fun e s=>(e=.exit 0/\l.all (fun q=>decide (rs q=0))=true)\/(e=.ret/\(s.env 8).v=.bool false/\l.all (fun q=>decide (rs q=0))=false)) (fun i hi s k h ih hk=>?_) _ _ ?_ (fun e s h=>?_)
 ·obtain ⟨e4,e6,m4,m6,e9,e10,be⟩:=h;refine q02 ?_;by_cases fa:i<l.length
  ·have ga:(i:Int)<l.length:=by omega
   have g1:(l.map prC)[i]?=some (prC l[i]):=by simp [fa]
   have hw:=q0s (i:=i);have ph:=q8i (fun q=>decide (rs q=0)) l fa;have tc:=all_no (fun q=>decide (rs q=0)) l fa;have jw:=hF.rrsn l[i] (jq _ (y6 fa));generalize l[i]=q at *
   simp only [evA,schC,prC] at jw g1;by_cases c:rs q=0
   ·rw [c] at jw;simp [q4N,-V,-y3,-y0,J,e4,e6,m4,m6,e9,e10,ga,g1,jw,hw];refine ih fa _ ⟨?_,?_,?_,?_,?_,?_,by rw [ph,be,decide_eq_true c]; rfl⟩ <;> simp [e4,e6,m4,m6,e9]
   ·simp [q4N,-V,-y3,-y0,J,e4,e6,m4,m6,e9,e10,ga,g1,jw,c,hw];exact hk _ _ (.inr ⟨rfl,by simp,tc (by simp [c])⟩)
  ·have ga:¬ (i:Int)<l.length:=by omega
   simp [q4N,-V,-y3,-y0,J,e9,e10,ga];rw [yD (by omega)] at be;exact hk _ _ (.inl ⟨rfl,be⟩)
 ·refine ⟨?_,?_,?_,?_,?_,?_,?_⟩ <;> simp
 ·rcases h with ⟨rfl,hf⟩ | ⟨rfl,e8,hf⟩
  ·simp [-V,-y3,-y0,J,hf]
  ·simp [-V,-y3,-y0,J,e8,hf]
def oneE (e:Int) (n:Nat) (i:Int):Int:=if e=0 then (if i<0\/(n:Int)<=i then 4 else 0) else e
def botE (e f:Int) (n m:Nat) (i k:Int):Int:=if oneE e n i=0 then oneE f m k else oneE e n i
def SndE (s:Sch) (e:Int):Prop:=evA 95 [.agg (schC s)] (.int .i64 e)/\evA 97 [.agg (schC s)] (.int .i64 e)
theorem sone_ev {s:Sch} {e:Int} (h:SndE s e) (i:Int):evA 128 [.agg (schC s),.int .i64 i] (.int .i64 (oneE e s.types.length i)):=by
 have h1:=h.1;refine q00 (c:=q1Y) rfl rfl ?_;simp only [evA,schC] at h1 ⊢;unfold oneE;by_cases h0:e=0
 case neg=>simp [q1Y,-V,-y3,-y0,J,h1,h0]
 subst h0;by_cases c1:i<0
 ·simp [q1Y,-V,-y3,-y0,J,h1,c1]
 ·by_cases c2:(s.types.length:Int)<=i
  ·simp [q1Y,-V,-y3,-y0,J,h1,c1,c2]
  ·simp [q1Y,-V,-y3,-y0,J,h1,c1,c2]
theorem rone_ev {s:Sch} {e:Int} (h:SndE s e) (i:Int):evA 101 [.agg (schC s),.int .i64 i] (.int .i64 (oneE e s.types.length i)):=by
 have h1:=h.2;refine q00 (c:=q4d) rfl rfl ?_;simp only [evA,schC] at h1 ⊢;unfold oneE;by_cases h0:e=0
 case neg=>simp [q4d,-V,-y3,-y0,J,h1,h0]
 subst h0;by_cases c1:i<0
 ·simp [q4d,-V,-y3,-y0,J,h1,c1]
 ·by_cases c2:(s.types.length:Int)<=i
  ·simp [q4d,-V,-y3,-y0,J,h1,c1,c2]
  ·simp [q4d,-V,-y3,-y0,J,h1,c1,c2]
theorem both_ev {w r:Sch} {e f:Int} (hw:SndE w e) (hr:SndE r f) (i k:Int):evA 76 [.agg (q3d w i),.agg (q3d r k)] (.int .i64 (botE e f w.types.length r.types.length i k)):=by
 have h1:=sone_ev hw i;have h2:=sone_ev hr k;refine q00 (c:=q3x) rfl rfl ?_;simp only [evA,schC] at h1 h2;unfold botE;by_cases c:oneE e w.types.length i=0
 ·rw [c] at h1;simp [q3x,-V,-y3,-y0,J,q3d,h1,h2,c]
 ·simp [q3x,-V,-y3,-y0,J,q3d,h1,h2,c]
theorem rerr_ev {w r:Sch} {e f:Int} (hw:SndE w e) (hr:SndE r f) (i k:Int):evA 43 [.agg (q3d w i),.agg (q3d r k)] (.int .i64 (botE e f w.types.length r.types.length i k)):=by
 have h1:=rone_ev hw i;have h2:=rone_ev hr k;refine q00 (c:=q4J) rfl rfl ?_;simp only [evA,schC] at h1 h2;unfold botE;by_cases c:oneE e w.types.length i=0
 ·rw [c] at h1;simp [q4J,-V,-y3,-y0,J,q3d,h1,h2,c]
 ·simp [q4J,-V,-y3,-y0,J,q3d,h1,h2,c]
theorem botE_in {e f:Int} {n m:Nat} {i k:Int} (h:botE e f n m i k=0):e=0/\f=0/\inP n m (i,k):=by
 unfold botE oneE at h;unfold inP;simp only;by_cases he:e=0
 ·by_cases hf:f=0
  ·subst he; subst hf;simp only [if_true] at h;by_cases c1:i<0\/(n:Int)<=i
   ·rw [if_pos c1] at h; simp at h
   ·by_cases c2:k<0\/(m:Int)<=k
    ·rw [if_neg c1,if_pos c2] at h; simp at h
    ·exact ⟨rfl,rfl,by omega⟩
  ·subst he;simp only [if_true,if_neg hf] at h;by_cases c1:i<0\/(n:Int)<=i
   ·rw [if_pos c1] at h; simp at h
   ·rw [if_neg c1] at h; simp at h; exact absurd h hf
 ·simp only [if_neg he] at h;exact absurd h he
theorem rcompat_ev {w r:Sch} {e f i k:Int} (hw:SndE w e) (hr:SndE r f) {nx:Pr->List Pr} {rs:Pr->Int} (hF:botE e f w.types.length r.types.length i k=0->SimF w r nx rs):evA 29 [.agg (q3d w i),.agg (q3d r k)] (.tup [.bool (decide (botE e f w.types.length r.types.length i k=0)&&q8q nx rs (i,k)),.int .i64 (botE e f w.types.length r.types.length i k)]):=by
 have h1:=rerr_ev hw hr i k;refine q00 (c:=q2s) rfl rfl ?_;simp only [evA,q3d] at h1;by_cases c:botE e f w.types.length r.types.length i k=0
 ·have h2:=fine_ev (hF c) (p:=(i,k)) (botE_in c).2.2;simp only [evA,schC] at h2;rw [c] at h1;simp [q2s,-V,-y3,-y0,J,q3d,h1,h2,c]
 ·simp [q2s,-V,-y3,-y0,J,q3d,h1,c]
theorem free_pr (l:List Pr):q2l (l.map prC)=true:=q6E prC l fun p=>by simp [prC,AV.free0]
theorem rev_ext {l cur:List Pr} {i:Nat} (hl:cur.length=l.length) (h:∀ x,x<l.length->cur[x]?=if x<i\/l.length - i<=x then l[l.length - 1 - x]? else l[x]?) (hi:l.length<=2 * i + 1) (jh:2 * i<=l.length):cur=l.reverse:=by
 refine List.ext_getElem? fun x=>?_
 by_cases hx:x<l.length
 ·rw [h x hx,List.getElem?_reverse hx];split
  ·rfl
  ·rename_i hc;have:x=l.length - 1 - x:=by omega
   rw [<- this]
 ·rw [yL (by omega),yL (by simp; omega)]
theorem reverse_ev {r:RV} (l:List Pr) (hl:l.length<=1000000) {t n c:Nat} {a:An} (s0:MSt) (hm:s0.mem t n=some (q0c (l.map prC))) (k:Slot->MSt->Option RV)
  (hk:∀ y s',s'.mem t n=some (q0c (l.reverse.map prC))->(∀ t' n',¬ (t'=t/\n'=n)->s'.mem t' n'=s0.mem t' n')->s'.gh=s0.gh->k y s'=some r) :
  evH allT q01 86 [⟨.ref t n 2 0 l.length c,a⟩] s0 k=some r:=by
 refine evH_intro q23 rfl rfl ?_;have wP:IntKind.i64.wrap ((l.length:Int) - 1)=(l.length:Int) - 1:=IntWalk.i64_in _ (by omega);simp [q23,-V,-y3,-y0,J,wP];refine q06 l.length (fun i s=>(s.env 0).v=.ref t n 2 0 l.length c/\(s.env 2).v=.int .i64 i/\(s.env 3).v=.int .i64 ((l.length:Int) - 1 - i)/\2 * i<=l.length/\(∀ t' n',¬ (t'=t/\n'=n)->s.mem t' n'=s0.mem t' n')/\s.gh=s0.gh/\∃ cur:List Pr,cur.length=l.length/\(∀ x,x<l.length->cur[x]?=if x<i\/l.length - i<=x then l[l.length - 1 - x]? else l[x]?)/\s.mem t n=some (q0c (cur.map prC)))
  (fun e s=>e=.exit 0/\(∀ t' n',¬ (t'=t/\n'=n)->s.mem t' n'=s0.mem t' n')/\s.gh=s0.gh/\s.mem t n=some (q0c (l.reverse.map prC))) (fun i hi s k h ih hk=>?_) _ _ ?_ (fun e s h=>?_)
 ·obtain ⟨e0,e2,e3,h2,su,hg,cur,jd,zE,hm⟩:=h;refine q02 ?_;obtain ⟨z,hz⟩:∃ z:Int,z=(l.length:Int) - 1 - i:=⟨_,rfl⟩;rw [<- hz] at e3;by_cases fa:(i:Int)<z
  ·have hj:z.toNat=l.length - 1 - i:=by omega
   have gc:0<=z:=by omega
   have jk:z.toNat<cur.length:=by omega
   have sJ:z<(l.length:Int):=by omega
   have zf:i<cur.length:=by omega
   have tJ:z.toNat<l.length:=by omega
   have fk:i<l.length:=by omega
   have xH:(i:Int)<(l.length:Int):=by omega
   obtain ⟨p,hp⟩:∃ p,cur[i]?=some p:=⟨_,y5 zf⟩;obtain ⟨q,hq⟩:∃ q,cur[z.toNat]?=some q:=⟨_,y5 jk⟩;have om:IntKind.i64.wrap (z - 1)=(l.length:Int) - 1 - ((i + 1:Nat):Int):=by rw [IntWalk.i64_in _ (by omega)]; omega
   have xh:=q0s (i:=i);have l1:q0Y true 2 (i * 2) (q0c (cur.map prC))=some ⟨.agg [.int .i64 p.1,.int .i64 p.2],.no⟩:=rowOf_load (q6C cur) (by rw [yc,hp]; rfl);have l2:q0Y true 2 (z.toNat * 2) (q0c (cur.map prC))=some ⟨.agg [.int .i64 q.1,.int .i64 q.2],.no⟩:=rowOf_load (q6C cur) (by rw [yc,hq]; rfl);have s1:q0f true 2 (i * 2) (q0c (cur.map prC)) (.agg [.int .i64 q.1,.int .i64 q.2]) .no=some (q0c ((cur.set i q).map prC)):=by
    rw [rowOf_store (q6C cur) (by simpa using zf) rfl,List.map_set]; rfl
   have s2:q0f true 2 (z.toNat * 2) (q0c ((cur.set i q).map prC)) (.agg [.int .i64 p.1,.int .i64 p.2]) .no=some (q0c (((cur.set i q).set z.toNat p).map prC)):=by
    rw [rowOf_store (q6C _) (by simpa using jk) rfl]; simp only [List.map_set]; rfl
   have je:∀ x,x<l.length->((cur.set i q).set z.toNat p)[x]?=if x<i + 1\/l.length - (i + 1)<=x then l[l.length - 1 - x]? else l[x]?:=fun x hx=>by
    rw [List.getElem?_set];by_cases c1:z.toNat=x
    ·rw [if_pos c1,if_pos (by simp; omega),if_pos (.inr (by omega)),<- hp,zE i (by omega),if_neg (by omega),show l.length - 1 - x=i from by omega]
    ·rw [if_neg c1,List.getElem?_set];by_cases c2:i=x
     ·rw [if_pos c2,if_pos zf,if_pos (.inl (by omega)),<- hq,zE _ (by omega),if_neg (by omega),show l.length - 1 - x=z.toNat from by omega]
     ·rw [if_neg c2,zE x hx];by_cases c3:x<i\/l.length - i<=x
      ·rw [if_pos c3,if_pos (by omega)]
      ·rw [if_neg c3,if_neg (by omega)]
   generalize q0c (cur.map prC)=R0 at *
   have cH:((cur.set i q).set z.toNat p).length=l.length:=by simp [jd]
   generalize q0c ((cur.set i q).map prC)=R1 at *
   generalize (cur.set i q).set z.toNat p=cur2 at *
   simp [q2j,-V,-y3,-y0,J,-q0Y,-q0f,q0K,q0S,q0o,q0p,e0,e2,e3,fa,gc,sJ,xH,tJ,fk,hm,l1,l2,s1,s2,om,xh];refine ih (by omega) _ ⟨?_,?_,?_,by omega,?_,?_,cur2,cH,je,?_⟩
   ·simp [e0]
   ·simp
   ·simp
   ·intro t' n' oa;simp [oa];exact su t' n' oa
   ·exact hg
   ·simp
  ·simp [q2j,-V,-y3,-y0,J,e2,e3,fa];refine hk _ _ ⟨rfl,su,hg,?_⟩;rw [<- rev_ext jd zE (by omega) h2];exact hm
 ·refine ⟨?_,?_,?_,by omega,fun _ _ _=>rfl,rfl,l,rfl,?_,hm⟩
  ·simp
  ·simp
  ·simp
  ·intro x hx;rw [if_neg (by omega)]
 ·obtain ⟨rfl,h1,h2,h3⟩:=h;simp [-V,-y3,-y0,J,finH,resS,packS];exact hk _ _ h3 h1 h2
def blm (nx:Pr->List Pr) (rs:Pr->Int) (p:Pr):Option Ent:=(bfsE nx p).find? fun e=>!decide (rs e.1=0)
def blmA (rs:Pr->Int):Option Ent->AV
 | some e=>.tup [.sl false (e.2.1.map prC),.int .i64 (rs e.1),.int .i64 0]
 | none=>.tup [.sl true [],.int .i64 0,.int .i64 15]
theorem find_at {α:Type} (p:α->Bool):∀ {l:List α} {i:Nat} {x:α},l[i]?=some x->p x=true->(l.take i).any p=false->l.find? p=some x
 | [],i,x,h,_,_=>by simp at h
 | a :: r,0,x,h,hp,_=>by
  simp at h;subst h;simp [List.find?,hp]
 | a :: r,i + 1,x,h,hp,hn=>by
  simp only [List.take_succ_cons,List.any_cons,Bool.or_eq_false_iff] at hn;rw [List.find?_cons,hn.1];exact find_at p (by simpa using h) hp hn.2
theorem find_no {α:Type} (p:α->Bool) {l:List α} (h:l.any p=false):l.find? p=none:=by
 rw [List.find?_eq_none];intro x hx hp;rw [List.any_eq_false] at h;exact h x hx hp
theorem way_len {nx:Pr->List Pr} {p:Pr} {E:List Ent} (hE:∀ k e,E[k]?=some e->EntOk nx p E k e):∀ k e,E[k]?=some e->e.2.1.length<=k + 1:=by
 intro k
 induction k using Nat.strongRecOn with
 | ind k ih =>
  intro e he;rcases (hE k e he).bef with ⟨_,rfl⟩ | ⟨j,h1,_,e',h3,h4,_⟩
  ·simp
  ·have:=ih j h1 e' h3;rw [h4];simp;omega
def pathA (P:List Pr) (x:Slot) (s:MSt):Prop:=(P=[]/\x.v=.sl true [])\/∃ N,P≠[]/\x.v=.ref 56 N 2 0 P.length P.length/\s.mem 56 N=some (q0c (P.map prC))
theorem walk_lp {rv:RV} {nx:Pr->List Pr} {p:Pr} (E:List Ent) (hE:∀ k e,E[k]?=some e->EntOk nx p E k e) (hl:E.length<=1024) {j0:Nat} {e0:Ent} (h0:E[j0]?=some e0) (xF:Int) (s:MSt)
  (h8:(s.env 8).v=.sl false ((prs E).map prC)) (h9:(s.env 9).v=.sl false (E.map befC)) (er:(s.env 10).v=.int .i64 j0) (wm:(s.env 12).v=.int .i64 xF) (wB:(s.env 13).v=.sl true []) (k:Ex->MSt->Option RV)
  (hk:∀ s',(s'.env 12).v=.int .i64 xF->pathA e0.2.1.reverse (s'.env 13) s'->k (.exit 2) s'=some rv):evL allT q01 q2f s k=some rv:=by
 have bx:j0<E.length:=(yb.1 h0).1;refine q06 (j0 + 1) (fun i s=>(s.env 8).v=.sl false ((prs E).map prC)/\(s.env 9).v=.sl false (E.map befC)/\(s.env 12).v=.int .i64 xF/\∃ (z:Int) (P:List Pr),(s.env 10).v=.int .i64 z/\P.length<=i/\pathA P (s.env 13) s/\((z=-1/\P=e0.2.1.reverse)\/∃ (j:Nat) (e:Ent),z=(j:Int)/\j + i<=j0/\E[j]?=some e/\P++e.2.1.reverse=e0.2.1.reverse))
  (fun e s=>e=.exit 2/\(s.env 12).v=.int .i64 xF/\pathA e0.2.1.reverse (s.env 13) s) (fun i hi s k h ih hk=>?_) _ _ ⟨h8,h9,wm,_,[],er,ym _,.inl ⟨rfl,wB⟩,.inr ⟨j0,e0,rfl,by omega,h0,rfl⟩⟩ (fun e s h=>by obtain ⟨rfl,h1,h2⟩:=h; exact hk _ h1 h2)
 obtain ⟨e8,e9,e12,z,P,e10,hPl,hP,hz⟩:=h;refine q02 ?_;rcases hz with ⟨rfl,rfl⟩ | ⟨j,e,rfl,fB,hj,hw⟩
 ·simp [q2f,-V,-y3,-y0,J,e10];refine hk _ _ ⟨rfl,by simp [e12],?_⟩;rcases hP with ⟨h1,h2⟩ | ⟨N,h1,h2,h3⟩
  ·exact .inl ⟨h1,by simp [h2]⟩
  ·exact .inr ⟨N,h1,by simp [h2],by simp [h3]⟩
 ·have ei:=(yb.1 hj).1;have g1:((prs E).map prC)[j]?=some [.int .i64 e.1.1,.int .i64 e.1.2]:=by simp [prs,hj,prC]
  have g2:(E.map befC)[j]?=some [.int .i64 e.2.2]:=by simp [hj,befC]
  have q:=q6C P;have qf:=free_pr P;have ba:q0G 16 (P.length + 1)=true:=by rw [q0d]; omega
  have eh:q2R (q0c (P.map prC)) 2 0 P.length=some (P.map prC):=by
   have:=q50 q qf;simpa using this
  have dj:(e.2.2=-1/\P++[e.1]=e0.2.1.reverse)\/∃ j' e',e.2.2=((j':Nat):Int)/\j' + (i + 1)<=j0/\E[j']?=some e'/\(P++[e.1])++e'.2.1.reverse=e0.2.1.reverse:=by
   rcases (hE j e hj).bef with ⟨_,rfl⟩ | ⟨j',h1,h2,e',h3,h4,_⟩
   ·exact .inl ⟨rfl,hw⟩
   ·refine .inr ⟨j',e',h2,by omega,h3,?_⟩;rw [h4,List.reverse_append] at hw;simpa using hw
  rcases hP with ⟨rfl,wB⟩ | ⟨N,oa,wB,hm⟩
  ·simp [q2f,-V,-y3,-y0,J,e8,e9,e10,wB,g1,g2,room1];refine ih (by omega) _ ⟨?_,?_,?_,e.2.2,[e.1],?_,?_,.inr ⟨s.next + 1,by simp,?_,?_⟩,dj⟩
   ·simp [e8]
   ·simp [e9]
   ·simp [e12]
   ·simp
   ·simp
   ·simp
   ·simp [q0c,prC]
  ·have ka:∀ b,q0c (P.map prC++[[AV.int .i64 e.1.1,AV.int .i64 e.1.2]])=q0c ((P++[e.1]).map prC)\/b:=fun b=>.inl (by simp [prC])
   generalize hR:q0c (P.map prC)=R0 at *
   simp [q2f,-V,-y3,-y0,J,e8,e9,e10,wB,g1,g2,ba,hm,eh,Cl.okMem];refine ih (by omega) _ ⟨?_,?_,?_,e.2.2,P++[e.1],?_,?_,.inr ⟨s.next + 1,by simp,?_,?_⟩,dj⟩
   ·simp [e8]
   ·simp [e9]
   ·simp [e12]
   ·simp
   ·simp; omega
   ·simp
   ·simp [prC]
theorem sblame_ev {w r:Sch} {e f i k:Int} (hw:SndE w e) (hr:SndE r f) {nx:Pr->List Pr} {rs:Pr->Int} (hF:botE e f w.types.length r.types.length i k=0->SimF w r nx rs):evA 32 [.agg (q3d w i),.agg (q3d r k)] (if botE e f w.types.length r.types.length i k=0 then blmA rs (blm nx rs (i,k)) else .tup [.sl true [],.int .i64 0,.int .i64 (botE e f w.types.length r.types.length i k)]):=by
 have h1:=both_ev hw hr i k;refine q00 (c:=q36) rfl rfl ?_;simp only [evA,q3d] at h1;by_cases c:botE e f w.types.length r.types.length i k=0
 case neg =>
  rw [if_neg c];simp [q36,-V,-y3,-y0,J,q3d,h1,c]
 rw [if_pos c];have hF:=hF c;obtain ⟨he,hf,hp⟩:=botE_in c;have h2:=reached_ev hF hp;have rC:=bfs_full hp hF.rng hF.wl hF.rl;have jq:∀ q∈prs (bfsE nx (i,k)),inP w.types.length r.types.length q:=q8k hp hF.rng 1024;have la:=bfs_ok nx (i,k) 1024;rw [c] at h1;unfold blm;change ∀ k_1 e,(bfsE nx (i,k))[k_1]?=some e->EntOk nx (i,k) (bfsE nx (i,k)) k_1 e at la;generalize bfsE nx (i,k)=E at *
 have rf:(prs E).length=E.length:=by simp [prs]
 simp only [evA,q3d] at h2;simp [q36,-V,-y3,-y0,J,q3d,h1,h2,rf];refine q06 E.length (fun j s=>(s.env 2).v=.ptr 2 1 0/\(s.env 3).v=.ptr 3 1 0/\s.mem 2 1=some (q2Q w i)/\s.mem 3 1=some (q2Q r k)/\(s.env 8).v=.sl false ((prs E).map prC)/\(s.env 9).v=.sl false (E.map befC)/\(s.env 26).v=.sl false ((prs E).map prC)/\(s.env 27).v=.int .i64 E.length/\(s.env 28).v=.int .i64 j/\(E.take j).any (fun e=>!decide (rs e.1=0))=false)
  (fun e s=>(e=.exit 0/\E.find? (fun e=>!decide (rs e.1=0))=none)\/(e=.ret/\∃ (e0:Ent) (N:Nat),E.find? (fun e=>!decide (rs e.1=0))=some e0/\(s.env 4).v=.ref 56 N 2 0 e0.2.1.reverse.length e0.2.1.reverse.length/\s.mem 56 N=some (q0c (e0.2.1.map prC))/\(s.env 5).v=.int .i64 (rs e0.1)/\(s.env 6).v=.int .i64 0)) (fun j hj s k' h ih hk=>?_) _ _ ?_ (fun e s h=>?_)
 ·obtain ⟨e2,e3,m2,m3,e8,e9,xw,zq,gr,be⟩:=h;refine q02 ?_;simp only [q2Q] at m2 m3;by_cases fa:j<E.length
  ·have ga:(j:Int)<E.length:=by omega
   obtain ⟨e0,md⟩:∃ e0,E[j]?=some e0:=⟨_,y5 fa⟩;have g1:((prs E).map prC)[j]?=some [.int .i64 e0.1.1,.int .i64 e0.1.2]:=by simp [prs,md,prC]
   have jw:=hF.rsn e0.1 (jq _ (yX (yj md)));have sx:=q0s (i:=j);simp only [evA,schC] at jw;by_cases c0:rs e0.1=0
   ·rw [c0] at jw;simp [q2Z,-V,-y3,-y0,J,e2,e3,m2,m3,xw,zq,gr,ga,g1,jw,sx];refine ih fa _ ⟨?_,?_,?_,?_,?_,?_,?_,?_,?_,?_⟩
    ·simp [e2]
    ·simp [e3]
    ·simp [m2,q2Q]
    ·simp [m3,q2Q]
    ·simp [e8]
    ·simp [e9]
    ·simp [xw]
    ·simp [zq]
    ·simp
    ·rw [any_take' _ E fa,be];obtain ⟨_,hh⟩:=yb.1 md;rw [hh];simp [c0]
   ·have jO:=find_at (fun e:Ent=>!decide (rs e.1=0)) md (by simp [c0]) be;simp [q2Z,-V,-y3,-y0,J,e2,e3,m2,m3,e8,xw,zq,gr,ga,g1,jw,c0,sx];refine walk_lp E la rC md (rs e0.1) _ ?_ ?_ ?_ ?_ ?_ _ (fun s' f12 f13=>?_)
    ·simp [e8]
    ·simp [e9]
    ·simp
    ·simp
    ·simp
    ·have oa:e0.2.1.reverse≠[]:=by
      rcases (la j e0 md).bef with ⟨_,rfl⟩ | ⟨_,_,_,e',_,h4,_⟩
      ·simp
      ·rw [h4]; simp
     rcases f13 with ⟨h,_⟩ | ⟨N,_,f13,fm⟩
     ·exact absurd h oa
     have pg:e0.2.1.reverse.length<=1000000:=by
      have:=way_len la j e0 md;simp;omega
     simp [-V,-y3,-y0,J,f13];have xK:e0.2.1.length=e0.2.1.reverse.length:=by simp
     rw [xK];refine reverse_ev e0.2.1.reverse pg _ ?_ _ (fun y s2 nh _ pK=>?_)
     ·simp [fm]
     ·have iM:(s2.gh 12).v=.int .i64 (rs e0.1):=by rw [pK]; simp [f12]
      have jM:(s2.gh 13).v=.ref 56 N 2 0 e0.2.1.reverse.length e0.2.1.reverse.length:=by rw [pK]; simp [f13]
      rw [List.reverse_reverse] at nh;simp [-V,-y3,-y0,J,iM,jM];refine hk _ _ (.inr ⟨rfl,e0,N,jO,?_,?_,?_,?_⟩)
      ·simp
      ·simp [nh]
      ·simp
      ·simp
  ·have ga:¬ (j:Int)<E.length:=by omega
   simp [q2Z,-V,-y3,-y0,J,zq,gr,ga];rw [yD (by omega)] at be;exact hk _ _ (.inl ⟨rfl,find_no _ be⟩)
 ·refine ⟨?_,?_,?_,?_,?_,?_,?_,?_,?_,?_⟩ <;> simp [q2Q]
 ·rcases h with ⟨rfl,hn⟩ | ⟨rfl,e0,N,hs,e4,hm,e5,e6⟩
  ·rw [hn];simp [-V,-y3,-y0,J,blmA]
  ·have eh:q2R (q0c (e0.2.1.map prC)) 2 0 e0.2.1.length=some (e0.2.1.map prC):=by
    have:=q50 (q6C e0.2.1) (free_pr e0.2.1);simpa using this
   simp at e4;rw [hs];simp [-V,-y3,-y0,J,blmA,e4,e5,e6,hm,eh]

theorem blm_fine (nx:Pr->List Pr) (rs:Pr->Int) (p:Pr):(blm nx rs p=none ↔ q8q nx rs p=true):=by
 unfold blm q8q prs;rw [List.find?_eq_none,List.all_map,y4];constructor
 ·intro h x hx;have:=h x hx;simpa using this
 ·intro h x hx;have:=h x hx;simpa using this
theorem scompat_ev {w r:Sch} {e f i k:Int} (hw:SndE w e) (hr:SndE r f) {nx:Pr->List Pr} {rs:Pr->Int} (hF:botE e f w.types.length r.types.length i k=0->SimF w r nx rs) (zh:botE e f w.types.length r.types.length i k≠15):evA 21 [.agg (q3d w i),.agg (q3d r k)] (.tup [.bool (decide (botE e f w.types.length r.types.length i k=0)&&q8q nx rs (i,k)),.int .i64 (botE e f w.types.length r.types.length i k)]):=by
 have h1:=sblame_ev hw hr hF;refine q00 (c:=q1o) rfl rfl ?_;simp only [evA,q3d] at h1;by_cases c:botE e f w.types.length r.types.length i k=0
 ·rw [if_pos c] at h1;cases hb:blm nx rs (i,k) with
  | none =>
   have hf:=(blm_fine nx rs (i,k)).1 hb;rw [hb] at h1;simp only [blmA] at h1;simp [q1o,-V,-y3,-y0,J,q3d,h1,c,hf]
  | some e0 =>
   have hf:q8q nx rs (i,k)=false:=by
    cases hq:q8q nx rs (i,k) with
    | false=>rfl
    | true=>rw [(blm_fine nx rs (i,k)).2 hq] at hb; cases hb
   rw [hb] at h1;simp only [blmA] at h1;simp [q1o,-V,-y3,-y0,J,q3d,h1,c,hf]
 ·rw [if_neg c] at h1;simp [q1o,-V,-y3,-y0,J,q3d,h1,c,zh]
theorem pairs_same (l:List Pr) (hl:l.length<=1000000) (b c:Bool):evA 28 [.sl b (l.map prC),.sl c (l.map prC)] (.bool true):=by
 refine q00 (c:=q6d) rfl rfl ?_;simp [q6d,-V,-y3,-y0,J];refine q06 l.length (fun i s=>(s.env 0).v=.sl b (l.map prC)/\(s.env 1).v=.sl c (l.map prC)/\(s.env 5).v=.int .i64 i)
  (fun e s=>e=.exit 0) (fun i hi s k h ih hk=>?_) _ _ ?_ (fun e s h=>?_)
 ·obtain ⟨e0,e1,e5⟩:=h;refine q02 ?_;by_cases fa:i<l.length
  ·have ga:(i:Int)<l.length:=by omega
   have g1:(l.map prC)[i]?=some (prC l[i]):=by simp [fa]
   have hw:=q0s (i:=i);generalize l[i]=q at *
   simp only [prC] at g1;simp [q5P,-V,-y3,-y0,J,e0,e1,e5,ga,g1,hw];refine ih fa _ ⟨?_,?_,?_⟩ <;> simp [e0,e1]
  ·have ga:¬ (i:Int)<l.length:=by omega
   simp [q5P,-V,-y3,-y0,J,e0,e5,ga];exact hk _ _ rfl
 ·refine ⟨?_,?_,?_⟩ <;> simp
 ·subst h;simp [-V,-y3,-y0,J]
theorem qam {P:Pr->Prop} {nx:Pr->List Pr} {p:Pr} (hp:P p) (hr:∀ p,P p->∀ q∈nx p,P q):∀ i,∀ x∈prs (bfs nx p i),P x
 | 0=>by simp [bfs,prs]; exact hp
 | i + 1=>fun x hx=>by
  rw [bfs] at hx;split at hx
  ·rename_i e he;rw [q6w,q7p] at hx;have hi:e.1∈prs (bfs nx p i):=yX (yj he);rcases hx with hx | hx
   ·exact qam hp hr i x hx
   ·exact hr _ (qam hp hr i _ hi) x hx
  ·exact qam hp hr i x hx
theorem fine_suc {n m:Nat} {nx:Pr->List Pr} {rs:Pr->Int} {p:Pr} (hp:inP n m p) (hr:∀ p,inP n m p->∀ q∈nx p,inP n m q) (hn:n<=32) (hm:m<=32) (h:q8q nx rs p=true) {q:Pr} (hq:q∈nx p):q8q nx rs q=true:=by
 unfold q8q at h ⊢;rw [y4] at h ⊢;have tD:p∈prs (bfsE nx p):=yX (yj (bfsE_root nx p));have ta:=qam (P:=fun x=>x∈prs (bfsE nx p)) (p:=q) (bfsE_closed hp hr hn hm tD q hq) (fun x hx y hy=>bfsE_closed hp hr hn hm hx y hy) 1024;exact fun x hx=>h x (ta x hx)
def setT (g:Nat->Nat->Bool) (i k:Nat):Nat->Nat->Bool:=fun a b=>if a=i/\b=k then false else g a b
structure TabG (nx:Pr->List Pr) (rs:Pr->Int) (N M:Nat) (g:Nat->Nat->Bool):Prop where
 sub:∀ i k,i<N->k<M->g i k=true->rs ((i:Int),(k:Int))=0
 sup:∀ i k,i<N->k<M->q8q nx rs ((i:Int),(k:Int))=true->g i k=true
def outOf (g:Nat->Nat->Bool) (q:Pr):Bool:=!g q.1.toNat q.2.toNat
theorem inP_nat {N M i k:Nat} (hi:i<N) (hk:k<M):inP N M ((i:Int),(k:Int)):=⟨by simp,by simp; omega,by simp,by simp; omega⟩
section
variable {nx:Pr->List Pr} {rs:Pr->Int} {N M:Nat} {g:Nat->Nat->Bool} (h:TabG nx rs N M g) (hr:∀ p,inP N M p->∀ q∈nx p,inP N M q)
include nx rs N M g h hr
theorem TabG.set (hn:N<=32) (hm:M<=32) {i k:Nat} (hi:i<N) (hk:k<M) (hq:(nx ((i:Int),(k:Int))).any (outOf g)=true):TabG nx rs N M (setT g i k):=by
 refine ⟨fun a b ha hb hg=>?_,fun a b ha hb hf=>?_⟩
 ·unfold setT at hg;split at hg
  ·cases hg
  ·exact h.sub a b ha hb hg
 ·unfold setT;split
  ·rename_i e;obtain ⟨rfl,rfl⟩:=e;obtain ⟨q,hq,ho⟩:=List.any_eq_true.1 hq;have hp:=inP_nat ha hb;have wd:=hr _ hp q hq;obtain ⟨h1,h2,h3,h4⟩:=wd;have:=h.sup q.1.toNat q.2.toNat (by omega) (by omega) (by
    rw [Int.toNat_of_nonneg h1,Int.toNat_of_nonneg h3];exact fine_suc hp hr hn hm hf hq)
   simp [outOf,this] at ho
  ·exact h.sup a b ha hb hf
theorem TabG.eq (hc:∀ i k,i<N->k<M->g i k=true->(nx ((i:Int),(k:Int))).any (outOf g)=false) {i k:Nat} (hi:i<N) (hk:k<M):g i k=q8q nx rs ((i:Int),(k:Int)):=by
 cases hg:g i k with
 | false =>
  cases hf:q8q nx rs ((i:Int),(k:Int)) with
  | false=>rfl
  | true=>rw [h.sup i k hi hk hf] at hg; cases hg
 | true =>
  symm
  unfold q8q;rw [y4];have ta:=qam (P:=fun x=>inP N M x/\g x.1.toNat x.2.toNat=true) (nx:=nx) (p:=((i:Int),(k:Int))) ⟨inP_nat hi hk,by simpa using hg⟩ (fun x hx y hy=>by
   obtain ⟨h0,h1⟩:=hx;have lu:=hr x h0 y hy;refine ⟨lu,?_⟩;obtain ⟨a1,a2,a3,a4⟩:=h0;have:=hc x.1.toNat x.2.toNat (by omega) (by omega) h1;rw [Int.toNat_of_nonneg a1,Int.toNat_of_nonneg a3,List.any_eq_false] at this;simpa [outOf] using this y hy) 1024
  intro x hx;obtain ⟨⟨a1,a2,a3,a4⟩,h1⟩:=ta x hx;have:=h.sub x.1.toNat x.2.toNat (by omega) (by omega) h1;rw [Int.toNat_of_nonneg a1,Int.toNat_of_nonneg a3] at this;exact decide_eq_true this
end
theorem botE_zero {n m:Nat} {i k:Int} (hi:0<=i/\i<n) (hk:0<=k/\k<m):botE 0 0 n m i k=0:=by
 have h1:oneE 0 n i=0:=by unfold oneE; simp; omega
 have h2:oneE 0 m k=0:=by unfold oneE; simp; omega
 unfold botE;rw [if_pos h1,h2]
theorem bools_same (l:List Bool) (hl:l.length<=1000) (b c:Bool):evA 98 [.sl b (l.map fun x=>[.bool x]),.sl c (l.map fun x=>[.bool x])] (.bool true):=by
 refine q00 (c:=q6a) rfl rfl ?_;simp [q6a,-V,-y3,-y0,J];refine q06 l.length (fun i s=>(s.env 0).v=.sl b (l.map fun x=>[.bool x])/\(s.env 1).v=.sl c (l.map fun x=>[.bool x])/\(s.env 5).v=.int .i64 i) (fun e s=>e=.exit 0) (fun i hi s k h ih hk=>?_) _ _ ?_ (fun e s h=>?_)
 ·obtain ⟨e0,e1,e5⟩:=h;refine q02 ?_;by_cases fa:i<l.length
  ·have ga:(i:Int)<l.length:=by omega
   have g1:(l.map fun x=>[AV.bool x])[i]?=some [.bool l[i]]:=by simp [fa]
   have uc:=q0s (i:=i);generalize l[i]=x at *
   simp [q5L,-V,-y3,-y0,J,e0,e1,e5,ga,g1,uc];refine ih fa _ ⟨?_,?_,?_⟩ <;> simp [e0,e1]
  ·have ga:¬ (i:Int)<l.length:=by omega
   simp [q5L,-V,-y3,-y0,J,e0,e5,ga];exact hk _ _ rfl
 ·exact ⟨by simp,by simp,by simp⟩
 ·subst h;simp [-V,-y3,-y0,J]
end Go.Proofs.YtbnlmgncbgaepaaGreat
