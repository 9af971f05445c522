/- A part of the proof. -/
import Derived.Test.YtbnlmgncbgaepaaGreatXg
set_option linter.all false
set_option maxRecDepth 100000
set_option maxHeartbeats 8000000
open Option renaming bind_some → V
open List renaming range_succ → J, map_map → y0, getElem?_eq_getElem → y4, all_eq_true → y5, getElem_mem → y6, getElem?_eq_some_iff → y9, drop_eq_getElem_cons → yb, getElem?_map → yc, drop_eq_nil_of_le → ye, map_cons → yg, mem_of_getElem? → yj, length_append → yl, map_nil → yn, length_map → yo, map_congr_left → yq, take_of_length_le → yx, mem_map → yy, getElem_of_mem → yB, length_take → yC, length_cons → yE, getElem?_append_left → yF, take_append_getElem → yH, mem_map_of_mem → yN, nil_append → yP, map_append → yS, append_assoc → yU, getElem?_eq_none → yW
open Int renaming toNat_lt → y3
open Nat renaming le_refl → ym, succ_mul → yw
namespace Go.Proofs.YtbnlmgncbgaepaaGreat
open Go
def fA.sm (t:fA):Prop:=t.kind=2->-100<=t.low/\t.low<=t.high/\t.high<=100
def eW (x:fA):Int:=if x.kind=1 then 2 else if x.kind=2 then x.high - x.low + 1 else if x.kind=4 then x.syms.length else if x.kind=3/\x.max=0 then 1 else 2147483647
def SR (x:fA):Int:=if x.kind=1 then 2 else if x.kind=2 then min 100 (x.high - x.low + 1) else if x.kind=4 then x.syms.length else if x.max=0 then 1 else 100
theorem keys_ev (x:fA) (hx:x.sm):gA 129 [.agg (eA x)] (.int .i64 (eW x)):=by
 refine wA (c:=sD) rfl rfl ?_;unfold eW;by_cases k1:x.kind=1
 ·simp [sD,-V,-y3,-y0,J,eA,k1]
 by_cases k2:x.kind=2
 ·obtain ⟨h1,h2,h3⟩:=hx k2;have w1:IntKind.u64.wrap (IntKind.u64.wrap x.high - IntKind.u64.wrap x.low)=x.high - x.low:=by
   simp only [IntKind.wrap,IntKind.bits,IntKind.signed];simp;omega
  have c:x.high - x.low<2147483647:=by omega
  have w2:IntKind.i64.wrap (x.high - x.low)=x.high - x.low:=IntWalk.i64_in _ (by omega);have w3:IntKind.i64.wrap (x.high - x.low + 1)=x.high - x.low + 1:=IntWalk.i64_in _ (by omega);simp [sD,-V,-y3,-y0,J,eA,k1,k2,w1,c,w2,w3]
 by_cases k4:x.kind=4
 ·simp [sD,-V,-y3,-y0,J,eA,k1,k2,k4]
 by_cases k3:x.kind=3
 ·by_cases hm:x.max=0
  ·simp [sD,-V,-y3,-y0,J,eA,k1,k2,k3,k4,hm]
  ·simp [sD,-V,-y3,-y0,J,eA,k1,k2,k3,k4,hm]
 ·simp [sD,-V,-y3,-y0,J,eA,k1,k2,k3,k4]
theorem rkeys_ev (x:fA) (hx:x.sm):gA 132 [.agg (eA x)] (.int .i64 (SR x)):=by
 refine wA (c:=gF) rfl rfl ?_;unfold SR;by_cases k1:x.kind=1
 ·simp [gF,-V,-y3,-y0,J,eA,k1]
 by_cases k2:x.kind=2
 ·obtain ⟨h1,h2,h3⟩:=hx k2;simp [gF,-V,-y3,-y0,J,eA,k1,k2];refine xA 100 (fun i s=>(s.env 1).v=.ptr 1 1 0/\s.mem 1 1=some (kA x)/\(s.env 3).v=.int .i64 ((i:Int) + 1)/\(s.env 4).v=.int .i64 (x.low + i)/\x.low + i<=x.high/\i + 1<=100)
   (fun e s=>e=.exit 1/\(s.env 3).v=.int .i64 (min 100 (x.high - x.low + 1))) (fun i hi s k h ih hk=>?_) _ _ ?_ (fun e s h=>?_)
  ·obtain ⟨e1,m1,e3,e4,ab,h100⟩:=h;simp only [kA] at m1;refine tA ?_;by_cases c1:(i:Int) + 1<100
   ·by_cases c2:x.low + i<x.high
    ·have w1:IntKind.i64.wrap ((i:Int) + 1 + 1)=(i:Int) + 1 + 1:=IntWalk.i64_in _ (by omega);have w2:IntKind.i64.wrap (x.low + i + 1)=x.low + i + 1:=IntWalk.i64_in _ (by omega);simp [xI,-V,-y3,-y0,J,e1,m1,e3,e4,c1,c2,w1,w2];refine ih (by omega) _ ⟨?_,?_,?_,?_,by omega,by omega⟩
     ·simp [e1]
     ·simp [m1]
     ·simp
     ·simp; omega
    ·simp [xI,-V,-y3,-y0,J,e1,m1,e3,e4,c1,c2];refine hk _ _ ⟨rfl,?_⟩;simp [e3];omega
   ·simp [xI,-V,-y3,-y0,J,e1,m1,e3,e4,c1];refine hk _ _ ⟨rfl,?_⟩;simp [e3];omega
  ·exact ⟨by simp,by simp [k2],by simp,by simp,by omega,by omega⟩
  ·obtain ⟨rfl,e3⟩:=h;simp [-V,-y3,-y0,J,e3]
 by_cases k4:x.kind=4
 ·simp [gF,-V,-y3,-y0,J,eA,k1,k2,k4]
 by_cases hm:x.max=0
 ·simp [gF,-V,-y3,-y0,J,eA,k1,k2,k4,hm]
 ·simp [gF,-V,-y3,-y0,J,eA,k1,k2,k4,hm]
theorem keys_min (x:fA) (hk:1<=x.kind/\x.kind<=4) (hx:x.sm) {m n:Int} (hm:m<=50):(n<min m (eW x) ↔ n<min m (SR x)):=by
 unfold eW SR;by_cases k1:x.kind=1
 ·rw [if_pos k1,if_pos k1]
 rw [if_neg k1,if_neg k1];by_cases k2:x.kind=2
 ·rw [if_pos k2,if_pos k2];omega
 rw [if_neg k2,if_neg k2];by_cases k4:x.kind=4
 ·rw [if_pos k4,if_pos k4]
 rw [if_neg k4,if_neg k4];by_cases h0:x.max=0
 ·rw [if_pos ⟨by omega,h0⟩,if_pos h0]
 ·rw [if_neg (fun h=>h0 h.2),if_neg h0];omega
def QL (x y:fA):Bool:=x.syms.all (fun s=>decide (0<=wG y.syms s.id))&&x.mems.all (fun m=>decide (0<=xB y.mems m.id))
theorem jN {α:Type} (p:α->Bool) (l:List α) {i:Nat} (h:i<l.length):(l.take (i + 1)).all p=((l.take i).all p&&p l[i]):=by
 rw [<- yH h,List.all_append];simp
theorem kV {α:Type} (p:α->Bool) (l:List α) {i:Nat} (h:i<l.length) (hp:p l[i]=false):l.all p=false:=by
 rw [List.all_eq_false];exact ⟨_,y6 h,by simp [hp]⟩
section
variable (x y:fA) (be:x.syms.length<=8796093022206) (ew:x.mems.length<=8796093022206) (gl:y.syms.length<=8796093022206) (hym:y.mems.length<=8796093022206)
include x y be ew gl hym
theorem G6:gA 130 [.agg (eA x),.agg (eA y)] (.bool (y.opn||QL x y)):=by
 refine wA (c:=LE) rfl rfl ?_;cases ho:y.opn with
 | true=>simp [LE,-V,-y3,-y0,J,eA,ho]
 | false =>
 have jx:∀ l:List IS,l.all (fun s=>decide (0<=wG y.syms s.id))=false->QL x y=false\/l≠x.syms:=fun l h=>by
  by_cases e:l=x.syms
  ·left; unfold QL; rw [<- e,h]; rfl
  ·exact .inr e
 simp [LE,-V,-y3,-y0,J,eA,ho];refine xA x.syms.length (fun i s=>(s.env 2).v=.ptr 2 1 0/\(s.env 3).v=.ptr 3 1 0/\s.mem 2 1=some (kA x)/\s.mem 3 1=some (kA y)/\(s.env 16).v=.sl x.sn (x.syms.map RD)/\(s.env 17).v=.int .i64 x.syms.length/\(s.env 18).v=.int .i64 i/\(x.syms.take i).all (fun s=>decide (0<=wG y.syms s.id))=true)
  (fun e s=>(e=.exit 0/\(s.env 2).v=.ptr 2 1 0/\(s.env 3).v=.ptr 3 1 0/\s.mem 2 1=some (kA x)/\s.mem 3 1=some (kA y)/\x.syms.all (fun s=>decide (0<=wG y.syms s.id))=true)\/(e=.ret/\(s.env 4).v=.bool false/\QL x y=false)) (fun i hi s k h ih hk=>?_) _ _ ?_ (fun e s h=>?_)
 ·obtain ⟨e2,e3,m2,m3,wd,mh,ao,zd⟩:=h;refine tA ?_;by_cases da:i<x.syms.length
  ·have fa:(i:Int)<x.syms.length:=by omega
   have g1:(x.syms.map RD)[i]?=some (RD x.syms[i]):=by simp [da]
   have oc:=ZA (i:=i);have eb:=Z7 y x.syms[i].id (by omega);have th:=jN (fun s=>decide (0<=wG y.syms s.id)) x.syms da;have ad:=kV (fun s=>decide (0<=wG y.syms s.id)) x.syms da;generalize x.syms[i]=q at *
   simp only [RD] at g1;simp only [kA] at m2 m3;simp only [gA,eA,ZU,ho] at eb;by_cases c:0<=wG y.syms q.id
   ·simp only [c,decide_true] at eb th;simp [eF,-V,-y3,-y0,J,e2,e3,m3,wd,mh,ao,fa,g1,eb,oc,ho];refine ih da _ ⟨?_,?_,?_,?_,?_,?_,?_,by rw [th,zd]; rfl⟩ <;> simp [e2,e3,m2,m3,wd,mh,kA,ho]
   ·simp only [c,decide_false] at eb ad;simp [eF,-V,-y3,-y0,J,e2,e3,m3,wd,mh,ao,fa,g1,eb,oc,ho];refine hk _ _ (.inr ⟨rfl,by simp,?_⟩);unfold QL;rw [ad trivial];rfl
  ·have fa:¬ (i:Int)<x.syms.length:=by omega
   simp [eF,-V,-y3,-y0,J,mh,ao,fa];refine hk _ _ (.inl ⟨rfl,by simp [e2],by simp [e3],by simp [m2],by simp [m3],?_⟩);rw [yx (by omega)] at zd;exact zd
 ·refine ⟨?_,?_,?_,?_,?_,?_,?_,?_⟩ <;> simp [kA,ho]
 rcases h with ⟨rfl,e2,e3,m2,m3,zd⟩ | ⟨rfl,e4,hf⟩
 case inr=>simp [-V,-y3,-y0,J,e4,hf]
 simp only [kA] at m2;simp [-V,-y3,-y0,J,e2,m2];refine xA x.mems.length (fun i s=>(s.env 3).v=.ptr 3 1 0/\s.mem 3 1=some (kA y)/\(s.env 33).v=.sl x.mn (x.mems.map nA)/\(s.env 34).v=.int .i64 x.mems.length/\(s.env 35).v=.int .i64 i/\(x.mems.take i).all (fun s=>decide (0<=xB y.mems s.id))=true)
  (fun e s=>(e=.exit 2/\QL x y=true)\/(e=.ret/\(s.env 4).v=.bool false/\QL x y=false)) (fun i hi s k h ih hk=>?_) _ _ ?_ (fun e s h=>?_)
 ·obtain ⟨e3,m3,e33,e34,ay,mo⟩:=h;refine tA ?_;by_cases da:i<x.mems.length
  ·have fa:(i:Int)<x.mems.length:=by omega
   have g1:(x.mems.map nA)[i]?=some (nA x.mems[i]):=by simp [da]
   have oc:=ZA (i:=i);have eb:=sW y x.mems[i].id (by omega);have th:=jN (fun s=>decide (0<=xB y.mems s.id)) x.mems da;have ad:=kV (fun s=>decide (0<=xB y.mems s.id)) x.mems da;generalize x.mems[i]=q at *
   simp only [nA] at g1;simp only [kA] at m3;simp only [gA,eA,wQ,ho] at eb;by_cases c:0<=xB y.mems q.id
   ·simp only [c,decide_true] at eb th;simp [wF,-V,-y3,-y0,J,e3,m3,e33,e34,ay,fa,g1,eb,oc,ho];refine ih da _ ⟨?_,?_,?_,?_,?_,by rw [th,mo]; rfl⟩ <;> simp [e3,m3,e33,e34,kA,ho]
   ·simp only [c,decide_false] at eb ad;simp [wF,-V,-y3,-y0,J,e3,m3,e33,e34,ay,fa,g1,eb,oc,ho];refine hk _ _ (.inr ⟨rfl,by simp,?_⟩);unfold QL;rw [ad trivial,Bool.and_false]
  ·have fa:¬ (i:Int)<x.mems.length:=by omega
   simp [wF,-V,-y3,-y0,J,e34,ay,fa];refine hk _ _ (.inl ⟨rfl,?_⟩);rw [yx (by omega)] at mo;unfold QL;rw [zd,mo];rfl
 ·refine ⟨?_,?_,?_,?_,?_,?_⟩ <;> simp [e3,m3,kA,ho]
 ·rcases h with ⟨rfl,hf⟩ | ⟨rfl,e4,hf⟩
  ·simp [-V,-y3,-y0,J,hf]
  ·simp [-V,-y3,-y0,J,e4,hf]
theorem rall_ev:gA 133 [.agg (eA x),.agg (eA y)] (.bool (QL x y)):=by
 refine wA (c:=LM) rfl rfl ?_;simp [LM,-V,-y3,-y0,J,eA];refine xA x.syms.length (fun i s=>(s.env 2).v=.ptr 2 1 0/\(s.env 3).v=.ptr 3 1 0/\s.mem 2 1=some (kA x)/\s.mem 3 1=some (kA y)/\(s.env 5).v=.int .i64 i/\(x.syms.take i).all (fun s=>decide (0<=wG y.syms s.id))=true)
  (fun e s=>(e=.exit 0/\(s.env 2).v=.ptr 2 1 0/\(s.env 3).v=.ptr 3 1 0/\s.mem 2 1=some (kA x)/\s.mem 3 1=some (kA y)/\x.syms.all (fun s=>decide (0<=wG y.syms s.id))=true)\/(e=.ret/\(s.env 4).v=.bool false/\QL x y=false)) (fun i hi s k h ih hk=>?_) _ _ ?_ (fun e s h=>?_)
 ·obtain ⟨e2,e3,m2,m3,e5,zd⟩:=h;refine tA ?_;by_cases da:i<x.syms.length
  ·have fa:(i:Int)<x.syms.length:=by omega
   have g1:(x.syms.map RD)[i]?=some (RD x.syms[i]):=by simp [da]
   have oc:=ZA (i:=i);have eb:=D1 y x.syms[i].id (by omega);have th:=jN (fun s=>decide (0<=wG y.syms s.id)) x.syms da;have ad:=kV (fun s=>decide (0<=wG y.syms s.id)) x.syms da;generalize x.syms[i]=q at *
   simp only [RD] at g1;simp only [kA] at m2 m3;simp only [gA,eA,ZU] at eb;by_cases c:0<=wG y.syms q.id
   ·simp only [c,decide_true] at eb th;simp [xJ,-V,-y3,-y0,J,e2,e3,m2,m3,e5,fa,g1,eb,oc];refine ih da _ ⟨?_,?_,?_,?_,?_,by rw [th,zd]; rfl⟩ <;> simp [e2,e3,m2,m3,kA]
   ·simp only [c,decide_false] at eb ad;simp [xJ,-V,-y3,-y0,J,e2,e3,m2,m3,e5,fa,g1,eb,oc];refine hk _ _ (.inr ⟨rfl,by simp,?_⟩);unfold QL;rw [ad trivial];rfl
  ·have fa:¬ (i:Int)<x.syms.length:=by omega
   simp only [kA] at m2;simp [xJ,-V,-y3,-y0,J,e2,m2,e5,fa];refine hk _ _ (.inl ⟨rfl,by simp [e2],by simp [e3],by simp [m2],by simp [m3],?_⟩);rw [yx (by omega)] at zd;exact zd
 ·refine ⟨?_,?_,?_,?_,?_,?_⟩ <;> simp [kA]
 rcases h with ⟨rfl,e2,e3,m2,m3,zd⟩ | ⟨rfl,e4,hf⟩
 case inr=>simp [-V,-y3,-y0,J,e4,hf]
 simp only [kA] at m2;simp [-V,-y3,-y0,J];refine xA x.mems.length (fun i s=>(s.env 2).v=.ptr 2 1 0/\(s.env 3).v=.ptr 3 1 0/\s.mem 2 1=some (kA x)/\s.mem 3 1=some (kA y)/\(s.env 8).v=.int .i64 i/\(x.mems.take i).all (fun s=>decide (0<=xB y.mems s.id))=true)
  (fun e s=>(e=.exit 2/\QL x y=true)\/(e=.ret/\(s.env 4).v=.bool false/\QL x y=false)) (fun i hi s k h ih hk=>?_) _ _ ?_ (fun e s h=>?_)
 ·obtain ⟨e2,e3,m2,m3,e8,mo⟩:=h;refine tA ?_;simp only [kA] at m2 m3;by_cases da:i<x.mems.length
  ·have fa:(i:Int)<x.mems.length:=by omega
   have g1:(x.mems.map nA)[i]?=some (nA x.mems[i]):=by simp [da]
   have oc:=ZA (i:=i);have eb:=jS y x.mems[i].id (by omega);have th:=jN (fun s=>decide (0<=xB y.mems s.id)) x.mems da;have ad:=kV (fun s=>decide (0<=xB y.mems s.id)) x.mems da;generalize x.mems[i]=q at *
   simp only [nA] at g1;simp only [gA,eA,wQ] at eb;by_cases c:0<=xB y.mems q.id
   ·simp only [c,decide_true] at eb th;simp [zJ,-V,-y3,-y0,J,e2,e3,m2,m3,e8,fa,g1,eb,oc];refine ih da _ ⟨?_,?_,?_,?_,?_,by rw [th,mo]; rfl⟩ <;> simp [e2,e3,m2,m3,kA]
   ·simp only [c,decide_false] at eb ad;simp [zJ,-V,-y3,-y0,J,e2,e3,m2,m3,e8,fa,g1,eb,oc];refine hk _ _ (.inr ⟨rfl,by simp,?_⟩);unfold QL;rw [ad trivial,Bool.and_false]
  ·have fa:¬ (i:Int)<x.mems.length:=by omega
   simp [zJ,-V,-y3,-y0,J,e2,m2,e8,fa];refine hk _ _ (.inl ⟨rfl,?_⟩);rw [yx (by omega)] at mo;unfold QL;rw [zd,mo];rfl
 ·refine ⟨?_,?_,?_,?_,?_,?_⟩ <;> simp [e2,e3,m2,m3,kA]
 ·rcases h with ⟨rfl,hf⟩ | ⟨rfl,e4,hf⟩
  ·simp [-V,-y3,-y0,J,hf]
  ·simp [-V,-y3,-y0,J,e4,hf]
end
def GN (mns:BB->BB->Bool) (xs:List BB):List BB->Int
 | []=>0
 | g :: r=>if 0<=xB xs g.id then (match xs[(xB xs g.id).toNat]? with
   | some f=>if f.has=true then (if g.has=true then (if mns f g=true then GN mns xs r else 10) else 7) else GN mns xs r
   | none=>GN mns xs r) else if g.has=true then GN mns xs r else 7
def j6 (ys:List BB) (f:BB):Bool:=f.crit&&!decide (0<=xB ys f.id)
def CM (mns:BB->BB->Bool) (xs ys:List BB):Int:=if GN mns xs ys=0 then (if xs.any (j6 ys)=true then 6 else 0) else GN mns xs ys
def aV (w r:SG) (mns:BB->BB->Bool) (xs ys:List BB):Prop:=∀ f∈xs,∀ g∈ys,f.has=true->g.has=true →
 (∃ (u:Vl) (e:Int),gA 155 [.agg (WA w),.int .i64 f.ty,.agg (zA f.dflt),.agg (WA r),.int .i64 g.ty] (.tup [.agg (zA u),.int .i64 e])/\(e=0->gA 156 [.agg (zA u),.agg (zA g.dflt)] (.bool (mns f g)))/\(e≠0->mns f g=false)) ∧
 gA 157 [.agg (WA w),.int .i64 f.ty,.agg (zA f.dflt),.agg (WA r),.int .i64 g.ty,.agg (zA g.dflt)] (.bool (mns f g))
theorem EP {α:Type} (p:α->Bool) (l:List α) {i:Nat} (h:i<l.length):(l.take (i + 1)).any p=((l.take i).any p||p l[i]):=by
 rw [<- yH h,List.any_append];simp
theorem i8 {α:Type} (p:α->Bool) (l:List α) {i:Nat} (h:i<l.length) (hp:p l[i]=true):l.any p=true:=List.any_eq_true.2 ⟨_,y6 h,hp⟩
theorem tO {l:List BB} {id:Int} (h:0<=xB l id):∃ f,l[(xB l id).toNat]?=some f/\f∈l:=by
 obtain ⟨f,h1,_⟩:=mN (fun x:BB=>decide (x.id=id)) l (by unfold xB at h; omega);exact ⟨f,h1,yj h1⟩
section
variable (w r:SG) (x y:fA) (ew:x.mems.length<=8796093022206) (hym:y.mems.length<=8796093022206) {mns:BB->BB->Bool} (hR:aV w r mns x.mems y.mems)
include w r x y ew hym mns hR
theorem L5:gA 131 [.agg (WA w),.agg (eA x),.agg (WA r),.agg (eA y)] (.int .i64 (CM mns x.mems y.mems)):=by
 refine wA (c:=sG) rfl rfl ?_;simp only [WA];simp [sG,-V,-y3,-y0,J,eA];refine xA y.mems.length (fun i s=>(s.env 4).v=.ptr 4 1 0/\(s.env 5).v=.ptr 5 1 0/\(s.env 6).v=.ptr 6 1 0/\(s.env 7).v=.ptr 7 1 0/\s.mem 4 1=some [⟨.sl w.nl (w.types.map eA),.no⟩]/\s.mem 5 1=some (kA x)/\s.mem 6 1=some [⟨.sl r.nl (r.types.map eA),.no⟩]/\s.mem 7 1=some (kA y)/\(s.env 21).v=.sl y.mn (y.mems.map nA)/\(s.env 22).v=.int .i64 y.mems.length/\(s.env 23).v=.int .i64 i/\GN mns x.mems (y.mems.drop i)=GN mns x.mems y.mems)
  (fun e s=>(e=.exit 0/\(s.env 5).v=.ptr 5 1 0/\(s.env 7).v=.ptr 7 1 0/\s.mem 5 1=some (kA x)/\s.mem 7 1=some (kA y)/\GN mns x.mems y.mems=0)\/(e=.ret/\(s.env 8).v=.int .i64 (CM mns x.mems y.mems))) (fun i hi s k h ih hk=>?_) _ _ ?_ (fun e s h=>?_)
 ·obtain ⟨e4,e5,e6,e7,m4,m5,m6,m7,ev,nr,fy,lb⟩:=h;refine tA ?_;by_cases da:i<y.mems.length
  ·have fa:(i:Int)<y.mems.length:=by omega
   have g1:(y.mems.map nA)[i]?=some (nA y.mems[i]):=by simp [da]
   have oc:=ZA (i:=i);have lv:=y6 da;rw [yb da,GN] at lb;generalize y.mems[i]=g at *
   have eb:=sW x g.id (by omega);simp only [nA] at g1;simp only [kA] at m5 m7;simp only [gA,eA,wQ] at eb;have done:∀ (E:Nat->qA) (M:Nat->Nat->Option (List qA)) (nx:Nat) (z:Int),(E 8).v=.int .i64 z->GN mns x.mems y.mems=z->z≠0->k .ret ⟨E,M,nx,s.obj,s.gh⟩=some (.int .i64 (CM mns x.mems y.mems),none):=fun E M nx z h1 h2 h3=>hk _ _ (.inr ⟨rfl,by unfold CM; rw [if_neg (by omega),h2]; exact h1⟩)
   by_cases c:0<=xB x.mems g.id
   ·obtain ⟨f,hf,hfm⟩:=tO c;rw [if_pos c,hf] at lb;simp only at lb;simp only [c,decide_true] at eb;have gf:(x.mems.map nA)[(xB x.mems g.id).toNat]?=some (nA f):=by rw [yc,hf]; rfl
    have dd:max (xB x.mems g.id) 0=xB x.mems g.id:=by omega
    generalize xB x.mems g.id=ix at *
    rw [dd] at eb;simp only [nA] at gf;by_cases uj:f.has=true
    ·rw [if_pos uj] at lb;by_cases af:g.has=true
     ·rw [if_pos af] at lb;obtain ⟨⟨u,e,hrd,hq0,hq1⟩,_⟩:=hR f hfm g lv uj af;simp only [gA,WA,iA] at hrd hq0;by_cases he:e=0
      ·have hq:=hq0 he;subst he;by_cases hm:mns f g=true
       ·rw [if_pos hm] at lb;rw [hm] at hq;simp [QB,-V,-y3,-y0,J,e4,e5,e6,e7,m4,m5,m6,m7,ev,nr,fy,fa,g1,eb,gf,c,uj,af,hrd,hq,oc];refine ih da _ ⟨?_,?_,?_,?_,?_,?_,?_,?_,?_,?_,?_,lb⟩ <;> simp [e4,e5,e6,e7,m4,m5,m6,m7,ev,nr,kA]
       ·have md:mns f g=false:=by simpa using hm
        rw [if_neg hm] at lb;rw [md] at hq;simp [QB,-V,-y3,-y0,J,e4,e5,e6,e7,m4,m5,m6,m7,ev,nr,fy,fa,g1,eb,gf,c,uj,af,hrd,hq,oc];exact done _ _ _ 10 (by simp) lb.symm (by omega)
      ·have md:=hq1 he;rw [if_neg (by simp [md])] at lb;simp [QB,-V,-y3,-y0,J,e4,e5,e6,e7,m4,m5,m6,m7,ev,nr,fy,fa,g1,eb,gf,c,uj,af,hrd,he,oc];exact done _ _ _ 10 (by simp) lb.symm (by omega)
     ·have ro:g.has=false:=by simpa using af
      rw [if_neg af] at lb;simp [QB,-V,-y3,-y0,J,e4,e5,e6,e7,m4,m5,m6,m7,ev,nr,fy,fa,g1,eb,gf,c,uj,ro,oc];exact done _ _ _ 7 (by simp) lb.symm (by omega)
    ·have xw:f.has=false:=by simpa using uj
     rw [if_neg uj] at lb;simp [QB,-V,-y3,-y0,J,e4,e5,e6,e7,m4,m5,m6,m7,ev,nr,fy,fa,g1,eb,gf,c,xw,oc];refine ih da _ ⟨?_,?_,?_,?_,?_,?_,?_,?_,?_,?_,?_,lb⟩ <;> simp [e4,e5,e6,e7,m4,m5,m6,m7,ev,nr,kA]
   ·rw [if_neg c] at lb;simp only [c,decide_false] at eb;by_cases af:g.has=true
    ·rw [if_pos af] at lb;simp [QB,-V,-y3,-y0,J,e4,e5,e6,e7,m4,m5,m6,m7,ev,nr,fy,fa,g1,eb,af,oc];refine ih da _ ⟨?_,?_,?_,?_,?_,?_,?_,?_,?_,?_,?_,lb⟩ <;> simp [e4,e5,e6,e7,m4,m5,m6,m7,ev,nr,kA]
    ·have ro:g.has=false:=by simpa using af
     rw [if_neg af] at lb;simp [QB,-V,-y3,-y0,J,e4,e5,e6,e7,m4,m5,m6,m7,ev,nr,fy,fa,g1,eb,ro,oc];exact done _ _ _ 7 (by simp) lb.symm (by omega)
  ·have fa:¬ (i:Int)<y.mems.length:=by omega
   simp [QB,-V,-y3,-y0,J,nr,fy,fa];refine hk _ _ (.inl ⟨rfl,by simp [e5],by simp [e7],by simp [m5],by simp [m7],?_⟩);rw [ye (by omega),GN] at lb;exact lb.symm
 ·refine ⟨?_,?_,?_,?_,?_,?_,?_,?_,?_,?_,?_,?_⟩ <;> simp [kA]
 rcases h with ⟨rfl,e5,e7,m5,m7,h0⟩ | ⟨rfl,e8⟩
 case inr=>simp [-V,-y3,-y0,J,e8]
 simp only [kA] at m5;simp [-V,-y3,-y0,J,e5,m5];have nd:CM mns x.mems y.mems=if x.mems.any (j6 y.mems)=true then 6 else 0:=by unfold CM; rw [if_pos h0]
 refine xA x.mems.length (fun i s=>(s.env 7).v=.ptr 7 1 0/\s.mem 7 1=some (kA y)/\(s.env 73).v=.sl x.mn (x.mems.map nA)/\(s.env 74).v=.int .i64 x.mems.length/\(s.env 75).v=.int .i64 i/\(x.mems.take i).any (j6 y.mems)=false)
  (fun e s=>(e=.exit 2/\x.mems.any (j6 y.mems)=false)\/(e=.ret/\(s.env 8).v=.int .i64 6/\x.mems.any (j6 y.mems)=true)) (fun i hi s k h ih hk=>?_) _ _ ?_ (fun e s h=>?_)
 ·obtain ⟨e7,m7,e73,e74,e75,zd⟩:=h;refine tA ?_;by_cases da:i<x.mems.length
  ·have fa:(i:Int)<x.mems.length:=by omega
   have g1:(x.mems.map nA)[i]?=some (nA x.mems[i]):=by simp [da]
   have oc:=ZA (i:=i);have eb:=sW y x.mems[i].id (by omega);have th:=EP (j6 y.mems) x.mems da;have gl:=i8 (j6 y.mems) x.mems da;generalize x.mems[i]=q at *
   simp only [nA] at g1;simp only [kA] at m7;simp only [gA,eA,wQ] at eb;simp only [j6] at th gl;by_cases c:0<=xB y.mems q.id
   ·simp only [c,decide_true] at eb;simp only [c,decide_true,Bool.not_true,Bool.and_false,Bool.or_false] at th;simp [GD,-V,-y3,-y0,J,e7,m7,e73,e74,e75,fa,g1,eb,oc];refine ih da _ ⟨?_,?_,?_,?_,?_,th.trans zd⟩ <;> simp [e7,m7,e73,e74,kA]
   ·simp only [c,decide_false] at eb;cases tw:q.crit with
    | true =>
     simp [GD,-V,-y3,-y0,J,e7,m7,e73,e74,e75,fa,g1,eb,tw,oc];exact hk _ _ (.inr ⟨rfl,by simp,gl (by simp [tw,c])⟩)
    | false =>
     simp [GD,-V,-y3,-y0,J,e7,m7,e73,e74,e75,fa,g1,eb,tw,oc];refine ih da _ ⟨?_,?_,?_,?_,?_,by rw [th,zd,tw]; rfl⟩ <;> simp [e7,m7,e73,e74,kA]
  ·have fa:¬ (i:Int)<x.mems.length:=by omega
   simp [GD,-V,-y3,-y0,J,e74,e75,fa];rw [yx (by omega)] at zd;exact hk _ _ (.inl ⟨rfl,zd⟩)
 ·refine ⟨?_,?_,?_,?_,?_,?_⟩ <;> simp [e7,m7,kA]
 ·rcases h with ⟨rfl,hf⟩ | ⟨rfl,e8,hf⟩
  ·simp [-V,-y3,-y0,J,nd,hf]
  ·simp [-V,-y3,-y0,J,e8,nd,hf]
theorem D7:gA 134 [.agg (WA w),.agg (eA x),.agg (WA r),.agg (eA y)] (.int .i64 (CM mns x.mems y.mems)):=by
 refine wA (c:=cJ) rfl rfl ?_;simp only [WA];simp [cJ,-V,-y3,-y0,J,eA];refine xA y.mems.length (fun i s=>(s.env 4).v=.ptr 4 1 0/\(s.env 5).v=.ptr 5 1 0/\(s.env 6).v=.ptr 6 1 0/\(s.env 7).v=.ptr 7 1 0/\s.mem 4 1=some [⟨.sl w.nl (w.types.map eA),.no⟩]/\s.mem 5 1=some (kA x)/\s.mem 6 1=some [⟨.sl r.nl (r.types.map eA),.no⟩]/\s.mem 7 1=some (kA y)/\(s.env 9).v=.int .i64 i/\GN mns x.mems (y.mems.drop i)=GN mns x.mems y.mems)
  (fun e s=>(e=.exit 0/\(s.env 5).v=.ptr 5 1 0/\(s.env 7).v=.ptr 7 1 0/\s.mem 5 1=some (kA x)/\s.mem 7 1=some (kA y)/\GN mns x.mems y.mems=0)\/(e=.ret/\(s.env 8).v=.int .i64 (CM mns x.mems y.mems))) (fun i hi s k h ih hk=>?_) _ _ ?_ (fun e s h=>?_)
 ·obtain ⟨e4,e5,e6,e7,m4,m5,m6,m7,e9,lb⟩:=h;refine tA ?_;simp only [kA] at m5 m7;by_cases da:i<y.mems.length
  ·have fa:(i:Int)<y.mems.length:=by omega
   have g1:(y.mems.map nA)[i]?=some (nA y.mems[i]):=by simp [da]
   have oc:=ZA (i:=i);have lv:=y6 da;rw [yb da,GN] at lb;generalize y.mems[i]=g at *
   have eb:=jS x g.id (by omega);simp only [nA] at g1;simp only [gA,eA,wQ] at eb;have done:∀ (E:Nat->qA) (M:Nat->Nat->Option (List qA)) (nx:Nat) (z:Int),(E 8).v=.int .i64 z->GN mns x.mems y.mems=z->z≠0->k .ret ⟨E,M,nx,s.obj,s.gh⟩=some (.int .i64 (CM mns x.mems y.mems),none):=fun E M nx z h1 h2 h3=>hk _ _ (.inr ⟨rfl,by unfold CM; rw [if_neg (by omega),h2]; exact h1⟩)
   by_cases c:0<=xB x.mems g.id
   ·obtain ⟨f,hf,hfm⟩:=tO c;rw [if_pos c,hf] at lb;simp only at lb;simp only [c,decide_true] at eb;have gf:(x.mems.map nA)[(xB x.mems g.id).toNat]?=some (nA f):=by rw [yc,hf]; rfl
    have dd:max (xB x.mems g.id) 0=xB x.mems g.id:=by omega
    generalize xB x.mems g.id=ix at *
    rw [dd] at eb;simp only [nA] at gf;by_cases uj:f.has=true
    ·rw [if_pos uj] at lb;by_cases af:g.has=true
     ·rw [if_pos af] at lb;obtain ⟨_,hq⟩:=hR f hfm g lv uj af;simp only [gA,WA,iA] at hq;by_cases hm:mns f g=true
      ·rw [if_pos hm] at lb;rw [hm] at hq;simp [fC,-V,-y3,-y0,J,e4,e5,e6,e7,m4,m5,m6,m7,e9,fa,g1,eb,gf,c,uj,af,hq,oc];refine ih da _ ⟨?_,?_,?_,?_,?_,?_,?_,?_,?_,lb⟩ <;> simp [e4,e5,e6,e7,m4,m5,m6,m7,kA]
      ·have md:mns f g=false:=by simpa using hm
       rw [if_neg hm] at lb;rw [md] at hq;simp [fC,-V,-y3,-y0,J,e4,e5,e6,e7,m4,m5,m6,m7,e9,fa,g1,eb,gf,c,uj,af,hq,oc];exact done _ _ _ 10 (by simp) lb.symm (by omega)
     ·have ro:g.has=false:=by simpa using af
      rw [if_neg af] at lb;simp [fC,-V,-y3,-y0,J,e4,e5,e6,e7,m4,m5,m6,m7,e9,fa,g1,eb,gf,c,uj,ro,oc];exact done _ _ _ 7 (by simp) lb.symm (by omega)
    ·have xw:f.has=false:=by simpa using uj
     rw [if_neg uj] at lb;cases af:g.has with
     | true =>
      simp [fC,-V,-y3,-y0,J,e4,e5,e6,e7,m4,m5,m6,m7,e9,fa,g1,eb,gf,c,xw,af,oc];refine ih da _ ⟨?_,?_,?_,?_,?_,?_,?_,?_,?_,lb⟩ <;> simp [e4,e5,e6,e7,m4,m5,m6,m7,kA]
     | false =>
      simp [fC,-V,-y3,-y0,J,e4,e5,e6,e7,m4,m5,m6,m7,e9,fa,g1,eb,gf,c,xw,af,oc];refine ih da _ ⟨?_,?_,?_,?_,?_,?_,?_,?_,?_,lb⟩ <;> simp [e4,e5,e6,e7,m4,m5,m6,m7,kA]
   ·rw [if_neg c] at lb;simp only [c,decide_false] at eb;by_cases af:g.has=true
    ·rw [if_pos af] at lb;simp [fC,-V,-y3,-y0,J,e4,e5,e6,e7,m4,m5,m6,m7,e9,fa,g1,eb,af,oc];refine ih da _ ⟨?_,?_,?_,?_,?_,?_,?_,?_,?_,lb⟩ <;> simp [e4,e5,e6,e7,m4,m5,m6,m7,kA]
    ·have ro:g.has=false:=by simpa using af
     rw [if_neg af] at lb;simp [fC,-V,-y3,-y0,J,e4,e5,e6,e7,m4,m5,m6,m7,e9,fa,g1,eb,ro,oc];exact done _ _ _ 7 (by simp) lb.symm (by omega)
  ·have fa:¬ (i:Int)<y.mems.length:=by omega
   simp [fC,-V,-y3,-y0,J,e7,m7,e9,fa];refine hk _ _ (.inl ⟨rfl,by simp [e5],by simp [e7],by simp [m5],by simp [m7],?_⟩);rw [ye (by omega),GN] at lb;exact lb.symm
 ·refine ⟨?_,?_,?_,?_,?_,?_,?_,?_,?_,?_⟩ <;> simp [kA]
 rcases h with ⟨rfl,e5,e7,m5,m7,h0⟩ | ⟨rfl,e8⟩
 case inr=>simp [-V,-y3,-y0,J,e8]
 simp [-V,-y3,-y0,J];have nd:CM mns x.mems y.mems=if x.mems.any (j6 y.mems)=true then 6 else 0:=by unfold CM; rw [if_pos h0]
 refine xA x.mems.length (fun i s=>(s.env 5).v=.ptr 5 1 0/\(s.env 7).v=.ptr 7 1 0/\s.mem 5 1=some (kA x)/\s.mem 7 1=some (kA y)/\(s.env 13).v=.int .i64 i/\(x.mems.take i).any (j6 y.mems)=false)
  (fun e s=>(e=.exit 2/\x.mems.any (j6 y.mems)=false)\/(e=.ret/\(s.env 8).v=.int .i64 6/\x.mems.any (j6 y.mems)=true)) (fun i hi s k h ih hk=>?_) _ _ ?_ (fun e s h=>?_)
 ·obtain ⟨e5,e7,m5,m7,kh,zd⟩:=h;refine tA ?_;simp only [kA] at m5 m7;by_cases da:i<x.mems.length
  ·have fa:(i:Int)<x.mems.length:=by omega
   have g1:(x.mems.map nA)[i]?=some (nA x.mems[i]):=by simp [da]
   have oc:=ZA (i:=i);have eb:=jS y x.mems[i].id (by omega);have th:=EP (j6 y.mems) x.mems da;have gl:=i8 (j6 y.mems) x.mems da;generalize x.mems[i]=q at *
   simp only [nA] at g1;simp only [gA,eA,wQ] at eb;simp only [j6] at th gl;by_cases c:0<=xB y.mems q.id
   ·simp only [c,decide_true] at eb;simp only [c,decide_true,Bool.not_true,Bool.and_false,Bool.or_false] at th;simp [jF,-V,-y3,-y0,J,e5,e7,m5,m7,kh,fa,g1,eb,oc];refine ih da _ ⟨?_,?_,?_,?_,?_,th.trans zd⟩ <;> simp [e5,e7,m5,m7,kA]
   ·simp only [c,decide_false] at eb;cases tw:q.crit with
    | true =>
     simp [jF,-V,-y3,-y0,J,e5,e7,m5,m7,kh,fa,g1,eb,tw,oc];exact hk _ _ (.inr ⟨rfl,by simp,gl (by simp [tw,c])⟩)
    | false =>
     simp [jF,-V,-y3,-y0,J,e5,e7,m5,m7,kh,fa,g1,eb,tw,oc];refine ih da _ ⟨?_,?_,?_,?_,?_,by rw [th,zd,tw]; rfl⟩ <;> simp [e5,e7,m5,m7,kA]
  ·have fa:¬ (i:Int)<x.mems.length:=by omega
   simp [jF,-V,-y3,-y0,J,e5,m5,kh,fa];rw [yx (by omega)] at zd;exact hk _ _ (.inl ⟨rfl,zd⟩)
 ·refine ⟨?_,?_,?_,?_,?_,?_⟩ <;> simp [e5,e7,m5,m7,kA]
 ·rcases h with ⟨rfl,hf⟩ | ⟨rfl,e8,hf⟩
  ·simp [-V,-y3,-y0,J,nd,hf]
  ·simp [-V,-y3,-y0,J,e8,nd,hf]
end
abbrev Pr:=Int × Int
def XA (p:Pr):List AV:=[.int .i64 p.1,.int .i64 p.2]
theorem tX:eB 16 1=true:=by decide
theorem E5:eB 16 2=true:=by decide
theorem gG (l:List Pr):lB 2 (l.map XA)=true:=cC _ _ _ fun _=>rfl
section
variable (l:List Pr) (hl:l.length<=9223372036854775807) (b:Bool) (p:Pr)
include l hl b p
theorem OT:gA 35 [.sl b (l.map XA),.agg (XA p)] (.bool (decide (p∈l))):=by
 refine wA (c:=rK) rfl rfl ?_;simp [rK,-V,-y3,-y0,J,XA];refine xA l.length (fun i s=>(s.env 0).v=.sl b (l.map XA)/\(s.env 3).v=.ptr 3 1 0/\s.mem 3 1=some [⟨.int .i64 p.1,.no⟩,⟨.int .i64 p.2,.no⟩]/\(s.env 5).v=.int .i64 i/\(decide (p∈l)=decide (p∈l.drop i)))
  (fun e s=>(e=.exit 0/\¬ p∈l)\/(e=.ret/\(s.env 4).v=.bool true/\p∈l)) (fun i hi s k h ih hk=>?_) _ _ ?_ (fun e s h=>?_)
 ·obtain ⟨e0,e3,m3,e5,hd⟩:=h;refine tA ?_;by_cases da:i<l.length
  ·have fa:(i:Int)<l.length:=by omega
   have g1:(l.map XA)[i]?=some (XA l[i]):=by simp [da]
   have hw:=ZA (i:=i);rw [yb da] at hd;generalize l[i]=q at *
   simp only [XA] at g1;by_cases c1:q.1=p.1
   ·by_cases c2:q.2=p.2
    ·have e:q=p:=Prod.ext c1 c2;simp [wE,-V,-y3,-y0,J,e0,e3,m3,e5,fa,g1,c1,c2,hw];refine hk _ _ (.inr ⟨rfl,by simp,?_⟩);simp [e] at hd;exact hd
    ·have e:¬ p=q:=fun h=>c2 (by rw [h])
     simp [wE,-V,-y3,-y0,J,e0,e3,m3,e5,fa,g1,c1,c2,hw];refine ih da _ ⟨?_,?_,?_,?_,?_⟩ <;> simp [e0,e3,m3]
     simpa [e] using hd
   ·have e:¬ p=q:=fun h=>c1 (by rw [h])
    simp [wE,-V,-y3,-y0,J,e0,e3,m3,e5,fa,g1,c1,hw];refine ih da _ ⟨?_,?_,?_,?_,?_⟩ <;> simp [e0,e3,m3]
    simpa [e] using hd
  ·have fa:¬ (i:Int)<l.length:=by omega
   simp [wE,-V,-y3,-y0,J,e0,e5,fa];refine hk _ _ (.inl ⟨rfl,?_⟩);rw [ye (by omega)] at hd;simpa using hd
 ·refine ⟨?_,?_,?_,?_,?_⟩ <;> simp [XA]
 ·rcases h with ⟨rfl,hn⟩ | ⟨rfl,e4,hy⟩
  ·simp [-V,-y3,-y0,J,hn]
  ·simp [-V,-y3,-y0,J,e4,hy]
theorem index_ev:gA 158 [.sl b (l.map XA),.agg (XA p)] (.int .i64 (cB (fun q=>decide (q=p)) l)):=by
 refine wA (c:=rF) rfl rfl ?_;simp [rF,-V,-y3,-y0,J,XA];refine xA l.length (fun i s=>(s.env 0).v=.sl b (l.map XA)/\(s.env 3).v=.ptr 3 1 0/\s.mem 3 1=some [⟨.int .i64 p.1,.no⟩,⟨.int .i64 p.2,.no⟩]/\(s.env 7).v=.int .i64 l.length/\(s.env 8).v=.int .i64 i/\(cB (fun q=>decide (q=p)) l=if cB (fun q=>decide (q=p)) (l.drop i)=-1 then -1 else cB (fun q=>decide (q=p)) (l.drop i) + i))
  (fun e s=>(e=.exit 0/\cB (fun q=>decide (q=p)) l=-1)\/(e=.ret/\(s.env 4).v=.int .i64 (cB (fun q=>decide (q=p)) l))) (fun i hi s k h ih hk=>?_) _ _ ?_ (fun e s h=>?_)
 ·obtain ⟨e0,e3,m3,e7,e8,hd⟩:=h;refine tA ?_;by_cases da:i<l.length
  ·have fa:(i:Int)<l.length:=by omega
   have g1:(l.map XA)[i]?=some (XA l[i]):=by simp [da]
   have hw:=ZA (i:=i);have ne:=WE (fun q=>decide (q=p)) (l.drop (i + 1));rw [yb da] at hd;generalize l[i]=q at *
   simp only [XA] at g1;have no:¬ q=p->cB (fun q=>decide (q=p)) l=if cB (fun q=>decide (q=p)) (l.drop (i + 1))=-1 then -1 else cB (fun q=>decide (q=p)) (l.drop (i + 1)) + ((i + 1:Nat):Int):=fun e=>by
    rw [gK _ _ _ (by simpa using e)] at hd;rw [hd];split
    ·rename_i h; simp [h]
    ·rename_i h; rw [if_neg (by omega)]; omega
   by_cases c1:q.1=p.1
   ·by_cases c2:q.2=p.2
    ·have e:q=p:=Prod.ext c1 c2;simp [rD,-V,-y3,-y0,J,e0,e3,m3,e7,e8,fa,g1,c1,c2,hw];refine hk _ _ (.inr ⟨rfl,?_⟩);rw [hd];simp [e,cB]
    ·have eo:¬ p.2=q.2:=fun h=>c2 h.symm
     simp [rD,-V,-y3,-y0,J,e0,e3,m3,e7,e8,fa,g1,c1,eo,hw];refine ih da _ ⟨?_,?_,?_,?_,?_,no fun h=>c2 (by rw [h])⟩ <;> simp [e0,e3,m3,e7]
   ·have zi:¬ p.1=q.1:=fun h=>c1 h.symm
    simp [rD,-V,-y3,-y0,J,e0,e3,m3,e7,e8,fa,g1,zi,hw];refine ih da _ ⟨?_,?_,?_,?_,?_,no fun h=>c1 (by rw [h])⟩ <;> simp [e0,e3,m3,e7]
  ·have fa:¬ (i:Int)<l.length:=by omega
   simp [rD,-V,-y3,-y0,J,e7,e8,fa];refine hk _ _ (.inl ⟨rfl,?_⟩);rw [ye (by omega)] at hd;simpa [cB] using hd
 ·refine ⟨?_,?_,?_,?_,?_,?_⟩ <;> simp [XA]
 ·rcases h with ⟨rfl,hn⟩ | ⟨rfl,e4⟩
  ·simp [-V,-y3,-y0,J,hn]
  ·simp [-V,-y3,-y0,J,e4]
theorem A3:gA 136 [.sl b (l.map XA),.agg (XA p)] (.bool (decide (p∈l))):=by
 have h:=index_ev l hl b p;refine wA (c:=rE) rfl rfl ?_;simp only [gA,XA] at h;have h2:decide (p∈l)=decide (0<=cB (fun q=>decide (q=p)) l):=by
  rw [nN];by_cases hp:p∈l
  ·rw [decide_eq_true hp,List.any_eq_true.2 ⟨p,hp,by simp⟩]
  ·rw [decide_eq_false hp]
   symm
   rw [List.any_eq_false];intro x hx;simp only [decide_eq_true_eq];rintro rfl;exact hp hx
 rw [h2];simp [rE,-V,-y3,-y0,J,XA,h]
end
def cD (out:List Pr) (p:Pr):List Pr:=if p∈out then out else out++[p]
def TX (ys:List BB) (f:BB):List Pr:=if 0<=xB ys f.id then (match ys[(xB ys f.id).toNat]? with
 | some g=>[(f.ty,g.ty)]
 | none=>[]) else []
def wN (xs ys:List BB):List Pr:=xs.flatMap (TX ys)
def PX (x y:fA):List Pr:=if x.kind=8/\0<x.max then [(x.key,y.key)] else []
def mQ (x y:fA):List Pr:=if x.kind=9\/(x.kind=7\/x.kind=8)/\0<x.max then [(x.elem,y.elem)] else []
def jM (x y:fA):List Pr:=if x.kind=y.kind then (wN x.mems y.mems++PX x y++mQ x y).foldl cD [] else []
theorem comM_len (ys:List BB) (f:BB):(TX ys f).length<=1:=by
 unfold TX;split
 ·split <;> simp
 ·simp
theorem J2 (out:List Pr) (p:Pr):(cD out p).length<=out.length + 1:=by
 unfold cD;split <;> simp
theorem wJ:∀ (l out:List Pr),(l.foldl cD out).length<=out.length + l.length
 | [],out=>by simp
 | p :: r,out=>by
  have h1:=wJ r (cD out p);have h2:=J2 out p;simp only [List.foldl_cons,yE];omega
theorem BO (ys:List BB):∀ xs:List BB,(wN xs ys).length<=xs.length
 | []=>by simp [wN]
 | f :: r=>by
  have h1:=BO ys r;have h2:=comM_len ys f;simp only [wN,List.flatMap_cons,yl,yE] at h1 ⊢;omega
def IJ (out:List Pr) (a:An):List qA:=[⟨.sl out.isEmpty (out.map XA),a⟩]
def outAn (out:List Pr) (a:An):Prop:=out=[]/\a=.ex\/out≠[]/\a=.own 16 63
theorem add_ev {r:RV} (out:List Pr) (ja:out.length<=1000000) (a b:Int) {a1 a2 a3:An} {s:aA} {t n:Nat} {an:An} (ht:t≠5) (hm:s.mem t n=some (IJ out an)) (oq:outAn out an) (k:qA->aA->Option RV)
  (hk:∀ y s' an',s.next<=s'.next->s'.mem t n=some (IJ (cD out (a,b)) an')->outAn (cD out (a,b)) an'->(∀ j,(s'.gh j).v=(s.gh j).v)->(∀ t' n' row,t'≠5->¬ (t'=t/\n'=n)->s.mem t' n'=some row->(∀ x∈row,x.a=.no)->s'.mem t' n'=some row)->k y s'=some r) :
  H3 jA rA 135 [⟨.int .i64 a,a1⟩,⟨.int .i64 b,a2⟩,⟨.ptr t n 0,a3⟩] s k=some r:=by
 refine sK aC rfl rfl ?_;have hc:=A3 out (by omega) out.isEmpty (a,b);have q:=gG out;have ka:eB 16 (out.length + 1)=true:=by rw [EA]; omega
 have la:∀ (row:List qA),(∀ x∈row,x.a=.no)->row.map (qA.strip 16)=row:=fun row h=>by
  conv=>rhs; rw [<- List.map_id row]
  refine yq fun x hx=>?_
  have:=h x hx;cases x;simp only at this;subst this;rfl
 simp only [gA,XA] at hc;simp only [IJ] at hm;by_cases zb:(a,b)∈out
 ·rw [decide_eq_true zb] at hc;have lz:cD out (a,b)=out:=if_pos zb;rw [lz] at hk;simp [aC,-V,-y3,-y0,J,hm,ht,hc];refine hk _ _ an ?_ ?_ oq ?_ ?_
  ·simp; omega
  ·simp [hm,ht,IJ]
  ·intro j; simp
  ·intro t' n' row h5 na h1 _;simp [h5,h1]
 ·rw [decide_eq_false zb] at hc;have lz:cD out (a,b)=out++[(a,b)]:=if_neg zb;rw [lz] at hk;rcases oq with ⟨rfl,rfl⟩ | ⟨na,rfl⟩
  ·simp only [List.isEmpty_nil,yn] at hc hm;simp [aC,-V,-y3,-y0,J,hm,ht,hc,tX];refine hk _ _ (.own 16 63) ?_ ?_ (.inr ⟨by simp,rfl⟩) ?_ ?_
   ·simp; omega
   ·simp [hm,ht,IJ,XA]
   ·intro j; simp
   ·intro t' n' row h5 na h1 h2;have:=la row h2;simp [h5,na,h1,this]
  ·have lg:out.isEmpty=false:=by simpa using na
   rw [lg] at hm hc;simp [aC,-V,-y3,-y0,J,hm,ht,hc,ka,q];refine hk _ _ (.own 16 63) ?_ ?_ (.inr ⟨by simp,rfl⟩) ?_ ?_
   ·simp; omega
   ·simp [hm,ht,IJ,XA]
   ·intro j; simp
   ·intro t' n' row h5 na h1 h2;have:=la row h2;simp [h5,na,h1,this]
theorem cY {ys:List BB} {f:BB} (h:0<=xB ys f.id) {g:BB} (hg:ys[(xB ys f.id).toNat]?=some g):TX ys f=[(f.ty,g.ty)]:=by
 unfold TX;rw [if_pos h,hg]
theorem xY {ys:List BB} {f:BB} (h:¬ 0<=xB ys f.id):TX ys f=[]:=if_neg h
def RO (xs ys:List BB) (i:Nat):List Pr:=(wN (xs.take i) ys).foldl cD []
theorem S6 {xs ys:List BB} {i:Nat} (h:i<xs.length):RO xs ys (i + 1)=(TX ys xs[i]).foldl cD (RO xs ys i):=by
 unfold RO wN;rw [<- yH h,List.flatMap_append,List.foldl_append];simp
theorem bY (xs ys:List BB) (i:Nat):(RO xs ys i).length<=i:=by
 have h1:=wJ (wN (xs.take i) ys) [];have h2:=BO ys (xs.take i);simp only [yC,List.length_nil] at h1 h2;unfold RO;omega
structure R6 (x y:fA) (out:List Pr) (s:aA):Prop where
 e9:(s.env 9).v=.ptr 9 2 0
 e10:(s.env 10).v=.ptr 10 2 0
 e11:(s.env 11).v=.ptr 11 3 0
 e12:(s.env 12).v=.fn 135 [.ptr 11 3 0]
 m9:s.mem 9 2=some (kA x)
 m10:s.mem 10 2=some (kA y)
 m11:∃ an,s.mem 11 3=some (IJ out an)/\outAn out an
theorem R6.of {x y:fA} {out:List Pr} {s s':aA} (h:R6 x y out s) (he:∀ t,9<=t->t<=12->(s'.env t).v=(s.env t).v) (hm:∀ t n,9<=t->t<=11->s'.mem t n=s.mem t n):R6 x y out s':=by
 obtain ⟨h1,h2,h3,h4,h5,h6,h7⟩:=h;exact ⟨by rw [he 9 (by omega) (by omega),h1],by rw [he 10 (by omega) (by omega),h2],by rw [he 11 (by omega) (by omega),h3],by rw [he 12 (by omega) (by omega),h4],by rw [hm 9 _ (by omega) (by omega),h5],by rw [hm 10 _ (by omega) (by omega),h6],by rw [hm 11 _ (by omega) (by omega)]; exact h7⟩
theorem jZ (x:fA):∀ s∈kA x,s.a=.no:=by simp [kA]
theorem bS {r:RV} {x y:fA} {out:List Pr} {E:Nat->qA} {M:Nat->Nat->Option (List qA)} {n:Nat} {ob:Nat->Nat->Option AV} {g:Nat->qA} (h:R6 x y out ⟨E,M,n,ob,g⟩) (ja:out.length<=1000000) (a b:Int) {a1 a2 a3:An} (k:qA->aA->Option RV)
  (hk:∀ yv s',R6 x y (cD out (a,b)) ⟨backE 99 s'.gh,s'.mem,s'.next,s'.obj,jU 99 s'.gh⟩->(∀ j,j<99->(s'.gh j).v=(E j).v)->k yv s'=some r) :
  H3 jA rA 135 [⟨.int .i64 a,a1⟩,⟨.int .i64 b,a2⟩,⟨.ptr 11 3 0,a3⟩] ⟨E,M,n,ob,xZ 99 E g⟩ k=some r:=by
 obtain ⟨h1,h2,h3,h4,h5,h6,an,h7,h8⟩:=h;refine add_ev (s:=⟨E,M,n,ob,xZ 99 E g⟩) out ja a b (by decide) h7 h8 k (fun yv s' an' hn hm oq af ma=>?_);have hj:∀ j,j<99->(s'.gh j).v=(E j).v:=fun j hj=>by rw [af j]; simp [hj]
 refine hk yv s' ⟨?_,?_,?_,?_,?_,?_,an',hm,oq⟩ hj
 ·simpa [hj 9] using h1
 ·simpa [hj 10] using h2
 ·simpa [hj 11] using h3
 ·simpa [hj 12] using h4
 ·exact ma 9 2 _ (by decide) (by decide) h5 (jZ x)
 ·exact ma 10 2 _ (by decide) (by decide) h6 (jZ y)
theorem tY (w r:SG) {x y:fA} {i k:Int} (hi:0<=i) (gx:w.types[i.toNat]?=some x) (hk:0<=k) (gy:r.types[k.toNat]?=some y) (ew:x.mems.length<=1000) (hym:y.mems.length<=1000):gA 79 [.agg (WA w),.int .i64 i,.agg (WA r),.int .i64 k] (.sl (jM x y).isEmpty ((jM x y).map XA)):=by
 have g1:(w.types.map eA)[i.toNat]?=some (eA x):=by rw [yc,gx]; rfl
 have g2:(r.types.map eA)[k.toNat]?=some (eA y):=by rw [yc,gy]; rfl
 simp only [eA] at g1 g2;refine wA (c:=JD) rfl rfl ?_;by_cases e:x.kind=y.kind
 case neg=>simp [JD,-V,-y3,-y0,J,WA,g1,g2,hi,hk,e,jM]
 simp [JD,-V,-y3,-y0,J,WA,g1,g2,hi,hk,e];refine xA x.mems.length (fun i s=>R6 x y (RO x.mems y.mems i) s/\(s.env 35).v=.sl x.mn (x.mems.map nA)/\(s.env 36).v=.int .i64 x.mems.length/\(s.env 37).v=.int .i64 i)
  (fun e s=>e=.exit 0/\R6 x y (RO x.mems y.mems x.mems.length) s) (fun i hi s k h ih hk=>?_) _ _ ?_ (fun e1 s h=>?_)
 ·obtain ⟨hS,ay,e36,e37⟩:=h;have jz:=hS;obtain ⟨e9,e10,e11,e12,m9,m10,an,m11,ha⟩:=hS;refine tA ?_;by_cases da:i<x.mems.length
  ·have fa:(i:Int)<x.mems.length:=by omega
   have gm:(x.mems.map nA)[i]?=some (nA x.mems[i]):=by simp [da]
   have oc:=ZA (i:=i);have db:=S6 (ys:=y.mems) da;have bd:=bY x.mems y.mems i;have eb:=sW y x.mems[i].id (by omega);generalize x.mems[i]=f at *
   simp only [nA] at gm;simp only [gA,eA,wQ] at eb;simp only [kA] at m9 m10;by_cases c:0<=xB y.mems f.id
   ·obtain ⟨g,hg,lv⟩:=tO c;have gg:(y.mems.map nA)[(xB y.mems f.id).toNat]?=some (nA g):=by rw [yc,hg]; rfl
    rw [cY c hg] at db;have dd:max (xB y.mems f.id) 0=xB y.mems f.id:=by omega
    simp only [c,decide_true,dd] at eb;generalize xB y.mems f.id=ix at *
    simp only [nA] at gg;simp [eE,-V,-y3,-y0,J,e9,e10,e11,e12,m9,m10,ay,e36,e37,fa,gm,eb,gg,c,oc];refine bS (x:=x) (y:=y) (out:=RO x.mems y.mems i) (jz.of ?_ ?_) (by omega) _ _ _ (fun yv s' hA hj=>?_)
    ·intro t h9 jo;simp
     repeat (rw [if_neg (by omega)])
    ·intro t n h9 io;simp
     repeat (rw [if_neg (by omega)])
    ·have j35:=hj 35 (by omega);have j36:=hj 36 (by omega);have j37:=hj 37 (by omega);simp [ay,e36,e37] at j35 j36 j37;simp [-V,-y3,-y0,J,j37,oc];refine ih da _ ⟨?_,?_,?_,?_⟩
     ·rw [db];refine hA.of (fun t h9 jo=>?_) (fun t n _ _=>rfl);simp
      repeat (rw [if_neg (by omega)])
     ·simp [j35]
     ·simp [j36]
     ·simp
   ·rw [xY c] at db;simp only [c,decide_false] at eb;simp [eE,-V,-y3,-y0,J,e9,e10,e11,e12,m9,m10,ay,e36,e37,fa,gm,eb,c,oc];refine ih da _ ⟨?_,?_,?_,?_⟩
    ·rw [db];refine jz.of (fun t h9 jo=>?_) (fun t n h9 io=>?_)
     ·simp
      repeat (rw [if_neg (by omega)])
     ·simp
      repeat (rw [if_neg (by omega)])
    ·simp [ay]
    ·simp [e36]
    ·simp
  ·have fa:¬ (i:Int)<x.mems.length:=by omega
   have tg:i=x.mems.length:=by omega
   simp [eE,-V,-y3,-y0,J,e36,e37,fa];refine hk _ _ ⟨rfl,?_⟩;rw [<- tg];refine jz.of (fun t h9 jo=>?_) (fun t n _ _=>rfl);simp
   repeat (rw [if_neg (by omega)])
 ·refine ⟨⟨?_,?_,?_,?_,?_,?_,.ex,?_,.inl ⟨rfl,rfl⟩⟩,?_,?_,?_⟩ <;> simp [kA,e,IJ,RO,wN]
 obtain ⟨rfl,hS⟩:=h;have bd:=bY x.mems y.mems x.mems.length;have rd:jM x y=(PX x y++mQ x y).foldl cD (RO x.mems y.mems x.mems.length):=by
  unfold jM RO;rw [if_pos e,List.take_length,List.foldl_append,List.foldl_append,List.foldl_append]
 generalize RO x.mems y.mems x.mems.length=out at *
 unfold PX mQ at rd;have jz:=hS;obtain ⟨e9,e10,e11,e12,m9,m10,an,m11,ha⟩:=hS;simp only [kA] at m9 m10;rw [e] at rd;by_cases k8:y.kind=8
 ·by_cases c:0<x.max
  ·rw [if_pos ⟨k8,c⟩,if_pos (.inr ⟨.inr k8,c⟩)] at rd;simp only [List.cons_append,yP,List.foldl_cons,List.foldl_nil] at rd;simp [-V,-y3,-y0,J,e9,e10,e11,e12,m9,m10,e,k8,c];refine bS (x:=x) (y:=y) (out:=out) (jz.of ?_ ?_) (by omega) _ _ _ (fun yv s' hA hj=>?_)
   ·intro t h9 jo;simp
    repeat (rw [if_neg (by omega)])
   ·intro t n h9 io;rfl
   ·have hA':=hA;obtain ⟨f9,f10,f11,f12,n9,n10,an1,n11,hb⟩:=hA;simp at f9 f10 f11 f12;simp only [kA] at n9 n10;simp [-V,-y3,-y0,J,f9,f10,f11,f12,n9,n10,e,k8,c];have rk:=J2 out (x.key,y.key);refine bS (x:=x) (y:=y) (out:=cD out (x.key,y.key)) (hA'.of ?_ ?_) (by omega) _ _ _ (fun yv2 s2 hB hj2=>?_)
    ·intro t h9 jo;simp
     repeat (rw [if_neg (by omega)])
    ·intro t n h9 io;rfl
    ·obtain ⟨b9,b10,ey,uh,p9,p10,an2,xy,hc⟩:=hB;simp at ey;simp only [IJ] at xy;simp [-V,-y3,-y0,J,ey,xy,rd]
  ·rw [if_neg (fun h=>c h.2),if_neg (by omega)] at rd;simp only [List.append_nil,List.foldl_nil] at rd;simp only [IJ] at m11;simp [-V,-y3,-y0,J,e9,e10,e11,e12,m9,m10,m11,e,k8,c,rd]
 rw [if_neg (fun h=>k8 h.1),yP] at rd;by_cases k9:y.kind=9
 ·rw [if_pos (.inl k9)] at rd;simp only [List.foldl_cons,List.foldl_nil] at rd;simp [-V,-y3,-y0,J,e9,e10,e11,e12,m9,m10,e,k9];refine bS (x:=x) (y:=y) (out:=out) (jz.of ?_ ?_) (by omega) _ _ _ (fun yv s' hA hj=>?_)
  ·intro t h9 jo;simp
   repeat (rw [if_neg (by omega)])
  ·intro t n h9 io;rfl
  ·obtain ⟨b9,b10,ey,uh,p9,p10,an2,xy,hc⟩:=hA;simp at ey;simp only [IJ] at xy;simp [-V,-y3,-y0,J,ey,xy,rd]
 by_cases k7:y.kind=7
 ·by_cases c:0<x.max
  ·rw [if_pos (.inr ⟨.inl k7,c⟩)] at rd;simp only [List.foldl_cons,List.foldl_nil] at rd;simp [-V,-y3,-y0,J,e9,e10,e11,e12,m9,m10,e,k7,c];refine bS (x:=x) (y:=y) (out:=out) (jz.of ?_ ?_) (by omega) _ _ _ (fun yv s' hA hj=>?_)
   ·intro t h9 jo;simp
    repeat (rw [if_neg (by omega)])
   ·intro t n h9 io;rfl
   ·obtain ⟨b9,b10,ey,uh,p9,p10,an2,xy,hc⟩:=hA;simp at ey;simp only [IJ] at xy;simp [-V,-y3,-y0,J,ey,xy,rd]
  ·rw [if_neg (by omega)] at rd;simp only [List.foldl_nil] at rd;simp only [IJ] at m11;simp [-V,-y3,-y0,J,e9,e10,e11,e12,m9,m10,m11,e,k7,c,rd]
 rw [if_neg (by omega)] at rd;simp only [List.foldl_nil] at rd;simp only [IJ] at m11;simp [-V,-y3,-y0,J,e9,e10,e11,e12,m9,m10,m11,e,k7,k8,k9,rd]
theorem comL_step {xs ys:List BB} {i:Nat} (h:i<xs.length):wN (xs.take (i + 1)) ys=wN (xs.take i) ys++TX ys xs[i]:=by
 unfold wN;rw [<- yH h,List.flatMap_append];simp
theorem comLT_len (ys xs:List BB) (i:Nat):(wN (xs.take i) ys).length<=i:=by
 have h2:=BO ys (xs.take i);simp only [yC] at h2;omega
def apA (l:List Pr) (a:An) (k:Nat):Prop:=l=[]/\a=.ex\/l≠[]/\a=.own k 63
theorem AJ {r:RV} (l:List Pr) (hl:l.length<=1000000) (s:aA) (io:(s.env 11).v=.sl l.isEmpty (l.map XA)) (nh:(s.env 15).v=.sl true []) (h16:(s.env 16).v=.int .i64 0) (k:Ex->aA->Option RV)
  (hk:∀ s',(s'.env 15).v=.sl (l.foldl cD []).isEmpty ((l.foldl cD []).map XA)->k (.exit 2) s'=some r):OI jA rA aF s k=some r:=by
 refine xA l.length (fun i s=>(s.env 11).v=.sl l.isEmpty (l.map XA)/\(s.env 16).v=.int .i64 i/\(s.env 15).v=.sl ((l.take i).foldl cD []).isEmpty (((l.take i).foldl cD []).map XA)/\(((l.take i).foldl cD []=[])\/((l.take i).foldl cD []≠[])/\(s.env 15).a=.own 128 63))
  (fun e s=>e=.exit 2/\(s.env 15).v=.sl (l.foldl cD []).isEmpty ((l.foldl cD []).map XA)) (fun i hi s k h ih hk=>?_) _ _ ⟨io,h16,by simpa using nh,.inl rfl⟩ (fun e s h=>by obtain ⟨rfl,h⟩:=h; exact hk _ h)
 obtain ⟨e11,wd,ue,a15⟩:=h;refine tA ?_;by_cases da:i<l.length
 ·have fa:(i:Int)<l.length:=by omega
  have g1:(l.map XA)[i]?=some (XA l[i]):=by simp [da]
  have hw:=ZA (i:=i);have db:(l.take (i + 1)).foldl cD []=cD ((l.take i).foldl cD []) l[i]:=by rw [<- yH da,List.foldl_append]; rfl
  have ja:((l.take i).foldl cD []).length<=i:=by
   have:=wJ (l.take i) [];simp only [yC,List.length_nil] at this;omega
  rw [db] at ih;generalize (l.take i).foldl cD []=out at *
  generalize l[i]=p at *
  have zb:=OT out (by omega) out.isEmpty p;have q:=gG out;have ka:eB 16 (out.length + 1)=true:=by rw [EA]; omega
  simp only [gA,XA] at zb g1;by_cases c:p∈out
  ·rw [decide_eq_true c] at zb;rw [show cD out p=out from if_pos c] at ih;simp [aF,-V,-y3,-y0,J,e11,ue,wd,fa,g1,zb,hw];refine ih da _ ⟨?_,?_,?_,?_⟩
   ·simp [e11]
   ·simp
   ·simp [ue]
   ·simpa using a15
  ·rw [decide_eq_false c] at zb;rw [show cD out p=out++[p] from if_neg c] at ih;rcases a15 with rfl | ⟨na,a15⟩
   ·simp at ue zb;simp [aF,-V,-y3,-y0,J,e11,ue,wd,fa,g1,zb,hw,tX,E5];refine ih da _ ⟨?_,?_,?_,.inr ⟨by simp,?_⟩⟩
    ·simp [e11]
    ·simp
    ·simp [XA]
    ·simp
   ·have lg:out.isEmpty=false:=by simpa using na
    rw [lg] at ue zb;simp [aF,-V,-y3,-y0,J,e11,ue,a15,wd,fa,g1,zb,hw,ka,q];refine ih da _ ⟨?_,?_,?_,.inr ⟨by simp,?_⟩⟩
    ·simp [e11]
    ·simp
    ·simp [XA]
    ·simp
 ·have fa:¬ (i:Int)<l.length:=by omega
  simp [aF,-V,-y3,-y0,J,e11,wd,fa];refine hk _ _ ⟨rfl,?_⟩;rw [yx (by omega)] at ue;simp [ue]
structure RnI (x y:fA) (l:List Pr) (s:aA):Prop where
 e9:(s.env 9).v=.ptr 9 2 0
 e10:(s.env 10).v=.ptr 10 2 0
 m9:s.mem 9 2=some (kA x)
 m10:s.mem 10 2=some (kA y)
 e11:(s.env 11).v=.sl l.isEmpty (l.map XA)
 a11:apA l (s.env 11).a 66
theorem next_ev (w r:SG) {x y:fA} {i k:Int} (hi:0<=i) (gx:w.types[i.toNat]?=some x) (hk:0<=k) (gy:r.types[k.toNat]?=some y) (ew:x.mems.length<=1000) (hym:y.mems.length<=1000):gA 41 [.agg (WA w),.int .i64 i,.agg (WA r),.int .i64 k] (.sl (jM x y).isEmpty ((jM x y).map XA)):=by
 have g1:(w.types.map eA)[i.toNat]?=some (eA x):=by rw [yc,gx]; rfl
 have g2:(r.types.map eA)[k.toNat]?=some (eA y):=by rw [yc,gy]; rfl
 simp only [eA] at g1 g2;refine wA (c:=lJ) rfl rfl ?_;by_cases e:x.kind=y.kind
 case neg=>simp [lJ,-V,-y3,-y0,J,WA,g1,g2,hi,hk,e,jM]
 simp [lJ,-V,-y3,-y0,J,WA,g1,g2,hi,hk,e];refine xA x.mems.length (fun i s=>RnI x y (wN (x.mems.take i) y.mems) s/\(s.env 12).v=.int .i64 i)
  (fun e s=>e=.exit 0/\RnI x y (wN x.mems y.mems) s) (fun i hi s k h ih hk=>?_) _ _ ?_ (fun e1 s h=>?_)
 ·obtain ⟨⟨e9,e10,m9,m10,e11,a11⟩,e12⟩:=h;refine tA ?_;simp only [kA] at m9 m10;by_cases da:i<x.mems.length
  ·have fa:(i:Int)<x.mems.length:=by omega
   have gm:(x.mems.map nA)[i]?=some (nA x.mems[i]):=by simp [da]
   have oc:=ZA (i:=i);have db:=comL_step (ys:=y.mems) da;have bd:=comLT_len y.mems x.mems i;have eb:=jS y x.mems[i].id (by omega);rw [db] at ih;generalize x.mems[i]=f at *
   generalize wN (x.mems.take i) y.mems=out at *
   have q:=gG out;have ka:eB 16 (out.length + 1)=true:=by rw [EA]; omega
   simp only [nA] at gm;simp only [gA,eA,wQ] at eb;by_cases c:0<=xB y.mems f.id
   ·obtain ⟨g,hg,lv⟩:=tO c;have gg:(y.mems.map nA)[(xB y.mems f.id).toNat]?=some (nA g):=by rw [yc,hg]; rfl
    rw [cY c hg] at ih;have dd:max (xB y.mems f.id) 0=xB y.mems f.id:=by omega
    simp only [c,decide_true,dd] at eb;generalize xB y.mems f.id=ix at *
    simp only [nA] at gg;rcases a11 with ⟨rfl,a11⟩ | ⟨na,a11⟩
    ·simp at e11;simp [QG,-V,-y3,-y0,J,e9,e10,e11,a11,e12,m9,m10,fa,gm,eb,gg,c,oc,tX,E5];refine ih da _ ⟨⟨?_,?_,?_,?_,?_,.inr ⟨by simp,?_⟩⟩,?_⟩ <;> simp [e9,e10,m9,m10,kA,XA]
    ·have lg:out.isEmpty=false:=by simpa using na
     rw [lg] at e11;simp [QG,-V,-y3,-y0,J,e9,e10,e11,a11,e12,m9,m10,fa,gm,eb,gg,c,oc,ka,q];refine ih da _ ⟨⟨?_,?_,?_,?_,?_,.inr ⟨by simp,?_⟩⟩,?_⟩ <;> simp [e9,e10,m9,m10,kA,XA]
   ·rw [xY c,List.append_nil] at ih;simp only [c,decide_false] at eb;simp [QG,-V,-y3,-y0,J,e9,e10,e11,e12,m9,m10,fa,gm,eb,c,oc];refine ih da _ ⟨⟨?_,?_,?_,?_,?_,?_⟩,?_⟩
    ·simp [e9]
    ·simp [e10]
    ·simp [m9,kA]
    ·simp [m10,kA]
    ·simp [e11]
    ·simpa using a11
    ·simp
  ·have fa:¬ (i:Int)<x.mems.length:=by omega
   simp [QG,-V,-y3,-y0,J,e9,m9,e12,fa];rw [yx (by omega)] at e11 a11;refine hk _ _ ⟨rfl,⟨?_,?_,?_,?_,?_,?_⟩⟩
   ·simp [e9]
   ·simp [e10]
   ·simp [m9,kA]
   ·simp [m10,kA]
   ·simp [e11]
   ·simpa using a11
 ·refine ⟨⟨?_,?_,?_,?_,?_,.inl ⟨rfl,?_⟩⟩,?_⟩ <;> simp [kA,e,wN]
 obtain ⟨rfl,e9,e10,m9,m10,e11,a11⟩:=h;have bd:=BO y.mems x.mems;have rd:jM x y=(wN x.mems y.mems++PX x y++mQ x y).foldl cD []:=by
  unfold jM;rw [if_pos e]
 generalize wN x.mems y.mems=out at *
 unfold PX mQ at rd;simp only [kA] at m9 m10;rw [e] at rd;have q:=gG out;have ka:eB 16 (out.length + 1)=true:=by rw [EA]; omega
 by_cases k8:y.kind=8
 ·by_cases c:0<x.max
  ·rw [if_pos ⟨k8,c⟩,if_pos (.inr ⟨.inr k8,c⟩)] at rd;have nf:eB 16 (out.length + 1 + 1)=true:=by rw [EA]; omega
   have q2:=gG (out++[(x.key,y.key)]);simp only [yS,yg,yn,XA] at q2;rcases a11 with ⟨rfl,a11⟩ | ⟨na,a11⟩
   ·simp at e11;simp [-V,-y3,-y0,J,e9,e10,e11,a11,m9,m10,e,k8,c,tX,E5];refine AJ [(x.key,y.key),(x.elem,y.elem)] (by simp) _ ?_ ?_ ?_ _ (fun s' nh=>?_)
    ·simp [XA]
    ·simp
    ·simp
    ·simp [-V,-y3,-y0,J,nh,rd]
   ·have lg:out.isEmpty=false:=by simpa using na
    rw [lg] at e11;simp [-V,-y3,-y0,J,e9,e10,e11,a11,m9,m10,e,k8,c,ka,nf,q,q2];refine AJ (out++[(x.key,y.key)]++[(x.elem,y.elem)]) (by simp; omega) _ ?_ ?_ ?_ _ (fun s' nh=>?_)
    ·simp [XA]
    ·simp
    ·simp
    ·simp only [yU] at nh rd;simp [-V,-y3,-y0,J,nh,rd]
  ·rw [if_neg (fun h=>c h.2),if_neg (by omega),List.append_nil,List.append_nil] at rd;simp [-V,-y3,-y0,J,e9,e10,e11,m9,m10,e,k8,c];refine AJ out (by omega) _ ?_ ?_ ?_ _ (fun s' nh=>?_)
   ·simp [e11]
   ·simp
   ·simp
   ·simp [-V,-y3,-y0,J,nh,rd]
 rw [if_neg (fun h=>k8 h.1),List.append_nil] at rd;by_cases k9:y.kind=9
 ·rw [if_pos (.inl k9)] at rd;rcases a11 with ⟨rfl,a11⟩ | ⟨na,a11⟩
  ·simp at e11;simp [-V,-y3,-y0,J,e9,e10,e11,a11,m9,m10,e,k9,tX,E5];refine AJ [(x.elem,y.elem)] (by simp) _ ?_ ?_ ?_ _ (fun s' nh=>?_)
   ·simp [XA]
   ·simp
   ·simp
   ·simp [-V,-y3,-y0,J,nh,rd]
  ·have lg:out.isEmpty=false:=by simpa using na
   rw [lg] at e11;simp [-V,-y3,-y0,J,e9,e10,e11,a11,m9,m10,e,k9,ka,q];refine AJ (out++[(x.elem,y.elem)]) (by simp; omega) _ ?_ ?_ ?_ _ (fun s' nh=>?_)
   ·simp [XA]
   ·simp
   ·simp
   ·simp [-V,-y3,-y0,J,nh,rd]
 by_cases k7:y.kind=7
 ·by_cases c:0<x.max
  ·rw [if_pos (.inr ⟨.inl k7,c⟩)] at rd;rcases a11 with ⟨rfl,a11⟩ | ⟨na,a11⟩
   ·simp at e11;simp [-V,-y3,-y0,J,e9,e10,e11,a11,m9,m10,e,k7,c,tX,E5];refine AJ [(x.elem,y.elem)] (by simp) _ ?_ ?_ ?_ _ (fun s' nh=>?_)
    ·simp [XA]
    ·simp
    ·simp
    ·simp [-V,-y3,-y0,J,nh,rd]
   ·have lg:out.isEmpty=false:=by simpa using na
    rw [lg] at e11;simp [-V,-y3,-y0,J,e9,e10,e11,a11,m9,m10,e,k7,c,ka,q];refine AJ (out++[(x.elem,y.elem)]) (by simp; omega) _ ?_ ?_ ?_ _ (fun s' nh=>?_)
    ·simp [XA]
    ·simp
    ·simp
    ·simp [-V,-y3,-y0,J,nh,rd]
  ·rw [if_neg (by omega),List.append_nil] at rd;simp [-V,-y3,-y0,J,e9,e10,e11,m9,m10,e,k7,c];refine AJ out (by omega) _ ?_ ?_ ?_ _ (fun s' nh=>?_)
   ·simp [e11]
   ·simp
   ·simp
   ·simp [-V,-y3,-y0,J,nh,rd]
 rw [if_neg (by omega),List.append_nil] at rd;simp [-V,-y3,-y0,J,e9,e10,e11,m9,m10,e,k7,k8,k9];refine AJ out (by omega) _ ?_ ?_ ?_ _ (fun s' nh=>?_)
 ·simp [e11]
 ·simp
 ·simp
 ·simp [-V,-y3,-y0,J,nh,rd]
def rN (n m:Nat) (p:Pr):Prop:=0<=p.1/\p.1<n/\0<=p.2/\p.2<m
structure IQ (w r:SG) (nx:Pr->List Pr) (rs:Pr->Int):Prop where
 suc:∀ p,rN w.types.length r.types.length p->gA 79 [.agg (WA w),.int .i64 p.1,.agg (WA r),.int .i64 p.2] (.sl (nx p).isEmpty ((nx p).map XA))
 rsuc:∀ p,rN w.types.length r.types.length p->gA 41 [.agg (WA w),.int .i64 p.1,.agg (WA r),.int .i64 p.2] (.sl (nx p).isEmpty ((nx p).map XA))
 rsn:∀ p,rN w.types.length r.types.length p->gA 77 [.agg (WA w),.int .i64 p.1,.agg (WA r),.int .i64 p.2] (.int .i64 (rs p))
 rrsn:∀ p,rN w.types.length r.types.length p->gA 78 [.agg (WA w),.int .i64 p.1,.agg (WA r),.int .i64 p.2] (.int .i64 (rs p))
 rng:∀ p,rN w.types.length r.types.length p->∀ q∈nx p,rN w.types.length r.types.length q
 len:∀ p,rN w.types.length r.types.length p->(nx p).length<=2000
 wl:w.types.length<=32
 rl:r.types.length<=32
abbrev JN:=Pr × List Pr × Int
def SF (path:List Pr) (i:Int) (out:List JN) (q:Pr):List JN:=if q∈out.map (·.1) then out else out++[(q,path++[q],i)]
def aD (nx:Pr->List Pr) (p:Pr):Nat->List JN
 | 0=>[(p,[p],-1)]
 | i + 1=>match (aD nx p i)[i]? with
  | some e=>(nx e.1).foldl (SF e.2.1 i) (aD nx p i)
  | none=>aD nx p i
def sC (l:List JN):List Pr:=l.map (·.1)
theorem addE_prs (path:List Pr) (i:Int) (out:List JN) (q:Pr):sC (SF path i out q)=cD (sC out) q:=by
 unfold SF cD sC;split <;> simp
theorem DG (path:List Pr) (i:Int):∀ (l:List Pr) (out:List JN),sC (l.foldl (SF path i) out)=l.foldl cD (sC out)
 | [],_=>rfl
 | q :: r,out=>by rw [List.foldl_cons,List.foldl_cons,DG path i r,addE_prs]
theorem T6 {out:List Pr} (h:out.Nodup) (q:Pr):(cD out q).Nodup:=by
 unfold cD;split
 ·exact h
 ·rename_i hq;rw [List.nodup_append];refine ⟨h,by simp,?_⟩;rintro a ha b hb rfl;simp at hb;subst hb;exact hq ha
theorem MT:∀ (l out:List Pr),out.Nodup->(l.foldl cD out).Nodup
 | [],_,h=>h
 | q :: r,_,h=>MT r _ (T6 h q)
theorem addP_mem {out:List Pr} {q x:Pr}:x∈cD out q ↔ x∈out\/x=q:=by
 unfold cD;split
 ·rename_i h;constructor
  ·exact .inl
  ·rintro (h' | rfl)
   ·exact h'
   ·exact h
 ·simp
theorem CL:∀ (l out:List Pr) {x:Pr},x∈l.foldl cD out ↔ x∈out\/x∈l
 | [],out,x=>by simp
 | q :: r,out,x=>by
  rw [List.foldl_cons,CL r,addP_mem];simp [or_assoc]
theorem IP (nx:Pr->List Pr) (p:Pr):∀ i,(sC (aD nx p i)).Nodup
 | 0=>by simp [aD,sC]
 | i + 1=>by
  rw [aD];split
  ·rw [DG]; exact MT _ _ (IP nx p i)
  ·exact IP nx p i
theorem pI {n m:Nat} {nx:Pr->List Pr} {p:Pr} (hp:rN n m p) (hr:∀ p,rN n m p->∀ q∈nx p,rN n m q):∀ i,∀ x∈sC (aD nx p i),rN n m x
 | 0=>by simp [aD,sC]; exact hp
 | i + 1=>fun x hx=>by
  rw [aD] at hx;split at hx
  ·rename_i e he;rw [DG,CL] at hx;have hi:e.1∈sC (aD nx p i):=yN (yj he);rcases hx with hx | hx
   ·exact pI hp hr i x hx
   ·exact hr _ (pI hp hr i _ hi) x hx
  ·exact pI hp hr i x hx
def r8 (n m:Nat):List Pr:=(List.range n).flatMap fun (a:Nat)=>(List.range m).map fun (b:Nat)=>((a:Int),(b:Int))
theorem gZ (m:Nat):∀ l:List Nat,(l.map fun _=>m).sum=l.length * m
 | []=>by simp
 | x :: r=>by
  simp only [yg,List.sum_cons,gZ m r,yE,yw];omega
theorem allPr_len (n m:Nat):(r8 n m).length=n * m:=by
 have h:=gZ m (List.range n);rw [List.length_range] at h;simp [r8,List.length_flatMap,h]
theorem mem_allPr {n m:Nat} {p:Pr} (h:rN n m p):p∈r8 n m:=by
 obtain ⟨a,b⟩:=p;obtain ⟨h1,h2,h3,h4⟩:=h;simp only at h1 h2 h3 h4;unfold r8;rw [List.mem_flatMap];refine ⟨a.toNat,by simp; omega,?_⟩;rw [yy];refine ⟨b.toNat,by simp; omega,?_⟩;rw [Int.toNat_of_nonneg h1,Int.toNat_of_nonneg h3]
theorem XY:∀ {l m:List Pr},l.Nodup->(∀ x∈l,x∈m)->l.length<=m.length
 | [],m,_,_=>Nat.zero_le _
 | x :: r,m,hn,hm=>by
  rw [List.nodup_cons] at hn;have hx:=hm x (by simp);have:=XY (l:=r) (m:=m.erase x) hn.2 (fun y hy=>by
   have na:y≠x:=fun e=>hn.1 (e ▸ hy)
   exact (List.mem_erase_of_ne na).2 (hm y (by simp [hy])))
  rw [List.length_erase_of_mem hx] at this;have hp:0<m.length:=List.length_pos_of_mem hx;simp only [yE];omega
theorem DM {n m:Nat} {nx:Pr->List Pr} {p:Pr} (hp:rN n m p) (hr:∀ p,rN n m p->∀ q∈nx p,rN n m q) (i:Nat):(aD nx p i).length<=n * m:=by
 have h1:=XY (IP nx p i) (fun x hx=>mem_allPr (pI hp hr i x hx));rw [allPr_len] at h1;simpa [sC] using h1
theorem G2 (path:List Pr) (i:Int) (out:List JN) (q:Pr):∃ t,SF path i out q=out++t:=by
 unfold SF;split
 ·exact ⟨[],by simp⟩
 ·exact ⟨_,rfl⟩
theorem OS (path:List Pr) (i:Int):∀ (l:List Pr) (out:List JN),∃ t,l.foldl (SF path i) out=out++t
 | [],out=>⟨[],by simp⟩
 | q :: r,out=>by
  obtain ⟨t,ht⟩:=G2 path i out q;obtain ⟨u,hu⟩:=OS path i r (SF path i out q);exact ⟨t++u,by rw [List.foldl_cons,hu,ht,yU]⟩
theorem XN (nx:Pr->List Pr) (p:Pr) (i:Nat):∃ t,aD nx p (i + 1)=aD nx p i++t:=by
 rw [aD];split
 ·exact OS _ _ _ _
 ·exact ⟨[],by simp⟩
theorem M2 (nx:Pr->List Pr) (p:Pr) {i:Nat}:∀ {j:Nat},i<=j->∃ t,aD nx p j=aD nx p i++t
 | 0,h=>by
  have:i=0:=by omega
  subst this;exact ⟨[],by simp⟩
 | j + 1,h=>by
  by_cases e:i=j + 1
  ·subst e; exact ⟨[],by simp⟩
  ·obtain ⟨t,ht⟩:=M2 nx p (i:=i) (j:=j) (by omega);obtain ⟨u,hu⟩:=XN nx p j;exact ⟨t++u,by rw [hu,ht,yU]⟩
theorem OZ (nx:Pr->List Pr) (p:Pr) {i j k:Nat} (h:i<=j) {e:JN} (he:(aD nx p i)[k]?=some e):(aD nx p j)[k]?=some e:=by
 obtain ⟨t,ht⟩:=M2 nx p h;rw [ht,yF (y9.1 he).1];exact he
theorem i3 {nx:Pr->List Pr} {p:Pr} {i:Nat} (h:(aD nx p i).length=i):∀ {j:Nat},i<=j->aD nx p j=aD nx p i
 | 0,hj=>by
  have:i=0:=by omega
  rw [this]
 | j + 1,hj=>by
  by_cases e:i=j + 1
  ·rw [e]
  ·have hb:=i3 h (j:=j) (by omega);rw [aD,hb,yW (by omega)]
def DC (nx:Pr->List Pr) (p:Pr):List JN:=aD nx p 1024
theorem jR {nx:Pr->List Pr} {p:Pr} {i:Nat} (h:(aD nx p i).length=i) (hi:i<=1024):DC nx p=aD nx p i:=i3 h hi
structure iR (nx:Pr->List Pr) (p:Pr) (l:List JN) (k:Nat) (e:JN):Prop where
 bef:(k=0/\e=(p,[p],-1))\/(∃ j:Nat,j<k/\e.2.2=j/\∃ e',l[j]?=some e'/\e.2.1=e'.2.1++[e.1]/\e.1∈nx e'.1)
theorem iR.more {nx:Pr->List Pr} {p:Pr} {l:List JN} {k:Nat} {e:JN} (h:iR nx p l k e) (t:List JN):iR nx p (l++t) k e:=by
 rcases h with ⟨h | ⟨j,h1,h2,e',h3,h4⟩⟩
 ·exact ⟨.inl h⟩
 ·exact ⟨.inr ⟨j,h1,h2,e',by rw [yF (y9.1 h3).1]; exact h3,h4⟩⟩
theorem Z2 {nx:Pr->List Pr} {p:Pr} {i:Nat} {e0:JN}:∀ (l:List Pr) (out:List JN),(∀ q∈l,q∈nx e0.1)->out[i]?=some e0->(∀ k e,out[k]?=some e->iR nx p out k e)->∀ k e,(l.foldl (SF e0.2.1 i) out)[k]?=some e->iR nx p (l.foldl (SF e0.2.1 i) out) k e
 | [],_,_,_,h=>h
 | q :: r,out,hq,hi,h=>by
  rw [List.foldl_cons];have tg:=(y9.1 hi).1;refine Z2 r _ (fun x hx=>hq x (by simp [hx])) ?_ ?_
  ·obtain ⟨t,ht⟩:=G2 e0.2.1 i out q;rw [ht,yF tg];exact hi
  ·intro k e he;unfold SF at he ⊢;split at he
   ·rename_i hc;rw [if_pos hc];exact h k e he
   ·rename_i hc;rw [if_neg hc];by_cases hk:k<out.length
    ·rw [yF hk] at he;exact (h k e he).more _
    ·have hk2:k=out.length:=by
      have:=(y9.1 he).1;simp at this;omega
     subst hk2;simp at he;subst he;exact ⟨.inr ⟨i,tg,rfl,e0,by rw [yF tg]; exact hi,rfl,hq q (by simp)⟩⟩
theorem zV (nx:Pr->List Pr) (p:Pr):∀ i,∀ k e,(aD nx p i)[k]?=some e->iR nx p (aD nx p i) k e
 | 0=>fun k e he=>by
  simp [aD] at he ⊢;cases k with
  | zero=>simp at he; subst he; exact ⟨.inl ⟨rfl,rfl⟩⟩
  | succ k=>simp at he
 | i + 1=>by
  rw [aD];split
  ·rename_i e0 ic;exact Z2 _ _ (fun q hq=>hq) ic (zV nx p i)
  ·exact zV nx p i
theorem I6 {nx:Pr->List Pr} {p:Pr} {i:Nat}:∀ k,k<i->∀ e,(aD nx p i)[k]?=some e->∀ q∈nx e.1,q∈sC (aD nx p i):=by
 induction i with
 | zero=>intro k hk; omega
 | succ i ih =>
  intro k hk e he q hq;have hpre:=XN nx p i;obtain ⟨t,ht⟩:=hpre;by_cases hki:k=i
  ·subst hki;cases hb:(aD nx p k)[k]? with
   | none =>
    have hE:aD nx p (k + 1)=aD nx p k:=by rw [aD,hb]
    rw [hE,hb] at he;cases he
   | some e0 =>
    have:=OZ nx p (Nat.le_succ k) hb;rw [this] at he;injection he with he;subst he;rw [aD,hb];simp only;rw [DG,CL];exact .inr hq
  ·by_cases zh:k<(aD nx p i).length
   ·have zg:(aD nx p i)[k]?=some e:=by rw [ht,yF zh] at he; exact he
    have:=ih k (by omega) e zg q hq;rw [ht];unfold sC at this ⊢;rw [yS];exact List.mem_append_left _ this
   ·have db:(aD nx p i).length=i\/(aD nx p i).length<i:=by omega
    have hE:aD nx p (i + 1)=aD nx p i:=by rw [aD,yW (by omega)]
    rw [hE,yW (by omega)] at he;cases he
section
variable {n m:Nat} {nx:Pr->List Pr} {p:Pr} (hp:rN n m p) (hr:∀ p,rN n m p->∀ q∈nx p,rN n m q) (hn:n<=32) (hm:m<=32)
include n m nx p hp hr hn hm
theorem zN:(DC nx p).length<=1024:=by
 have h1:=DM hp hr 1024;have h2:n * m<=32 * 32:=Nat.mul_le_mul hn hm;unfold DC;omega
theorem ZO {x:Pr} (hx:x∈sC (DC nx p)):∀ q∈nx x,q∈sC (DC nx p):=by
 obtain ⟨e,he,rfl⟩:=yy.1 hx;obtain ⟨k,hk,rfl⟩:=yB he;have hf:=zN hp hr hn hm;exact I6 k (by omega) _ (y4 hk)
end
theorem PS (nx:Pr->List Pr) (p:Pr):(DC nx p)[0]?=some (p,[p],-1):=OZ nx p (Nat.zero_le 1024) rfl
def xM (p:Pr):List AV:=[.agg (XA p),.bool true]
def gR (e:JN):List AV:=[.int .i64 e.2.2]
def OB (s:SG) (t:Int):List AV:=[.sl s.nl (s.types.map eA),.int .i64 t]
def pC (s:SG) (t:Int):List qA:=[⟨.sl s.nl (s.types.map eA),.no⟩,⟨.int .i64 t,.no⟩]
theorem DT (p:Pr):∀ l:List Pr,DI (l.map xM) (.agg [.int .i64 p.1,.int .i64 p.2])=if p∈l then some (AV.bool true) else none
 | []=>rfl
 | x :: r=>by
  have:=DT p r;simp only [yg,xM,XA,DI,TO,HQ];by_cases h1:x.1=p.1
  ·by_cases h2:x.2=p.2
   ·have e:x=p:=Prod.ext h1 h2;simp [h1,h2,e]
   ·have e:¬ p=x:=fun h=>h2 (by rw [h])
    simp [h1,h2,e,this,xM]
  ·have e:¬ p=x:=fun h=>h1 (by rw [h])
   simp [h1,e,this,xM]
theorem FT (p:Pr):∀ l:List Pr,¬ p∈l->lG (l.map xM) (.agg [.int .i64 p.1,.int .i64 p.2]) (.bool true)=(l++[p]).map xM
 | [],_=>rfl
 | x :: r,hn=>by
  have h:¬ p=x:=fun e=>hn (by simp [e])
  have:=FT p r fun e=>hn (by simp [e])
  have h':¬ (x.1=p.1/\x.2=p.2):=fun ⟨a,b⟩=>h (Prod.ext a.symm b.symm)
  simp only [yg,xM,XA,lG,TO,HQ,List.cons_append];by_cases h1:x.1=p.1
  ·have h2:¬ x.2=p.2:=fun b=>h' ⟨h1,b⟩
   simp [h1,h2,this,xM,XA]
  ·simp [h1,this,xM,XA]
theorem kX:∀ l:List Pr,AI (.agg [some .i64,some .i64]) (l.map xM)=true
 | []=>rfl
 | x :: r=>by
  have:=kX r;simp only [AI] at this;simp [AI,xM,XA,NF,PI,AV.flat,AV.scal]
theorem els_bef (l:List JN):lB 1 (l.map gR)=true:=cC _ _ _ fun _=>rfl
structure ReI (w r:SG) (t u:Int) (out:List JN) (s:aA):Prop where
 e2:(s.env 2).v=.ptr 2 1 0
 e3:(s.env 3).v=.ptr 3 1 0
 m2:s.mem 2 1=some (pC w t)
 m3:s.mem 3 1=some (pC r u)
 e6:(s.env 6).v=.sl false ((sC out).map XA)
 a6:(s.env 6).a=.ex\/(s.env 6).a=.own 59 63
 e7:(s.env 7).v=.sl false (out.map gR)
 a7:(s.env 7).a=.ex\/(s.env 7).a=.own 63 3
 e8:(s.env 8).v=.mp 19 3
 ob:s.obj 19 3=some (OG ((sC out).map xM))
theorem TZ {path:List Pr} {i:Int} {out:List JN} {q:Pr} (h:q∈sC out):SF path i out q=out:=if_pos h
theorem gV {path:List Pr} {i:Int} {out:List JN} {q:Pr} (h:¬ q∈sC out):SF path i out q=out++[(q,path++[q],i)]:=if_neg h
theorem reach_in {rv:RV} (w r:SG) (t u:Int) (path:List Pr) (i:Nat) (hi:i<=1000000) (qs:List Pr) (hq:qs.length<=1000000) (qb:Bool) (out:List JN) (ho:out.length<=1000000) (s:aA) (h:ReI w r t u out s) (e9:(s.env 9).v=.int .i64 i) (e44:(s.env 44).v=.sl qb (qs.map XA)) (e45:(s.env 45).v=.int .i64 qs.length) (e46:(s.env 46).v=.int .i64 0) (k:Ex->aA->Option RV)
  (hk:∀ s',ReI w r t u (qs.foldl (SF path i) out) s'->(s'.env 9).v=.int .i64 i->k (.exit 2) s'=some rv):OI jA rA HD s k=some rv:=by
 refine xA qs.length (fun j s=>ReI w r t u ((qs.take j).foldl (SF path i) out) s/\(s.env 9).v=.int .i64 i/\(s.env 44).v=.sl qb (qs.map XA)/\(s.env 45).v=.int .i64 qs.length/\(s.env 46).v=.int .i64 j)
  (fun e s=>e=.exit 2/\ReI w r t u (qs.foldl (SF path i) out) s/\(s.env 9).v=.int .i64 i) (fun j hj s k h ih hk=>?_) _ _ ⟨h,e9,e44,e45,e46⟩ (fun e s h=>by obtain ⟨rfl,h1,h2⟩:=h; exact hk _ h1 h2)
 obtain ⟨⟨e2,e3,m2,m3,e6,a6,e7,a7,e8,ob⟩,e9,e44,e45,e46⟩:=h;refine tA ?_;by_cases da:j<qs.length
 ·have fa:(j:Int)<qs.length:=by omega
  have g1:(qs.map XA)[j]?=some (XA qs[j]):=by simp [da]
  have hw:=ZA (i:=j);have db:(qs.take (j + 1)).foldl (SF path i) out=SF path i ((qs.take j).foldl (SF path i) out) qs[j]:=by rw [<- yH da,List.foldl_append]; rfl
  have ja:((qs.take j).foldl (SF path i) out).length<=out.length + j:=by
   have h1:=wJ (qs.take j) (sC out);rw [<- DG path i] at h1;simp only [sC,yo,yC] at h1;omega
  rw [db] at ih;generalize (qs.take j).foldl (SF path i) out=out' at *
  generalize qs[j]=q at *
  have ne:=DT q (sC out');have bn:=kX (sC out');have q1:=gG (sC out');have q2:=els_bef out';have uc:(sC out').length=out'.length:=by simp [sC]
  have de:eB 16 (out'.length + 1)=true:=by rw [EA]; omega
  have nf:eB 8 (out'.length + 1)=true:=by rw [EA]; omega
  simp only [XA] at g1;by_cases c:q∈sC out'
  ·rw [if_pos c] at ne;rw [TZ c] at ih;simp [HD,-V,-y3,-y0,J,e8,e44,e45,e46,fa,g1,ob,XE,bn,NF,PI,AV.flat,AV.scal,ne,hw];refine ih da _ ⟨⟨?_,?_,?_,?_,?_,?_,?_,?_,?_,?_⟩,?_,?_,?_,?_⟩
   ·simp [e2]
   ·simp [e3]
   ·simp [m2]
   ·simp [m3]
   ·simp [e6]
   ·simpa using a6
   ·simp [e7]
   ·simpa using a7
   ·simp [e8]
   ·simp [ob]
   ·simp [e9]
   ·simp [e44]
   ·simp [e45]
   ·simp
  ·rw [if_neg c] at ne;rw [gV c] at ih;have hse:=FT q (sC out') c;have sy:sC (out'++[(q,path++[q],(i:Int))])=sC out'++[q]:=by simp [sC]
   rcases a6 with a6 | a6 <;> rcases a7 with a7 | a7
   all_goals
    simp [HD,-V,-y3,-y0,J,e6,a6,e7,a7,e8,e9,e44,e45,e46,fa,g1,ob,XE,bn,NF,PI,AV.flat,AV.scal,ne,hse,hw,uc,de,nf,q1,q2];refine ih da _ ⟨⟨?_,?_,?_,?_,?_,.inr ?_,?_,.inr ?_,?_,?_⟩,?_,?_,?_,?_⟩
    ·simp [e2]
    ·simp [e3]
    ·simp [m2,pC]
    ·simp [m3,pC]
    ·simp [sy,XA]
    ·simp
    ·simp [gR]
    ·simp
    ·simp [e8]
    ·simp [sy]
    ·simp [e9]
    ·simp [e44]
    ·simp [e45]
    ·simp
 ·have fa:¬ (j:Int)<qs.length:=by omega
  rw [yx (by omega)] at e6 e7 ob;simp [HD,-V,-y3,-y0,J,e45,e46,fa];refine hk _ _ ⟨rfl,⟨?_,?_,?_,?_,?_,?_,?_,?_,?_,?_⟩,?_⟩
  ·simp [e2]
  ·simp [e3]
  ·simp [m2]
  ·simp [m3]
  ·simp [e6]
  ·simpa using a6
  ·simp [e7]
  ·simpa using a7
  ·simp [e8]
  ·simp [ob]
  ·simp [e9]
theorem T7 {w r:SG} {nx:Pr->List Pr} {rs:Pr->Int} (hF:IQ w r nx rs) {p:Pr} (hp:rN w.types.length r.types.length p):gA 81 [.agg (OB w p.1),.agg (OB r p.2)] (.tup [.sl false ((sC (DC nx p)).map XA),.sl false ((DC nx p).map gR)]):=by
 refine wA (c:=dG) rfl rfl ?_;have ab:∀ i,(aD nx p i).length<=1024:=fun i=>by
  have h1:=DM hp hF.rng i;have h2:w.types.length * r.types.length<=32 * 32:=Nat.mul_le_mul hF.wl hF.rl;omega
 simp [dG,-V,-y3,-y0,J,OB,XE,AI,NF,PI,AV.flat,AV.scal,lG];refine xA 1024 (fun i s=>ReI w r p.1 p.2 (aD nx p i) s/\(s.env 9).v=.int .i64 i/\i<=(aD nx p i).length)
  (fun e s=>e=.exit 0/\ReI w r p.1 p.2 (DC nx p) s) (fun i hi s k h ih hk=>?_) _ _ ?_ (fun e s h=>?_)
 ·obtain ⟨hI,e9,tg⟩:=h;have hI':=hI;obtain ⟨e2,e3,m2,m3,e6,a6,e7,a7,e8,ob⟩:=hI;refine tA ?_;simp only [pC] at m2 m3;have up:=ab i;have uc:(sC (aD nx p i)).length=(aD nx p i).length:=by simp [sC]
  by_cases da:i<(aD nx p i).length
  ·have fa:(i:Int)<(aD nx p i).length:=by omega
   obtain ⟨e0,ic⟩:∃ e0,(aD nx p i)[i]?=some e0:=⟨_,y4 da⟩;have g1:((sC (aD nx p i)).map XA)[i]?=some (XA e0.1):=by simp [sC,ic]
   have bi:=pI hp hF.rng i e0.1 (yN (yj ic));have wk:=hF.suc e0.1 bi;have tv:=hF.len e0.1 bi;have hw:=ZA (i:=i);have db:aD nx p (i + 1)=(nx e0.1).foldl (SF e0.2.1 i) (aD nx p i):=by rw [aD,ic]
   have rk:=ab (i + 1);have uo:i + 1<=(aD nx p (i + 1)).length:=by
    obtain ⟨t,ht⟩:=XN nx p i;rw [ht,yl];omega
   simp only [gA,WA,XA] at wk g1;generalize nx e0.1=qs at *
   simp [JG,-V,-y3,-y0,J,e2,e3,e6,e9,m2,m3,uc,fa,g1,wk];refine reach_in w r p.1 p.2 e0.2.1 i (by omega) qs (by omega) qs.isEmpty (aD nx p i) (by omega) _ ⟨?_,?_,?_,?_,?_,?_,?_,?_,?_,?_⟩ ?_ ?_ ?_ ?_ _ (fun s' h' e9'=>?_)
   ·simp [e2]
   ·simp [e3]
   ·simp [m2,pC]
   ·simp [m3,pC]
   ·simp [e6]
   ·simpa using a6
   ·simp [e7]
   ·simpa using a7
   ·simp [e8]
   ·simp [ob]
   ·simp [e9]
   ·simp
   ·simp
   ·simp
   ·rw [<- db] at h';obtain ⟨e2,e3,m2,m3,e6,a6,e7,a7,e8,ob⟩:=h';simp [-V,-y3,-y0,J,e9',hw];refine ih (by omega) _ ⟨⟨?_,?_,?_,?_,?_,?_,?_,?_,?_,?_⟩,?_,uo⟩
    ·simp [e2]
    ·simp [e3]
    ·simp [m2]
    ·simp [m3]
    ·simp [e6]
    ·simpa using a6
    ·simp [e7]
    ·simpa using a7
    ·simp [e8]
    ·simp [ob]
    ·simp
  ·have fa:¬ (i:Int)<(aD nx p i).length:=by omega
   rw [<- jR (nx:=nx) (p:=p) (i:=i) (by omega) hi] at hI';simp [JG,-V,-y3,-y0,J,e6,e9,uc,fa];obtain ⟨e2,e3,m2,m3,e6,a6,e7,a7,e8,ob⟩:=hI';refine hk _ _ ⟨rfl,⟨?_,?_,?_,?_,?_,?_,?_,?_,?_,?_⟩⟩
   ·simp [e2]
   ·simp [e3]
   ·simp [m2]
   ·simp [m3]
   ·simp [e6]
   ·simpa using a6
   ·simp [e7]
   ·simpa using a7
   ·simp [e8]
   ·simp [ob]
 ·refine ⟨⟨?_,?_,?_,?_,?_,.inl ?_,?_,.inl ?_,?_,?_⟩,?_,?_⟩ <;> simp [pC,aD,sC,XA,gR,xM]
 ·obtain ⟨rfl,hI⟩:=h;obtain ⟨e2,e3,m2,m3,e6,a6,e7,a7,e8,ob⟩:=hI;simp [-V,-y3,-y0,J,e6,e7]
structure RrI (w r:SG) (out:List Pr) (s:aA):Prop where
 e4:(s.env 4).v=.ptr 4 1 0
 e6:(s.env 6).v=.ptr 6 1 0
 m4:s.mem 4 1=some [⟨.sl w.nl (w.types.map eA),.no⟩]
 m6:s.mem 6 1=some [⟨.sl r.nl (r.types.map eA),.no⟩]
 e9:(s.env 9).v=.sl false (out.map XA)
 a9:(s.env 9).a=.ex\/(s.env 9).a=.own 55 63
theorem rreach_in {rv:RV} (w r:SG) (i:Nat) (qs:List Pr) (hq:qs.length<=1000000) (qb:Bool) (out:List Pr) (ho:out.length<=1000000) (s:aA) (h:RrI w r out s) (e10:(s.env 10).v=.int .i64 i) (e11:(s.env 11).v=.sl qb (qs.map XA)) (e12:(s.env 12).v=.int .i64 0) (k:Ex->aA->Option RV)
  (hk:∀ s',RrI w r (qs.foldl cD out) s'->(s'.env 10).v=.int .i64 i->k (.exit 2) s'=some rv):OI jA rA JE s k=some rv:=by
 refine xA qs.length (fun j s=>RrI w r ((qs.take j).foldl cD out) s/\(s.env 10).v=.int .i64 i/\(s.env 11).v=.sl qb (qs.map XA)/\(s.env 12).v=.int .i64 j)
  (fun e s=>e=.exit 2/\RrI w r (qs.foldl cD out) s/\(s.env 10).v=.int .i64 i) (fun j hj s k h ih hk=>?_) _ _ ⟨h,e10,e11,e12⟩ (fun e s h=>by obtain ⟨rfl,h1,h2⟩:=h; exact hk _ h1 h2)
 obtain ⟨⟨e4,e6,m4,m6,e9,a9⟩,e10,e11,e12⟩:=h;refine tA ?_;by_cases da:j<qs.length
 ·have fa:(j:Int)<qs.length:=by omega
  have g1:(qs.map XA)[j]?=some (XA qs[j]):=by simp [da]
  have hw:=ZA (i:=j);have db:(qs.take (j + 1)).foldl cD out=cD ((qs.take j).foldl cD out) qs[j]:=by rw [<- yH da,List.foldl_append]; rfl
  have ja:((qs.take j).foldl cD out).length<=out.length + j:=by
   have h1:=wJ (qs.take j) out;simp only [yC] at h1;omega
  rw [db] at ih;generalize (qs.take j).foldl cD out=out' at *
  generalize qs[j]=q at *
  have zb:=OT out' (by omega) false q;have q1:=gG out';have de:eB 16 (out'.length + 1)=true:=by rw [EA]; omega
  simp only [gA,XA] at g1 zb;by_cases c:q∈out'
  ·rw [decide_eq_true c] at zb;rw [show cD out' q=out' from if_pos c] at ih;simp [JE,-V,-y3,-y0,J,e9,e11,e12,fa,g1,zb,hw];refine ih da _ ⟨⟨?_,?_,?_,?_,?_,?_⟩,?_,?_,?_⟩
   ·simp [e4]
   ·simp [e6]
   ·simp [m4]
   ·simp [m6]
   ·simp [e9]
   ·simpa using a9
   ·simp [e10]
   ·simp [e11]
   ·simp
  ·rw [decide_eq_false c] at zb;rw [show cD out' q=out'++[q] from if_neg c] at ih;rcases a9 with a9 | a9
   all_goals
    simp [JE,-V,-y3,-y0,J,e9,a9,e11,e12,fa,g1,zb,hw,de,q1];refine ih da _ ⟨⟨?_,?_,?_,?_,?_,.inr ?_⟩,?_,?_,?_⟩
    ·simp [e4]
    ·simp [e6]
    ·simp [m4]
    ·simp [m6]
    ·simp [XA]
    ·simp
    ·simp [e10]
    ·simp [e11]
    ·simp
 ·have fa:¬ (j:Int)<qs.length:=by omega
  rw [yx (by omega)] at e9;simp [JE,-V,-y3,-y0,J,e11,e12,fa];refine hk _ _ ⟨rfl,⟨?_,?_,?_,?_,?_,?_⟩,?_⟩
  ·simp [e4]
  ·simp [e6]
  ·simp [m4]
  ·simp [m6]
  ·simp [e9]
  ·simpa using a9
  ·simp [e10]
theorem O5 {w r:SG} {nx:Pr->List Pr} {rs:Pr->Int} (hF:IQ w r nx rs) {p:Pr} (hp:rN w.types.length r.types.length p):gA 85 [.agg (WA w),.int .i64 p.1,.agg (WA r),.int .i64 p.2] (.sl false ((sC (DC nx p)).map XA)):=by
 refine wA (c:=lI) rfl rfl ?_;have ab:∀ i,(aD nx p i).length<=1024:=fun i=>by
  have h1:=DM hp hF.rng i;have h2:w.types.length * r.types.length<=32 * 32:=Nat.mul_le_mul hF.wl hF.rl;omega
 simp [lI,-V,-y3,-y0,J,WA];refine xA 1024 (fun i s=>RrI w r (sC (aD nx p i)) s/\(s.env 10).v=.int .i64 i/\i<=(aD nx p i).length)
  (fun e s=>e=.exit 0/\(s.env 9).v=.sl false ((sC (DC nx p)).map XA)) (fun i hi s k h ih hk=>?_) _ _ ?_ (fun e s h=>?_)
 ·obtain ⟨⟨e4,e6,m4,m6,e9,a9⟩,e10,tg⟩:=h;refine tA ?_;have up:=ab i;have uc:(sC (aD nx p i)).length=(aD nx p i).length:=by simp [sC]
  by_cases da:i<(aD nx p i).length
  ·have fa:(i:Int)<(aD nx p i).length:=by omega
   obtain ⟨e0,ic⟩:∃ e0,(aD nx p i)[i]?=some e0:=⟨_,y4 da⟩;have g1:((sC (aD nx p i)).map XA)[i]?=some (XA e0.1):=by simp [sC,ic]
   have bi:=pI hp hF.rng i e0.1 (yN (yj ic));have wk:=hF.rsuc e0.1 bi;have tv:=hF.len e0.1 bi;have hw:=ZA (i:=i);have db:sC (aD nx p (i + 1))=(nx e0.1).foldl cD (sC (aD nx p i)):=by rw [aD,ic]; exact DG _ _ _ _
   have rk:=ab (i + 1);have uo:i + 1<=(aD nx p (i + 1)).length:=by
    obtain ⟨t,ht⟩:=XN nx p i;rw [ht,yl];omega
   simp only [gA,WA,XA] at wk g1;generalize nx e0.1=qs at *
   simp [II,-V,-y3,-y0,J,e4,e6,e9,e10,m4,m6,uc,fa,g1,wk];refine rreach_in w r i qs (by omega) qs.isEmpty (sC (aD nx p i)) (by omega) _ ⟨?_,?_,?_,?_,?_,?_⟩ ?_ ?_ ?_ _ (fun s' h' lr=>?_)
   ·simp [e4]
   ·simp [e6]
   ·simp [m4]
   ·simp [m6]
   ·simp [e9]
   ·simpa using a9
   ·simp [e10]
   ·simp
   ·simp
   ·rw [<- db] at h';obtain ⟨e4,e6,m4,m6,e9,a9⟩:=h';simp [-V,-y3,-y0,J,lr,hw];refine ih (by omega) _ ⟨⟨?_,?_,?_,?_,?_,?_⟩,?_,uo⟩
    ·simp [e4]
    ·simp [e6]
    ·simp [m4]
    ·simp [m6]
    ·simp [e9]
    ·simpa using a9
    ·simp
  ·have fa:¬ (i:Int)<(aD nx p i).length:=by omega
   rw [<- jR (nx:=nx) (p:=p) (i:=i) (by omega) hi] at e9 fa uc;simp [II,-V,-y3,-y0,J,e9,e10,uc,fa];exact hk _ _ ⟨rfl,by simp [e9]⟩
 ·refine ⟨⟨?_,?_,?_,?_,?_,.inl ?_⟩,?_,?_⟩ <;> simp [aD,sC,XA]
 ·obtain ⟨rfl,e9⟩:=h;simp [-V,-y3,-y0,J,e9]
def TG (nx:Pr->List Pr) (rs:Pr->Int) (p:Pr):Bool:=(sC (DC nx p)).all fun q=>decide (rs q=0)
theorem fine_ev {w r:SG} {nx:Pr->List Pr} {rs:Pr->Int} (hF:IQ w r nx rs) {p:Pr} (hp:rN w.types.length r.types.length p):gA 80 [.agg (WA w),.int .i64 p.1,.agg (WA r),.int .i64 p.2] (.bool (TG nx rs p)):=by
 have ze:=O5 hF hp;refine wA (c:=OL) rfl rfl ?_;have ja:(sC (DC nx p)).length<=1024:=by
  have:=zN hp hF.rng hF.wl hF.rl;simpa [sC] using this
 have bi:∀ q∈sC (DC nx p),rN w.types.length r.types.length q:=pI hp hF.rng 1024;unfold TG;generalize sC (DC nx p)=l at *
 simp only [gA,WA] at ze;simp [OL,-V,-y3,-y0,J,WA,ze];refine xA l.length (fun i s=>(s.env 4).v=.ptr 4 1 0/\(s.env 6).v=.ptr 6 1 0/\s.mem 4 1=some [⟨.sl w.nl (w.types.map eA),.no⟩]/\s.mem 6 1=some [⟨.sl r.nl (r.types.map eA),.no⟩]/\(s.env 9).v=.sl false (l.map XA)/\(s.env 10).v=.int .i64 i/\(l.take i).all (fun q=>decide (rs q=0))=true)
  (fun e s=>(e=.exit 0/\l.all (fun q=>decide (rs q=0))=true)\/(e=.ret/\(s.env 8).v=.bool false/\l.all (fun q=>decide (rs q=0))=false)) (fun i hi s k h ih hk=>?_) _ _ ?_ (fun e s h=>?_)
 ·obtain ⟨e4,e6,m4,m6,e9,e10,zd⟩:=h;refine tA ?_;by_cases da:i<l.length
  ·have fa:(i:Int)<l.length:=by omega
   have g1:(l.map XA)[i]?=some (XA l[i]):=by simp [da]
   have hw:=ZA (i:=i);have th:=jN (fun q=>decide (rs q=0)) l da;have ad:=kV (fun q=>decide (rs q=0)) l da;have im:=hF.rrsn l[i] (bi _ (y6 da));generalize l[i]=q at *
   simp only [gA,WA,XA] at im g1;by_cases c:rs q=0
   ·rw [c] at im;simp [zI,-V,-y3,-y0,J,e4,e6,m4,m6,e9,e10,fa,g1,im,hw];refine ih da _ ⟨?_,?_,?_,?_,?_,?_,by rw [th,zd,decide_eq_true c]; rfl⟩ <;> simp [e4,e6,m4,m6,e9]
   ·simp [zI,-V,-y3,-y0,J,e4,e6,m4,m6,e9,e10,fa,g1,im,c,hw];exact hk _ _ (.inr ⟨rfl,by simp,ad (by simp [c])⟩)
  ·have fa:¬ (i:Int)<l.length:=by omega
   simp [zI,-V,-y3,-y0,J,e9,e10,fa];rw [yx (by omega)] at zd;exact hk _ _ (.inl ⟨rfl,zd⟩)
 ·refine ⟨?_,?_,?_,?_,?_,?_,?_⟩ <;> simp
 ·rcases h with ⟨rfl,hf⟩ | ⟨rfl,e8,hf⟩
  ·simp [-V,-y3,-y0,J,hf]
  ·simp [-V,-y3,-y0,J,e8,hf]
def aS (e:Int) (n:Nat) (i:Int):Int:=if e=0 then (if i<0\/(n:Int)<=i then 4 else 0) else e
def iF (e f:Int) (n m:Nat) (i k:Int):Int:=if aS e n i=0 then aS f m k else aS e n i
def jL (s:SG) (e:Int):Prop:=gA 95 [.agg (WA s)] (.int .i64 e)/\gA 97 [.agg (WA s)] (.int .i64 e)
theorem sone_ev {s:SG} {e:Int} (h:jL s e) (i:Int):gA 128 [.agg (WA s),.int .i64 i] (.int .i64 (aS e s.types.length i)):=by
 have h1:=h.1;refine wA (c:=ND) rfl rfl ?_;simp only [gA,WA] at h1 ⊢;unfold aS;by_cases h0:e=0
 case neg=>simp [ND,-V,-y3,-y0,J,h1,h0]
 subst h0;by_cases c1:i<0
 ·simp [ND,-V,-y3,-y0,J,h1,c1]
 ·by_cases c2:(s.types.length:Int)<=i
  ·simp [ND,-V,-y3,-y0,J,h1,c1,c2]
  ·simp [ND,-V,-y3,-y0,J,h1,c1,c2]
theorem rone_ev {s:SG} {e:Int} (h:jL s e) (i:Int):gA 101 [.agg (WA s),.int .i64 i] (.int .i64 (aS e s.types.length i)):=by
 have h1:=h.2;refine wA (c:=iH) rfl rfl ?_;simp only [gA,WA] at h1 ⊢;unfold aS;by_cases h0:e=0
 case neg=>simp [iH,-V,-y3,-y0,J,h1,h0]
 subst h0;by_cases c1:i<0
 ·simp [iH,-V,-y3,-y0,J,h1,c1]
 ·by_cases c2:(s.types.length:Int)<=i
  ·simp [iH,-V,-y3,-y0,J,h1,c1,c2]
  ·simp [iH,-V,-y3,-y0,J,h1,c1,c2]
theorem PZ {w r:SG} {e f:Int} (hw:jL w e) (hr:jL r f) (i k:Int):gA 76 [.agg (OB w i),.agg (OB r k)] (.int .i64 (iF e f w.types.length r.types.length i k)):=by
 have h1:=sone_ev hw i;have h2:=sone_ev hr k;refine wA (c:=WG) rfl rfl ?_;simp only [gA,WA] at h1 h2;unfold iF;by_cases c:aS e w.types.length i=0
 ·rw [c] at h1;simp [WG,-V,-y3,-y0,J,OB,h1,h2,c]
 ·simp [WG,-V,-y3,-y0,J,OB,h1,h2,c]
theorem rerr_ev {w r:SG} {e f:Int} (hw:jL w e) (hr:jL r f) (i k:Int):gA 43 [.agg (OB w i),.agg (OB r k)] (.int .i64 (iF e f w.types.length r.types.length i k)):=by
 have h1:=rone_ev hw i;have h2:=rone_ev hr k;refine wA (c:=wI) rfl rfl ?_;simp only [gA,WA] at h1 h2;unfold iF;by_cases c:aS e w.types.length i=0
 ·rw [c] at h1;simp [wI,-V,-y3,-y0,J,OB,h1,h2,c]
 ·simp [wI,-V,-y3,-y0,J,OB,h1,h2,c]
theorem CN {e f:Int} {n m:Nat} {i k:Int} (h:iF e f n m i k=0):e=0/\f=0/\rN n m (i,k):=by
 unfold iF aS at h;unfold rN;simp only;by_cases he:e=0
 ·by_cases hf:f=0
  ·subst he; subst hf;simp only [if_true] at h;by_cases c1:i<0\/(n:Int)<=i
   ·rw [if_pos c1] at h; simp at h
   ·by_cases c2:k<0\/(m:Int)<=k
    ·rw [if_neg c1,if_pos c2] at h; simp at h
    ·exact ⟨rfl,rfl,by omega⟩
  ·subst he;simp only [if_true,if_neg hf] at h;by_cases c1:i<0\/(n:Int)<=i
   ·rw [if_pos c1] at h; simp at h
   ·rw [if_neg c1] at h; simp at h; exact absurd h hf
 ·simp only [if_neg he] at h;exact absurd h he
theorem NW {w r:SG} {e f i k:Int} (hw:jL w e) (hr:jL r f) {nx:Pr->List Pr} {rs:Pr->Int} (hF:iF e f w.types.length r.types.length i k=0->IQ w r nx rs):gA 29 [.agg (OB w i),.agg (OB r k)] (.tup [.bool (decide (iF e f w.types.length r.types.length i k=0)&&TG nx rs (i,k)),.int .i64 (iF e f w.types.length r.types.length i k)]):=by
 have h1:=rerr_ev hw hr i k;refine wA (c:=GE) rfl rfl ?_;simp only [gA,OB] at h1;by_cases c:iF e f w.types.length r.types.length i k=0
 ·have h2:=fine_ev (hF c) (p:=(i,k)) (CN c).2.2;simp only [gA,WA] at h2;rw [c] at h1;simp [GE,-V,-y3,-y0,J,OB,h1,h2,c]
 ·simp [GE,-V,-y3,-y0,J,OB,h1,c]
theorem GZ (l:List Pr):SD (l.map XA)=true:=qL XA l fun p=>by simp [XA,AV.free0]
theorem rev_ext {l cur:List Pr} {i:Nat} (hl:cur.length=l.length) (h:∀ x,x<l.length->cur[x]?=if x<i\/l.length - i<=x then l[l.length - 1 - x]? else l[x]?) (hi:l.length<=2 * i + 1) (ph:2 * i<=l.length):cur=l.reverse:=by
 refine List.ext_getElem? fun x=>?_
 by_cases hx:x<l.length
 ·rw [h x hx,List.getElem?_reverse hx];split
  ·rfl
  ·rename_i hc;have:x=l.length - 1 - x:=by omega
   rw [<- this]
 ·rw [yW (by omega),yW (by simp; omega)]
theorem I7 {r:RV} (l:List Pr) (hl:l.length<=1000000) {t n c:Nat} {a:An} (s0:aA) (hm:s0.mem t n=some (sA (l.map XA))) (k:qA->aA->Option RV)
  (hk:∀ y s',s'.mem t n=some (sA (l.reverse.map XA))->(∀ t' n',¬ (t'=t/\n'=n)->s'.mem t' n'=s0.mem t' n')->s'.gh=s0.gh->k y s'=some r) :
  H3 jA rA 86 [⟨.ref t n 2 0 l.length c,a⟩] s0 k=some r:=by
 refine sK jE rfl rfl ?_;have hw0:IntKind.i64.wrap ((l.length:Int) - 1)=(l.length:Int) - 1:=IntWalk.i64_in _ (by omega);simp [jE,-V,-y3,-y0,J,hw0];refine xA l.length (fun i s=>(s.env 0).v=.ref t n 2 0 l.length c/\(s.env 2).v=.int .i64 i/\(s.env 3).v=.int .i64 ((l.length:Int) - 1 - i)/\2 * i<=l.length/\(∀ t' n',¬ (t'=t/\n'=n)->s.mem t' n'=s0.mem t' n')/\s.gh=s0.gh/\∃ cur:List Pr,cur.length=l.length/\(∀ x,x<l.length->cur[x]?=if x<i\/l.length - i<=x then l[l.length - 1 - x]? else l[x]?)/\s.mem t n=some (sA (cur.map XA)))
  (fun e s=>e=.exit 0/\(∀ t' n',¬ (t'=t/\n'=n)->s.mem t' n'=s0.mem t' n')/\s.gh=s0.gh/\s.mem t n=some (sA (l.reverse.map XA))) (fun i hi s k h ih hk=>?_) _ _ ?_ (fun e s h=>?_)
 ·obtain ⟨e0,e2,e3,h2,ly,hg,cur,bd,hcx,hm⟩:=h;refine tA ?_;obtain ⟨z,hz⟩:∃ z:Int,z=(l.length:Int) - 1 - i:=⟨_,rfl⟩;rw [<- hz] at e3;by_cases da:(i:Int)<z
  ·have hj:z.toNat=l.length - 1 - i:=by omega
   have gc:0<=z:=by omega
   have dl:z.toNat<cur.length:=by omega
   have hzl':z<(l.length:Int):=by omega
   have tg:i<cur.length:=by omega
   have hzt:z.toNat<l.length:=by omega
   have pk:i<l.length:=by omega
   have hil':(i:Int)<(l.length:Int):=by omega
   obtain ⟨p,hp⟩:∃ p,cur[i]?=some p:=⟨_,y4 tg⟩;obtain ⟨q,hq⟩:∃ q,cur[z.toNat]?=some q:=⟨_,y4 dl⟩;have wn:IntKind.i64.wrap (z - 1)=(l.length:Int) - 1 - ((i + 1:Nat):Int):=by rw [IntWalk.i64_in _ (by omega)]; omega
   have ci:=ZA (i:=i);have l1:MA true 2 (i * 2) (sA (cur.map XA))=some ⟨.agg [.int .i64 p.1,.int .i64 p.2],.no⟩:=cO (gG cur) (by rw [yc,hp]; rfl);have l2:MA true 2 (z.toNat * 2) (sA (cur.map XA))=some ⟨.agg [.int .i64 q.1,.int .i64 q.2],.no⟩:=cO (gG cur) (by rw [yc,hq]; rfl);have s1:mA true 2 (i * 2) (sA (cur.map XA)) (.agg [.int .i64 q.1,.int .i64 q.2]) .no=some (sA ((cur.set i q).map XA)):=by
    rw [NM (gG cur) (by simpa using tg) rfl,List.map_set]; rfl
   have s2:mA true 2 (z.toNat * 2) (sA ((cur.set i q).map XA)) (.agg [.int .i64 p.1,.int .i64 p.2]) .no=some (sA (((cur.set i q).set z.toNat p).map XA)):=by
    rw [NM (gG _) (by simpa using dl) rfl]; simp only [List.map_set]; rfl
   have me:∀ x,x<l.length->((cur.set i q).set z.toNat p)[x]?=if x<i + 1\/l.length - (i + 1)<=x then l[l.length - 1 - x]? else l[x]?:=fun x hx=>by
    rw [List.getElem?_set];by_cases c1:z.toNat=x
    ·rw [if_pos c1,if_pos (by simp; omega),if_pos (.inr (by omega)),<- hp,hcx i (by omega),if_neg (by omega),show l.length - 1 - x=i from by omega]
    ·rw [if_neg c1,List.getElem?_set];by_cases c2:i=x
     ·rw [if_pos c2,if_pos tg,if_pos (.inl (by omega)),<- hq,hcx _ (by omega),if_neg (by omega),show l.length - 1 - x=z.toNat from by omega]
     ·rw [if_neg c2,hcx x hx];by_cases c3:x<i\/l.length - i<=x
      ·rw [if_pos c3,if_pos (by omega)]
      ·rw [if_neg c3,if_neg (by omega)]
   generalize sA (cur.map XA)=R0 at *
   have hcl2:((cur.set i q).set z.toNat p).length=l.length:=by simp [bd]
   generalize sA ((cur.set i q).map XA)=R1 at *
   generalize (cur.set i q).set z.toNat p=cur2 at *
   simp [ZE,-V,-y3,-y0,J,-MA,-mA,wB,uB,PA,AA,e0,e2,e3,da,gc,hzl',hil',hzt,pk,hm,l1,l2,s1,s2,wn,ci];refine ih (by omega) _ ⟨?_,?_,?_,by omega,?_,?_,cur2,hcl2,me,?_⟩
   ·simp [e0]
   ·simp
   ·simp
   ·intro t' n' na;simp [na];exact ly t' n' na
   ·exact hg
   ·simp
  ·simp [ZE,-V,-y3,-y0,J,e2,e3,da];refine hk _ _ ⟨rfl,ly,hg,?_⟩;rw [<- rev_ext bd hcx (by omega) h2];exact hm
 ·refine ⟨?_,?_,?_,by omega,fun _ _ _=>rfl,rfl,l,rfl,?_,hm⟩
  ·simp
  ·simp
  ·simp
  ·intro x hx;rw [if_neg (by omega)]
 ·obtain ⟨rfl,h1,h2,h3⟩:=h;simp [-V,-y3,-y0,J,WM,kQ,AN];exact hk _ _ h3 h1 h2
def blm (nx:Pr->List Pr) (rs:Pr->Int) (p:Pr):Option JN:=(DC nx p).find? fun e=>!decide (rs e.1=0)
def RX (rs:Pr->Int):Option JN->AV
 | some e=>.tup [.sl false (e.2.1.map XA),.int .i64 (rs e.1),.int .i64 0]
 | none=>.tup [.sl true [],.int .i64 0,.int .i64 15]
theorem FZ {α:Type} (p:α->Bool):∀ {l:List α} {i:Nat} {x:α},l[i]?=some x->p x=true->(l.take i).any p=false->l.find? p=some x
 | [],i,x,h,_,_=>by simp at h
 | a :: r,0,x,h,hp,_=>by
  simp at h;subst h;simp [List.find?,hp]
 | a :: r,i + 1,x,h,hp,hn=>by
  simp only [List.take_succ_cons,List.any_cons,Bool.or_eq_false_iff] at hn;rw [List.find?_cons,hn.1];exact FZ p (by simpa using h) hp hn.2
theorem find_no {α:Type} (p:α->Bool) {l:List α} (h:l.any p=false):l.find? p=none:=by
 rw [List.find?_eq_none];intro x hx hp;rw [List.any_eq_false] at h;exact h x hx hp
theorem B1 {nx:Pr->List Pr} {p:Pr} {E:List JN} (hE:∀ k e,E[k]?=some e->iR nx p E k e):∀ k e,E[k]?=some e->e.2.1.length<=k + 1:=by
 intro k
 induction k using Nat.strongRecOn with
 | ind k ih =>
  intro e he;rcases (hE k e he).bef with ⟨_,rfl⟩ | ⟨j,h1,_,e',h3,h4,_⟩
  ·simp
  ·have:=ih j h1 e' h3;rw [h4];simp;omega
def pathA (P:List Pr) (x:qA) (s:aA):Prop:=(P=[]/\x.v=.sl true [])\/∃ N,P≠[]/\x.v=.ref 56 N 2 0 P.length P.length/\s.mem 56 N=some (sA (P.map XA))
theorem walk_lp {rv:RV} {nx:Pr->List Pr} {p:Pr} (E:List JN) (hE:∀ k e,E[k]?=some e->iR nx p E k e) (hl:E.length<=1024) {j0:Nat} {e0:JN} (h0:E[j0]?=some e0) (n12:Int) (s:aA)
  (h8:(s.env 8).v=.sl false ((sC E).map XA)) (h9:(s.env 9).v=.sl false (E.map gR)) (pr:(s.env 10).v=.int .i64 j0) (jo:(s.env 12).v=.int .i64 n12) (h13:(s.env 13).v=.sl true []) (k:Ex->aA->Option RV)
  (hk:∀ s',(s'.env 12).v=.int .i64 n12->pathA e0.2.1.reverse (s'.env 13) s'->k (.exit 2) s'=some rv):OI jA rA QE s k=some rv:=by
 have hj0:j0<E.length:=(y9.1 h0).1;refine xA (j0 + 1) (fun i s=>(s.env 8).v=.sl false ((sC E).map XA)/\(s.env 9).v=.sl false (E.map gR)/\(s.env 12).v=.int .i64 n12/\∃ (z:Int) (P:List Pr),(s.env 10).v=.int .i64 z/\P.length<=i/\pathA P (s.env 13) s/\((z=-1/\P=e0.2.1.reverse)\/∃ (j:Nat) (e:JN),z=(j:Int)/\j + i<=j0/\E[j]?=some e/\P++e.2.1.reverse=e0.2.1.reverse))
  (fun e s=>e=.exit 2/\(s.env 12).v=.int .i64 n12/\pathA e0.2.1.reverse (s.env 13) s) (fun i hi s k h ih hk=>?_) _ _ ⟨h8,h9,jo,_,[],pr,ym _,.inl ⟨rfl,h13⟩,.inr ⟨j0,e0,rfl,by omega,h0,rfl⟩⟩ (fun e s h=>by obtain ⟨rfl,h1,h2⟩:=h; exact hk _ h1 h2)
 obtain ⟨e8,e9,e12,z,P,e10,hPl,hP,hz⟩:=h;refine tA ?_;rcases hz with ⟨rfl,rfl⟩ | ⟨j,e,rfl,hji,hj,hw⟩
 ·simp [QE,-V,-y3,-y0,J,e10];refine hk _ _ ⟨rfl,by simp [e12],?_⟩;rcases hP with ⟨h1,h2⟩ | ⟨N,h1,h2,h3⟩
  ·exact .inl ⟨h1,by simp [h2]⟩
  ·exact .inr ⟨N,h1,by simp [h2],by simp [h3]⟩
 ·have xh:=(y9.1 hj).1;have g1:((sC E).map XA)[j]?=some [.int .i64 e.1.1,.int .i64 e.1.2]:=by simp [sC,hj,XA]
  have g2:(E.map gR)[j]?=some [.int .i64 e.2.2]:=by simp [hj,gR]
  have q:=gG P;have qf:=GZ P;have ka:eB 16 (P.length + 1)=true:=by rw [EA]; omega
  have ze:aE (sA (P.map XA)) 2 0 P.length=some (P.map XA):=by
   have:=GG q qf;simpa using this
  have lj:(e.2.2=-1/\P++[e.1]=e0.2.1.reverse)\/∃ j' e',e.2.2=((j':Nat):Int)/\j' + (i + 1)<=j0/\E[j']?=some e'/\(P++[e.1])++e'.2.1.reverse=e0.2.1.reverse:=by
   rcases (hE j e hj).bef with ⟨_,rfl⟩ | ⟨j',h1,h2,e',h3,h4,_⟩
   ·exact .inl ⟨rfl,hw⟩
   ·refine .inr ⟨j',e',h2,by omega,h3,?_⟩;rw [h4,List.reverse_append] at hw;simpa using hw
  rcases hP with ⟨rfl,h13⟩ | ⟨N,na,h13,hm⟩
  ·simp [QE,-V,-y3,-y0,J,e8,e9,e10,h13,g1,g2,tX];refine ih (by omega) _ ⟨?_,?_,?_,e.2.2,[e.1],?_,?_,.inr ⟨s.next + 1,by simp,?_,?_⟩,lj⟩
   ·simp [e8]
   ·simp [e9]
   ·simp [e12]
   ·simp
   ·simp
   ·simp
   ·simp [sA,XA]
  ·have la:∀ b,sA (P.map XA++[[AV.int .i64 e.1.1,AV.int .i64 e.1.2]])=sA ((P++[e.1]).map XA)\/b:=fun b=>.inl (by simp [XA])
   generalize hR:sA (P.map XA)=R0 at *
   simp [QE,-V,-y3,-y0,J,e8,e9,e10,h13,g1,g2,ka,hm,ze,Cl.okMem];refine ih (by omega) _ ⟨?_,?_,?_,e.2.2,P++[e.1],?_,?_,.inr ⟨s.next + 1,by simp,?_,?_⟩,lj⟩
   ·simp [e8]
   ·simp [e9]
   ·simp [e12]
   ·simp
   ·simp; omega
   ·simp
   ·simp [XA]
theorem pZ {w r:SG} {e f i k:Int} (hw:jL w e) (hr:jL r f) {nx:Pr->List Pr} {rs:Pr->Int} (hF:iF e f w.types.length r.types.length i k=0->IQ w r nx rs):gA 32 [.agg (OB w i),.agg (OB r k)] (if iF e f w.types.length r.types.length i k=0 then RX rs (blm nx rs (i,k)) else .tup [.sl true [],.int .i64 0,.int .i64 (iF e f w.types.length r.types.length i k)]):=by
 have h1:=PZ hw hr i k;refine wA (c:=XF) rfl rfl ?_;simp only [gA,OB] at h1;by_cases c:iF e f w.types.length r.types.length i k=0
 case neg =>
  rw [if_neg c];simp [XF,-V,-y3,-y0,J,OB,h1,c]
 rw [if_pos c];have hF:=hF c;obtain ⟨he,hf,hp⟩:=CN c;have h2:=T7 hF hp;have hfull:=zN hp hF.rng hF.wl hF.rl;have bi:∀ q∈sC (DC nx (i,k)),rN w.types.length r.types.length q:=pI hp hF.rng 1024;have ra:=zV nx (i,k) 1024;rw [c] at h1;unfold blm;change ∀ k_1 e,(DC nx (i,k))[k_1]?=some e->iR nx (i,k) (DC nx (i,k)) k_1 e at ra;generalize DC nx (i,k)=E at *
 have uc:(sC E).length=E.length:=by simp [sC]
 simp only [gA,OB] at h2;simp [XF,-V,-y3,-y0,J,OB,h1,h2,uc];refine xA E.length (fun j s=>(s.env 2).v=.ptr 2 1 0/\(s.env 3).v=.ptr 3 1 0/\s.mem 2 1=some (pC w i)/\s.mem 3 1=some (pC r k)/\(s.env 8).v=.sl false ((sC E).map XA)/\(s.env 9).v=.sl false (E.map gR)/\(s.env 26).v=.sl false ((sC E).map XA)/\(s.env 27).v=.int .i64 E.length/\(s.env 28).v=.int .i64 j/\(E.take j).any (fun e=>!decide (rs e.1=0))=false)
  (fun e s=>(e=.exit 0/\E.find? (fun e=>!decide (rs e.1=0))=none)\/(e=.ret/\∃ (e0:JN) (N:Nat),E.find? (fun e=>!decide (rs e.1=0))=some e0/\(s.env 4).v=.ref 56 N 2 0 e0.2.1.reverse.length e0.2.1.reverse.length/\s.mem 56 N=some (sA (e0.2.1.map XA))/\(s.env 5).v=.int .i64 (rs e0.1)/\(s.env 6).v=.int .i64 0)) (fun j hj s k' h ih hk=>?_) _ _ ?_ (fun e s h=>?_)
 ·obtain ⟨e2,e3,m2,m3,e8,e9,dy,e27,e28,zd⟩:=h;refine tA ?_;simp only [pC] at m2 m3;by_cases da:j<E.length
  ·have fa:(j:Int)<E.length:=by omega
   obtain ⟨e0,ic⟩:∃ e0,E[j]?=some e0:=⟨_,y4 da⟩;have g1:((sC E).map XA)[j]?=some [.int .i64 e0.1.1,.int .i64 e0.1.2]:=by simp [sC,ic,XA]
   have im:=hF.rsn e0.1 (bi _ (yN (yj ic)));have xv:=ZA (i:=j);simp only [gA,WA] at im;by_cases c0:rs e0.1=0
   ·rw [c0] at im;simp [IF,-V,-y3,-y0,J,e2,e3,m2,m3,dy,e27,e28,fa,g1,im,xv];refine ih da _ ⟨?_,?_,?_,?_,?_,?_,?_,?_,?_,?_⟩
    ·simp [e2]
    ·simp [e3]
    ·simp [m2,pC]
    ·simp [m3,pC]
    ·simp [e8]
    ·simp [e9]
    ·simp [dy]
    ·simp [e27]
    ·simp
    ·rw [EP _ E da,zd];obtain ⟨_,hh⟩:=y9.1 ic;rw [hh];simp [c0]
   ·have hfd:=FZ (fun e:JN=>!decide (rs e.1=0)) ic (by simp [c0]) zd;simp [IF,-V,-y3,-y0,J,e2,e3,m2,m3,e8,dy,e27,e28,fa,g1,im,c0,xv];refine walk_lp E ra hfull ic (rs e0.1) _ ?_ ?_ ?_ ?_ ?_ _ (fun s' f12 f13=>?_)
    ·simp [e8]
    ·simp [e9]
    ·simp
    ·simp
    ·simp
    ·have na:e0.2.1.reverse≠[]:=by
      rcases (ra j e0 ic).bef with ⟨_,rfl⟩ | ⟨_,_,_,e',_,h4,_⟩
      ·simp
      ·rw [h4]; simp
     rcases f13 with ⟨h,_⟩ | ⟨N,_,f13,fm⟩
     ·exact absurd h na
     have ug:e0.2.1.reverse.length<=1000000:=by
      have:=B1 ra j e0 ic;simp;omega
     simp [-V,-y3,-y0,J,f13];have hlr:e0.2.1.length=e0.2.1.reverse.length:=by simp
     rw [hlr];refine I7 e0.2.1.reverse ug _ ?_ _ (fun y s2 ah _ hg2=>?_)
     ·simp [fm]
     ·have g12:(s2.gh 12).v=.int .i64 (rs e0.1):=by rw [hg2]; simp [f12]
      have g13:(s2.gh 13).v=.ref 56 N 2 0 e0.2.1.reverse.length e0.2.1.reverse.length:=by rw [hg2]; simp [f13]
      rw [List.reverse_reverse] at ah;simp [-V,-y3,-y0,J,g12,g13];refine hk _ _ (.inr ⟨rfl,e0,N,hfd,?_,?_,?_,?_⟩)
      ·simp
      ·simp [ah]
      ·simp
      ·simp
  ·have fa:¬ (j:Int)<E.length:=by omega
   simp [IF,-V,-y3,-y0,J,e27,e28,fa];rw [yx (by omega)] at zd;exact hk _ _ (.inl ⟨rfl,find_no _ zd⟩)
 ·refine ⟨?_,?_,?_,?_,?_,?_,?_,?_,?_,?_⟩ <;> simp [pC]
 ·rcases h with ⟨rfl,hn⟩ | ⟨rfl,e0,N,hs,e4,hm,e5,e6⟩
  ·rw [hn];simp [-V,-y3,-y0,J,RX]
  ·have ze:aE (sA (e0.2.1.map XA)) 2 0 e0.2.1.length=some (e0.2.1.map XA):=by
    have:=GG (gG e0.2.1) (GZ e0.2.1);simpa using this
   simp at e4;rw [hs];simp [-V,-y3,-y0,J,RX,e4,e5,e6,hm,ze]
def X1 (e:JN):List AV:=[.sl false (e.2.1.map XA)]
theorem els_way (l:List JN):lB 1 (l.map X1)=true:=cC _ _ _ fun _=>rfl
structure BlI (w r:SG) (t u:Int) (out:List JN) (s:aA):Prop where
 e2:(s.env 2).v=.ptr 2 1 0
 e3:(s.env 3).v=.ptr 3 1 0
 m2:s.mem 2 1=some (pC w t)
 m3:s.mem 3 1=some (pC r u)
 e8:(s.env 8).v=.sl false (out.map X1)
 a8:(s.env 8).a=.ex\/(s.env 8).a=.own 103 51
 e9:(s.env 9).v=.sl false ((sC out).map XA)
 a9:(s.env 9).a=.ex\/(s.env 9).a=.own 88 63
theorem blame_in {rv:RV} (w r:SG) (t u:Int) (e0:JN) (i:Nat) (hi:i<=1000000) (hp:e0.2.1.length<=1000000) (qs:List Pr) (hq:qs.length<=1000000) (qb:Bool) (out:List JN) (ho:out.length<=1000000) (h0:out[i]?=some e0) (s:aA) (h:BlI w r t u out s) (e10:(s.env 10).v=.int .i64 i) (kh:(s.env 13).v=.sl qb (qs.map XA)) (il:(s.env 14).v=.int .i64 0) (k:Ex->aA->Option RV)
  (hk:∀ s',BlI w r t u (qs.foldl (SF e0.2.1 i) out) s'->(s'.env 10).v=.int .i64 i->k (.exit 2) s'=some rv):OI jA rA GF s k=some rv:=by
 refine xA qs.length (fun j s=>BlI w r t u ((qs.take j).foldl (SF e0.2.1 i) out) s/\(s.env 10).v=.int .i64 i/\(s.env 13).v=.sl qb (qs.map XA)/\(s.env 14).v=.int .i64 j)
  (fun e s=>e=.exit 2/\BlI w r t u (qs.foldl (SF e0.2.1 i) out) s/\(s.env 10).v=.int .i64 i) (fun j hj s k h ih hk=>?_) _ _ ⟨h,e10,kh,il⟩ (fun e s h=>by obtain ⟨rfl,h1,h2⟩:=h; exact hk _ h1 h2)
 obtain ⟨⟨e2,e3,m2,m3,e8,a8,e9,a9⟩,e10,kh,il⟩:=h;refine tA ?_;by_cases da:j<qs.length
 ·have fa:(j:Int)<qs.length:=by omega
  have g1:(qs.map XA)[j]?=some (XA qs[j]):=by simp [da]
  have hw:=ZA (i:=j);have db:(qs.take (j + 1)).foldl (SF e0.2.1 i) out=SF e0.2.1 i ((qs.take j).foldl (SF e0.2.1 i) out) qs[j]:=by rw [<- yH da,List.foldl_append]; rfl
  have ja:((qs.take j).foldl (SF e0.2.1 i) out).length<=out.length + j:=by
   have h1:=wJ (qs.take j) (sC out);rw [<- DG e0.2.1 i] at h1;simp only [sC,yo,yC] at h1;omega
  have we:((qs.take j).foldl (SF e0.2.1 i) out)[i]?=some e0:=by
   obtain ⟨t,ht⟩:=OS e0.2.1 i (qs.take j) out;rw [ht,yF (y9.1 h0).1];exact h0
  rw [db] at ih;generalize (qs.take j).foldl (SF e0.2.1 i) out=out' at *
  generalize qs[j]=q at *
  have zb:=OT (sC out') (by simp [sC]; omega) false q;have q1:=gG (sC out');have q2:=els_way out';have q3:=gG e0.2.1;have uc:(sC out').length=out'.length:=by simp [sC]
  have g2:(out'.map X1)[i]?=some [.sl false (e0.2.1.map XA)]:=by simp [we,X1]
  have de:eB 16 (out'.length + 1)=true:=by rw [EA]; omega
  have nf:eB 24 (out'.length + 1)=true:=by rw [EA]; omega
  have hroom3:eB 16 e0.2.1.length=true:=by rw [EA]; omega
  have hroom4:eB 16 (e0.2.1.length + 1)=true:=by rw [EA]; omega
  have tg:i<out'.length:=(y9.1 we).1;simp only [gA,XA] at g1 zb;by_cases c:q∈sC out'
  ·rw [decide_eq_true c] at zb;rw [TZ c] at ih;simp [GF,-V,-y3,-y0,J,e9,kh,il,fa,g1,zb,hw];refine ih da _ ⟨⟨?_,?_,?_,?_,?_,?_,?_,?_⟩,?_,?_,?_⟩
   ·simp [e2]
   ·simp [e3]
   ·simp [m2]
   ·simp [m3]
   ·simp [e8]
   ·simpa using a8
   ·simp [e9]
   ·simpa using a9
   ·simp [e10]
   ·simp [kh]
   ·simp
  ·rw [decide_eq_false c] at zb;rw [gV c] at ih;have sy:sC (out'++[(q,e0.2.1++[q],(i:Int))])=sC out'++[q]:=by simp [sC]
   rcases a8 with a8 | a8 <;> rcases a9 with a9 | a9
   all_goals
    simp [GF,-V,-y3,-y0,J,e8,a8,e9,a9,e10,kh,il,fa,g1,g2,zb,hw,uc,de,nf,hroom3,hroom4,q1,q2,q3];refine ih da _ ⟨⟨?_,?_,?_,?_,?_,.inr ?_,?_,.inr ?_⟩,?_,?_,?_⟩
    ·simp [e2]
    ·simp [e3]
    ·simp [m2,pC]
    ·simp [m3,pC]
    ·simp [X1,XA]
    ·simp
    ·simp [sy,XA]
    ·simp
    ·simp [e10]
    ·simp [kh]
    ·simp
 ·have fa:¬ (j:Int)<qs.length:=by omega
  rw [yx (by omega)] at e8 e9;simp [GF,-V,-y3,-y0,J,kh,il,fa];refine hk _ _ ⟨rfl,⟨?_,?_,?_,?_,?_,?_,?_,?_⟩,?_⟩
  ·simp [e2]
  ·simp [e3]
  ·simp [m2]
  ·simp [m3]
  ·simp [e8]
  ·simpa using a8
  ·simp [e9]
  ·simpa using a9
  ·simp [e10]
theorem rblame_ev {w r:SG} {e f i k:Int} (hw:jL w e) (hr:jL r f) {nx:Pr->List Pr} {rs:Pr->Int} (hF:iF e f w.types.length r.types.length i k=0->IQ w r nx rs):gA 33 [.agg (OB w i),.agg (OB r k)] (if iF e f w.types.length r.types.length i k=0 then RX rs (blm nx rs (i,k)) else .tup [.sl true [],.int .i64 0,.int .i64 (iF e f w.types.length r.types.length i k)]):=by
 have h1:=rerr_ev hw hr i k;refine wA (c:=qI) rfl rfl ?_;simp only [gA,OB] at h1;by_cases c:iF e f w.types.length r.types.length i k=0
 case neg =>
  rw [if_neg c];simp [qI,-V,-y3,-y0,J,OB,h1,c]
 rw [if_pos c];have hF:=hF c;obtain ⟨he,hf,hp⟩:=CN c;rw [c] at h1;unfold blm;have ab:∀ j,(aD nx (i,k) j).length<=1024:=fun j=>by
  have h1:=DM hp hF.rng j;have h2:w.types.length * r.types.length<=32 * 32:=Nat.mul_le_mul hF.wl hF.rl;omega
 simp [qI,-V,-y3,-y0,J,OB,h1];refine xA 1024 (fun j s=>BlI w r i k (aD nx (i,k) j) s/\(s.env 10).v=.int .i64 j/\j<=(aD nx (i,k) j).length/\((DC nx (i,k)).take j).any (fun e=>!decide (rs e.1=0))=false)
  (fun e s=>(e=.exit 0/\(DC nx (i,k)).find? (fun e=>!decide (rs e.1=0))=none)\/(e=.ret/\∃ e0:JN,(DC nx (i,k)).find? (fun e=>!decide (rs e.1=0))=some e0/\(s.env 4).v=.sl false (e0.2.1.map XA)/\(s.env 5).v=.int .i64 (rs e0.1)/\(s.env 6).v=.int .i64 0)) (fun j hj s k' h ih hk=>?_) _ _ ?_ (fun e s h=>?_)
 ·obtain ⟨⟨e2,e3,m2,m3,e8,a8,e9,a9⟩,e10,xh,zd⟩:=h;refine tA ?_;simp only [pC] at m2 m3;have up:=ab j;have uc:(sC (aD nx (i,k) j)).length=(aD nx (i,k) j).length:=by simp [sC]
  by_cases da:j<(aD nx (i,k) j).length
  ·have fa:(j:Int)<(aD nx (i,k) j).length:=by omega
   obtain ⟨e0,ic⟩:∃ e0,(aD nx (i,k) j)[j]?=some e0:=⟨_,y4 da⟩;have g1:((sC (aD nx (i,k) j)).map XA)[j]?=some (XA e0.1):=by simp [sC,ic]
   have g2:((aD nx (i,k) j).map X1)[j]?=some (X1 e0):=by simp [ic]
   have bi:=pI hp hF.rng j e0.1 (yN (yj ic));have im:=hF.rrsn e0.1 bi;have wk:=hF.rsuc e0.1 bi;have tv:=hF.len e0.1 bi;have xv:=ZA (i:=j);have db:aD nx (i,k) (j + 1)=(nx e0.1).foldl (SF e0.2.1 j) (aD nx (i,k) j):=by rw [aD,ic]
   have rk:=ab (j + 1);have hjl2:j + 1<=(aD nx (i,k) (j + 1)).length:=by
    obtain ⟨t,ht⟩:=XN nx (i,k) j;rw [ht,yl];omega
   have hE:(DC nx (i,k))[j]?=some e0:=OZ nx (i,k) (by omega) ic;have hwl:=B1 (zV nx (i,k) j) j e0 ic;simp only [gA,WA,XA,X1] at im wk g1 g2;by_cases c0:rs e0.1=0
   ·rw [c0] at im;generalize nx e0.1=qs at *
    simp [QH,-V,-y3,-y0,J,e2,e3,m2,m3,e8,e9,e10,fa,g1,im,wk];refine blame_in w r i k e0 j (by omega) (by omega) qs (by omega) qs.isEmpty (aD nx (i,k) j) (by omega) ic _ ⟨?_,?_,?_,?_,?_,?_,?_,?_⟩ ?_ ?_ ?_ _ (fun s' h' lr=>?_)
    ·simp [e2]
    ·simp [e3]
    ·simp [m2,pC]
    ·simp [m3,pC]
    ·simp [e8]
    ·simpa using a8
    ·simp [e9]
    ·simpa using a9
    ·simp [e10]
    ·simp
    ·simp
    ·rw [<- db] at h';obtain ⟨e2,e3,m2,m3,e8,a8,e9,a9⟩:=h';simp [-V,-y3,-y0,J,lr,xv];refine ih (by omega) _ ⟨⟨?_,?_,?_,?_,?_,?_,?_,?_⟩,?_,hjl2,?_⟩
     ·simp [e2]
     ·simp [e3]
     ·simp [m2]
     ·simp [m3]
     ·simp [e8]
     ·simpa using a8
     ·simp [e9]
     ·simpa using a9
     ·simp
     ·have hjE:=(y9.1 hE);obtain ⟨hx,hh⟩:=hjE;rw [EP _ _ hx,zd,hh];simp [c0]
   ·have hfd:=FZ (fun e:JN=>!decide (rs e.1=0)) hE (by simp [c0]) zd;simp [QH,-V,-y3,-y0,J,e2,e3,m2,m3,e8,e9,e10,fa,g1,g2,im,c0];exact hk _ _ (.inr ⟨rfl,e0,hfd,by simp,by simp,by simp⟩)
  ·have fa:¬ (j:Int)<(aD nx (i,k) j).length:=by omega
   have hEq:=jR (nx:=nx) (p:=(i,k)) (i:=j) (by omega) hj;have hEl:(DC nx (i,k)).length=j:=by rw [hEq]; omega
   simp [QH,-V,-y3,-y0,J,e8,e10,fa];rw [yx (by omega)] at zd;exact hk _ _ (.inl ⟨rfl,find_no _ zd⟩)
 ·refine ⟨⟨?_,?_,?_,?_,?_,.inl ?_,?_,.inl ?_⟩,?_,?_,?_⟩ <;> simp [pC,aD,sC,XA,X1]
 ·rcases h with ⟨rfl,hn⟩ | ⟨rfl,e0,hs,e4,e5,e6⟩
  ·rw [hn];simp [-V,-y3,-y0,J,RX]
  ·rw [hs];simp [-V,-y3,-y0,J,RX,e4,e5,e6]
theorem xV (nx:Pr->List Pr) (rs:Pr->Int) (p:Pr):(blm nx rs p=none ↔ TG nx rs p=true):=by
 unfold blm TG sC;rw [List.find?_eq_none,List.all_map,y5];constructor
 ·intro h x hx;have:=h x hx;simpa using this
 ·intro h x hx;have:=h x hx;simpa using this
section
variable {w r:SG} {e f i k:Int} (hw:jL w e) (hr:jL r f) {nx:Pr->List Pr} {rs:Pr->Int} (hF:iF e f w.types.length r.types.length i k=0->IQ w r nx rs)
include w r e f i k hw hr nx rs hF
theorem tR (nh:iF e f w.types.length r.types.length i k≠15):gA 21 [.agg (OB w i),.agg (OB r k)] (.tup [.bool (decide (iF e f w.types.length r.types.length i k=0)&&TG nx rs (i,k)),.int .i64 (iF e f w.types.length r.types.length i k)]):=by
 have h1:=pZ hw hr hF;refine wA (c:=qD) rfl rfl ?_;simp only [gA,OB] at h1;by_cases c:iF e f w.types.length r.types.length i k=0
 ·rw [if_pos c] at h1;cases hb:blm nx rs (i,k) with
  | none =>
   have hf:=(xV nx rs (i,k)).1 hb;rw [hb] at h1;simp only [RX] at h1;simp [qD,-V,-y3,-y0,J,OB,h1,c,hf]
  | some e0 =>
   have hf:TG nx rs (i,k)=false:=by
    cases hq:TG nx rs (i,k) with
    | false=>rfl
    | true=>rw [(xV nx rs (i,k)).2 hq] at hb; cases hb
   rw [hb] at h1;simp only [RX] at h1;simp [qD,-V,-y3,-y0,J,OB,h1,c,hf]
 ·rw [if_neg c] at h1;simp [qD,-V,-y3,-y0,J,OB,h1,c,nh]
theorem slocal_ev:gA 24 [.agg (WA w),.int .i64 i,.agg (WA r),.int .i64 k] (.tup [.int .i64 (if iF e f w.types.length r.types.length i k=0 then rs (i,k) else 0),.int .i64 (iF e f w.types.length r.types.length i k)]):=by
 have h1:=PZ hw hr i k;refine wA (c:=CF) rfl rfl ?_;simp only [gA,OB] at h1;by_cases c:iF e f w.types.length r.types.length i k=0
 ·have h2:=(hF c).rsn (i,k) (CN c).2.2;simp only [gA,WA] at h2;rw [c] at h1;simp [CF,-V,-y3,-y0,J,WA,h1,h2,c]
 ·simp [CF,-V,-y3,-y0,J,WA,h1,c]
end
def sucL (c:Prop) [Decidable c] (nx:Pr->List Pr) (p:Pr):List Pr:=if c then nx p else []
theorem ssucs_ev {w r:SG} {e f i k:Int} (hw:jL w e) (hr:jL r f) {nx:Pr->List Pr} {rs:Pr->Int} (hF:iF e f w.types.length r.types.length i k=0->IQ w r nx rs):gA 26 [.agg (WA w),.int .i64 i,.agg (WA r),.int .i64 k] (.tup [.sl (sucL (iF e f w.types.length r.types.length i k=0) nx (i,k)).isEmpty ((sucL (iF e f w.types.length r.types.length i k=0) nx (i,k)).map XA),.int .i64 (iF e f w.types.length r.types.length i k)]):=by
 have h1:=PZ hw hr i k;refine wA (c:=FD) rfl rfl ?_;simp only [gA,OB] at h1;unfold sucL;by_cases c:iF e f w.types.length r.types.length i k=0
 ·have h2:=(hF c).suc (i,k) (CN c).2.2;simp only [gA,WA] at h2;rw [c] at h1;simp [FD,-V,-y3,-y0,J,WA,h1,h2,c]
 ·simp [FD,-V,-y3,-y0,J,WA,h1,c]
theorem wR (l:List Pr) (hl:l.length<=1000000) (b c:Bool):gA 28 [.sl b (l.map XA),.sl c (l.map XA)] (.bool true):=by
 refine wA (c:=PK) rfl rfl ?_;simp [PK,-V,-y3,-y0,J];refine xA l.length (fun i s=>(s.env 0).v=.sl b (l.map XA)/\(s.env 1).v=.sl c (l.map XA)/\(s.env 5).v=.int .i64 i)
  (fun e s=>e=.exit 0) (fun i hi s k h ih hk=>?_) _ _ ?_ (fun e s h=>?_)
 ·obtain ⟨e0,e1,e5⟩:=h;refine tA ?_;by_cases da:i<l.length
  ·have fa:(i:Int)<l.length:=by omega
   have g1:(l.map XA)[i]?=some (XA l[i]):=by simp [da]
   have hw:=ZA (i:=i);generalize l[i]=q at *
   simp only [XA] at g1;simp [tK,-V,-y3,-y0,J,e0,e1,e5,fa,g1,hw];refine ih da _ ⟨?_,?_,?_⟩ <;> simp [e0,e1]
  ·have fa:¬ (i:Int)<l.length:=by omega
   simp [tK,-V,-y3,-y0,J,e0,e5,fa];exact hk _ _ rfl
 ·refine ⟨?_,?_,?_⟩ <;> simp
 ·subst h;simp [-V,-y3,-y0,J]
theorem UP {P:Pr->Prop} {nx:Pr->List Pr} {p:Pr} (hp:P p) (hr:∀ p,P p->∀ q∈nx p,P q):∀ i,∀ x∈sC (aD nx p i),P x
 | 0=>by simp [aD,sC]; exact hp
 | i + 1=>fun x hx=>by
  rw [aD] at hx;split at hx
  ·rename_i e he;rw [DG,CL] at hx;have hi:e.1∈sC (aD nx p i):=yN (yj he);rcases hx with hx | hx
   ·exact UP hp hr i x hx
   ·exact hr _ (UP hp hr i _ hi) x hx
  ·exact UP hp hr i x hx
theorem fine_suc {n m:Nat} {nx:Pr->List Pr} {rs:Pr->Int} {p:Pr} (hp:rN n m p) (hr:∀ p,rN n m p->∀ q∈nx p,rN n m q) (hn:n<=32) (hm:m<=32) (h:TG nx rs p=true) {q:Pr} (hq:q∈nx p):TG nx rs q=true:=by
 unfold TG at h ⊢;rw [y5] at h ⊢;have aq:p∈sC (DC nx p):=yN (yj (PS nx p));have sa:=UP (P:=fun x=>x∈sC (DC nx p)) (p:=q) (ZO hp hr hn hm aq q hq) (fun x hx y hy=>ZO hp hr hn hm hx y hy) 1024;exact fun x hx=>h x (sa x hx)
def setT (g:Nat->Nat->Bool) (i k:Nat):Nat->Nat->Bool:=fun a b=>if a=i/\b=k then false else g a b
structure TabG (nx:Pr->List Pr) (rs:Pr->Int) (N M:Nat) (g:Nat->Nat->Bool):Prop where
 sub:∀ i k,i<N->k<M->g i k=true->rs ((i:Int),(k:Int))=0
 sup:∀ i k,i<N->k<M->TG nx rs ((i:Int),(k:Int))=true->g i k=true
def outOf (g:Nat->Nat->Bool) (q:Pr):Bool:=!g q.1.toNat q.2.toNat
theorem inP_nat {N M i k:Nat} (hi:i<N) (hk:k<M):rN N M ((i:Int),(k:Int)):=⟨by simp,by simp; omega,by simp,by simp; omega⟩
section
variable {nx:Pr->List Pr} {rs:Pr->Int} {N M:Nat} {g:Nat->Nat->Bool} (h:TabG nx rs N M g) (hr:∀ p,rN N M p->∀ q∈nx p,rN N M q)
include nx rs N M g h hr
theorem TabG.set (hn:N<=32) (hm:M<=32) {i k:Nat} (hi:i<N) (hk:k<M) (hq:(nx ((i:Int),(k:Int))).any (outOf g)=true):TabG nx rs N M (setT g i k):=by
 refine ⟨fun a b ha hb hg=>?_,fun a b ha hb hf=>?_⟩
 ·unfold setT at hg;split at hg
  ·cases hg
  ·exact h.sub a b ha hb hg
 ·unfold setT;split
  ·rename_i e;obtain ⟨rfl,rfl⟩:=e;obtain ⟨q,hq,ho⟩:=List.any_eq_true.1 hq;have hp:=inP_nat ha hb;have zb:=hr _ hp q hq;obtain ⟨h1,h2,h3,h4⟩:=zb;have:=h.sup q.1.toNat q.2.toNat (by omega) (by omega) (by
    rw [Int.toNat_of_nonneg h1,Int.toNat_of_nonneg h3];exact fine_suc hp hr hn hm hf hq)
   simp [outOf,this] at ho
  ·exact h.sup a b ha hb hf
theorem TabG.eq (hc:∀ i k,i<N->k<M->g i k=true->(nx ((i:Int),(k:Int))).any (outOf g)=false) {i k:Nat} (hi:i<N) (hk:k<M):g i k=TG nx rs ((i:Int),(k:Int)):=by
 cases hg:g i k with
 | false =>
  cases hf:TG nx rs ((i:Int),(k:Int)) with
  | false=>rfl
  | true=>rw [h.sup i k hi hk hf] at hg; cases hg
 | true =>
  symm
  unfold TG;rw [y5];have sa:=UP (P:=fun x=>rN N M x/\g x.1.toNat x.2.toNat=true) (nx:=nx) (p:=((i:Int),(k:Int))) ⟨inP_nat hi hk,by simpa using hg⟩ (fun x hx y hy=>by
   obtain ⟨h0,h1⟩:=hx;have gv:=hr x h0 y hy;refine ⟨gv,?_⟩;obtain ⟨a1,a2,a3,a4⟩:=h0;have:=hc x.1.toNat x.2.toNat (by omega) (by omega) h1;rw [Int.toNat_of_nonneg a1,Int.toNat_of_nonneg a3,List.any_eq_false] at this;simpa [outOf] using this y hy) 1024
  intro x hx;obtain ⟨⟨a1,a2,a3,a4⟩,h1⟩:=sa x hx;have:=h.sub x.1.toNat x.2.toNat (by omega) (by omega) h1;rw [Int.toNat_of_nonneg a1,Int.toNat_of_nonneg a3] at this;exact decide_eq_true this
end
theorem OP {n m:Nat} {i k:Int} (hi:0<=i/\i<n) (hk:0<=k/\k<m):iF 0 0 n m i k=0:=by
 have h1:aS 0 n i=0:=by unfold aS; simp; omega
 have h2:aS 0 m k=0:=by unfold aS; simp; omega
 unfold iF;rw [if_pos h1,h2]
end Go.Proofs.YtbnlmgncbgaepaaGreat
