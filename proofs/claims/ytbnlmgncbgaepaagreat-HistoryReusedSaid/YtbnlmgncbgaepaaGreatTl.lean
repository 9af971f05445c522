/- A part of the proof. -/
import Derived.Test.YtbnlmgncbgaepaaGreatTg
set_option linter.all false
set_option maxRecDepth 100000
set_option maxHeartbeats 8000000
open Option renaming bind_some → V
open List renaming range_succ → y0, map_map → y3, getElem?_eq_getElem → y5, all_eq_true → y6, getElem_mem → y7, drop_eq_getElem_cons → y8, drop_eq_nil_of_le → yc, getElem?_map → ye, getElem?_eq_some_iff → yf, map_cons → yg, map_nil → yk, mem_of_getElem? → yl, map_congr_left → yr, mem_map → yu, length_append → yy, getElem_of_mem → yz, take_of_length_le → yC, take_append_getElem → yE, length_take → yF, length_cons → yI, getElem?_append_left → yL, map_append → yM, append_assoc → yP, mem_append_left → yX, getElem?_eq_none → yZ
open Int renaming toNat_lt → y4
open Nat renaming succ_mul → yA
namespace Go.Proofs.YtbnlmgncbgaepaaGreat
open Go
def sA.sm (t:sA):Prop:=t.kind=2->-100<=t.low/\t.low<=t.high/\t.high<=100
def TX (x:sA):Int:=if x.kind=1 then 2 else if x.kind=2 then x.high - x.low + 1 else if x.kind=4 then x.syms.length else if x.kind=3/\x.max=0 then 1 else 2147483647
def NS (x:sA):Int:=if x.kind=1 then 2 else if x.kind=2 then min 100 (x.high - x.low + 1) else if x.kind=4 then x.syms.length else if x.max=0 then 1 else 100
theorem keys_ev (x:sA) (hx:x.sm):fA 129 [.agg (qA x)] (.int .i64 (TX x)):=by
 refine rA (c:=iD) rfl rfl ?_;unfold TX;by_cases k1:x.kind=1
 ·simp [iD,-V,-y4,-y3,y0,qA,k1]
 by_cases k2:x.kind=2
 ·obtain ⟨h1,h2,h3⟩:=hx k2;have w1:IntKind.u64.wrap (IntKind.u64.wrap x.high - IntKind.u64.wrap x.low)=x.high - x.low:=by
   simp only [IntKind.wrap,IntKind.bits,IntKind.signed];simp;omega
  have c:x.high - x.low<2147483647:=by omega
  have w2:IntKind.i64.wrap (x.high - x.low)=x.high - x.low:=IntWalk.i64_in _ (by omega);have w3:IntKind.i64.wrap (x.high - x.low + 1)=x.high - x.low + 1:=IntWalk.i64_in _ (by omega);simp [iD,-V,-y4,-y3,y0,qA,k1,k2,w1,c,w2,w3]
 by_cases k4:x.kind=4
 ·simp [iD,-V,-y4,-y3,y0,qA,k1,k2,k4]
 by_cases k3:x.kind=3
 ·by_cases hm:x.max=0
  ·simp [iD,-V,-y4,-y3,y0,qA,k1,k2,k3,k4,hm]
  ·simp [iD,-V,-y4,-y3,y0,qA,k1,k2,k3,k4,hm]
 ·simp [iD,-V,-y4,-y3,y0,qA,k1,k2,k3,k4]
theorem rkeys_ev (x:sA) (hx:x.sm):fA 132 [.agg (qA x)] (.int .i64 (NS x)):=by
 refine rA (c:=rF) rfl rfl ?_;unfold NS;by_cases k1:x.kind=1
 ·simp [rF,-V,-y4,-y3,y0,qA,k1]
 by_cases k2:x.kind=2
 ·obtain ⟨h1,h2,h3⟩:=hx k2;simp [rF,-V,-y4,-y3,y0,qA,k1,k2];refine gA 100 (fun i s=>(s.env 1).v=.ptr 1 1 0/\s.mem 1 1=some (jA x)/\(s.env 3).v=.int .i64 ((i:Int) + 1)/\(s.env 4).v=.int .i64 (x.low + i)/\x.low + i<=x.high/\i + 1<=100)
   (fun e s=>e=.exit 1/\(s.env 3).v=.int .i64 (min 100 (x.high - x.low + 1))) (fun i hi s k h ih hk=>?_) _ _ ?_ (fun e s h=>?_)
  ·obtain ⟨e1,m1,e3,e4,ub,h100⟩:=h;simp only [jA] at m1;refine tA ?_;by_cases c1:(i:Int) + 1<100
   ·by_cases c2:x.low + i<x.high
    ·have w1:IntKind.i64.wrap ((i:Int) + 1 + 1)=(i:Int) + 1 + 1:=IntWalk.i64_in _ (by omega);have w2:IntKind.i64.wrap (x.low + i + 1)=x.low + i + 1:=IntWalk.i64_in _ (by omega);simp [lI,-V,-y4,-y3,y0,e1,m1,e3,e4,c1,c2,w1,w2];refine ih (by omega) _ ⟨?_,?_,?_,?_,by omega,by omega⟩
     ·simp [e1]
     ·simp [m1]
     ·simp
     ·simp; omega
    ·simp [lI,-V,-y4,-y3,y0,e1,m1,e3,e4,c1,c2];refine hk _ _ ⟨rfl,?_⟩;simp [e3];omega
   ·simp [lI,-V,-y4,-y3,y0,e1,m1,e3,e4,c1];refine hk _ _ ⟨rfl,?_⟩;simp [e3];omega
  ·exact ⟨by simp,by simp [k2],by simp,by simp,by omega,by omega⟩
  ·obtain ⟨rfl,e3⟩:=h;simp [-V,-y4,-y3,y0,e3]
 by_cases k4:x.kind=4
 ·simp [rF,-V,-y4,-y3,y0,qA,k1,k2,k4]
 by_cases hm:x.max=0
 ·simp [rF,-V,-y4,-y3,y0,qA,k1,k2,k4,hm]
 ·simp [rF,-V,-y4,-y3,y0,qA,k1,k2,k4,hm]
theorem keys_min (x:sA) (hk:1<=x.kind/\x.kind<=4) (hx:x.sm) {m n:Int} (hm:m<=50):(n<min m (TX x) ↔ n<min m (NS x)):=by
 unfold TX NS;by_cases k1:x.kind=1
 ·rw [if_pos k1,if_pos k1]
 rw [if_neg k1,if_neg k1];by_cases k2:x.kind=2
 ·rw [if_pos k2,if_pos k2];omega
 rw [if_neg k2,if_neg k2];by_cases k4:x.kind=4
 ·rw [if_pos k4,if_pos k4]
 rw [if_neg k4,if_neg k4];by_cases h0:x.max=0
 ·rw [if_pos ⟨by omega,h0⟩,if_pos h0]
 ·rw [if_neg (fun h=>h0 h.2),if_neg h0];omega
def UM (x y:sA):Bool:=x.syms.all (fun s=>decide (0<=bG y.syms s.id))&&x.mems.all (fun m=>decide (0<=QB y.mems m.id))
theorem fQ {α:Type} (p:α->Bool) (l:List α) {i:Nat} (h:i<l.length):(l.take (i + 1)).all p=((l.take i).all p&&p l[i]):=by
 rw [<- yE h,List.all_append];simp
theorem U3 {α:Type} (p:α->Bool) (l:List α) {i:Nat} (h:i<l.length) (hp:p l[i]=false):l.all p=false:=by
 rw [List.all_eq_false];exact ⟨_,y7 h,by simp [hp]⟩
section
variable (x y:sA) (zd:x.syms.length<=8796093022206) (wu:x.mems.length<=8796093022206) (fk:y.syms.length<=8796093022206) (hym:y.mems.length<=8796093022206)
include x y zd wu fk hym
theorem covered_ev:fA 130 [.agg (qA x),.agg (qA y)] (.bool (y.opn||UM x y)):=by
 refine rA (c:=PE) rfl rfl ?_;cases ho:y.opn with
 | true=>simp [PE,-V,-y4,-y3,y0,qA,ho]
 | false =>
 have hp1:∀ l:List aN,l.all (fun s=>decide (0<=bG y.syms s.id))=false->UM x y=false\/l≠x.syms:=fun l h=>by
  by_cases e:l=x.syms
  ·left; unfold UM; rw [<- e,h]; rfl
  ·exact .inr e
 simp [PE,-V,-y4,-y3,y0,qA,ho];refine gA x.syms.length (fun i s=>(s.env 2).v=.ptr 2 1 0/\(s.env 3).v=.ptr 3 1 0/\s.mem 2 1=some (jA x)/\s.mem 3 1=some (jA y)/\(s.env 16).v=.sl x.sn (x.syms.map DC)/\(s.env 17).v=.int .i64 x.syms.length/\(s.env 18).v=.int .i64 i/\(x.syms.take i).all (fun s=>decide (0<=bG y.syms s.id))=true)
  (fun e s=>(e=.exit 0/\(s.env 2).v=.ptr 2 1 0/\(s.env 3).v=.ptr 3 1 0/\s.mem 2 1=some (jA x)/\s.mem 3 1=some (jA y)/\x.syms.all (fun s=>decide (0<=bG y.syms s.id))=true)\/(e=.ret/\(s.env 4).v=.bool false/\UM x y=false)) (fun i hi s k h ih hk=>?_) _ _ ?_ (fun e s h=>?_)
 ·obtain ⟨e2,e3,m2,m3,mc,je,zl,jh⟩:=h;refine tA ?_;by_cases fa:i<x.syms.length
  ·have ga:(i:Int)<x.syms.length:=by omega
   have g1:(x.syms.map DC)[i]?=some (DC x.syms[i]):=by simp [fa]
   have sc:=GA (i:=i);have gb:=sym_ev y x.syms[i].id (by omega);have ph:=fQ (fun s=>decide (0<=bG y.syms s.id)) x.syms fa;have kc:=U3 (fun s=>decide (0<=bG y.syms s.id)) x.syms fa;generalize x.syms[i]=q at *
   simp only [DC] at g1;simp only [jA] at m2 m3;simp only [fA,qA,nW,ho] at gb;by_cases c:0<=bG y.syms q.id
   ·simp only [c,decide_true] at gb ph;simp [LE,-V,-y4,-y3,y0,e2,e3,m3,mc,je,zl,ga,g1,gb,sc,ho];refine ih fa _ ⟨?_,?_,?_,?_,?_,?_,?_,by rw [ph,jh]; rfl⟩ <;> simp [e2,e3,m2,m3,mc,je,jA,ho]
   ·simp only [c,decide_false] at gb kc;simp [LE,-V,-y4,-y3,y0,e2,e3,m3,mc,je,zl,ga,g1,gb,sc,ho];refine hk _ _ (.inr ⟨rfl,by simp,?_⟩);unfold UM;rw [kc trivial];rfl
  ·have ga:¬ (i:Int)<x.syms.length:=by omega
   simp [LE,-V,-y4,-y3,y0,je,zl,ga];refine hk _ _ (.inl ⟨rfl,by simp [e2],by simp [e3],by simp [m2],by simp [m3],?_⟩);rw [yC (by omega)] at jh;exact jh
 ·refine ⟨?_,?_,?_,?_,?_,?_,?_,?_⟩ <;> simp [jA,ho]
 rcases h with ⟨rfl,e2,e3,m2,m3,jh⟩ | ⟨rfl,e4,hf⟩
 case inr=>simp [-V,-y4,-y3,y0,e4,hf]
 simp only [jA] at m2;simp [-V,-y4,-y3,y0,e2,m2];refine gA x.mems.length (fun i s=>(s.env 3).v=.ptr 3 1 0/\s.mem 3 1=some (jA y)/\(s.env 33).v=.sl x.mn (x.mems.map zA)/\(s.env 34).v=.int .i64 x.mems.length/\(s.env 35).v=.int .i64 i/\(x.mems.take i).all (fun s=>decide (0<=QB y.mems s.id))=true)
  (fun e s=>(e=.exit 2/\UM x y=true)\/(e=.ret/\(s.env 4).v=.bool false/\UM x y=false)) (fun i hi s k h ih hk=>?_) _ _ ?_ (fun e s h=>?_)
 ·obtain ⟨e3,m3,e33,e34,xw,om⟩:=h;refine tA ?_;by_cases fa:i<x.mems.length
  ·have ga:(i:Int)<x.mems.length:=by omega
   have g1:(x.mems.map zA)[i]?=some (zA x.mems[i]):=by simp [fa]
   have sc:=GA (i:=i);have gb:=FX y x.mems[i].id (by omega);have ph:=fQ (fun s=>decide (0<=QB y.mems s.id)) x.mems fa;have kc:=U3 (fun s=>decide (0<=QB y.mems s.id)) x.mems fa;generalize x.mems[i]=q at *
   simp only [zA] at g1;simp only [jA] at m3;simp only [fA,qA,GQ,ho] at gb;by_cases c:0<=QB y.mems q.id
   ·simp only [c,decide_true] at gb ph;simp [JE,-V,-y4,-y3,y0,e3,m3,e33,e34,xw,ga,g1,gb,sc,ho];refine ih fa _ ⟨?_,?_,?_,?_,?_,by rw [ph,om]; rfl⟩ <;> simp [e3,m3,e33,e34,jA,ho]
   ·simp only [c,decide_false] at gb kc;simp [JE,-V,-y4,-y3,y0,e3,m3,e33,e34,xw,ga,g1,gb,sc,ho];refine hk _ _ (.inr ⟨rfl,by simp,?_⟩);unfold UM;rw [kc trivial,Bool.and_false]
  ·have ga:¬ (i:Int)<x.mems.length:=by omega
   simp [JE,-V,-y4,-y3,y0,e34,xw,ga];refine hk _ _ (.inl ⟨rfl,?_⟩);rw [yC (by omega)] at om;unfold UM;rw [jh,om];rfl
 ·refine ⟨?_,?_,?_,?_,?_,?_⟩ <;> simp [e3,m3,jA,ho]
 ·rcases h with ⟨rfl,hf⟩ | ⟨rfl,e4,hf⟩
  ·simp [-V,-y4,-y3,y0,hf]
  ·simp [-V,-y4,-y3,y0,e4,hf]
theorem rall_ev:fA 133 [.agg (qA x),.agg (qA y)] (.bool (UM x y)):=by
 refine rA (c:=wN) rfl rfl ?_;simp [wN,-V,-y4,-y3,y0,qA];refine gA x.syms.length (fun i s=>(s.env 2).v=.ptr 2 1 0/\(s.env 3).v=.ptr 3 1 0/\s.mem 2 1=some (jA x)/\s.mem 3 1=some (jA y)/\(s.env 5).v=.int .i64 i/\(x.syms.take i).all (fun s=>decide (0<=bG y.syms s.id))=true)
  (fun e s=>(e=.exit 0/\(s.env 2).v=.ptr 2 1 0/\(s.env 3).v=.ptr 3 1 0/\s.mem 2 1=some (jA x)/\s.mem 3 1=some (jA y)/\x.syms.all (fun s=>decide (0<=bG y.syms s.id))=true)\/(e=.ret/\(s.env 4).v=.bool false/\UM x y=false)) (fun i hi s k h ih hk=>?_) _ _ ?_ (fun e s h=>?_)
 ·obtain ⟨e2,e3,m2,m3,e5,jh⟩:=h;refine tA ?_;by_cases fa:i<x.syms.length
  ·have ga:(i:Int)<x.syms.length:=by omega
   have g1:(x.syms.map DC)[i]?=some (DC x.syms[i]):=by simp [fa]
   have sc:=GA (i:=i);have gb:=Z4 y x.syms[i].id (by omega);have ph:=fQ (fun s=>decide (0<=bG y.syms s.id)) x.syms fa;have kc:=U3 (fun s=>decide (0<=bG y.syms s.id)) x.syms fa;generalize x.syms[i]=q at *
   simp only [DC] at g1;simp only [jA] at m2 m3;simp only [fA,qA,nW] at gb;by_cases c:0<=bG y.syms q.id
   ·simp only [c,decide_true] at gb ph;simp [gJ,-V,-y4,-y3,y0,e2,e3,m2,m3,e5,ga,g1,gb,sc];refine ih fa _ ⟨?_,?_,?_,?_,?_,by rw [ph,jh]; rfl⟩ <;> simp [e2,e3,m2,m3,jA]
   ·simp only [c,decide_false] at gb kc;simp [gJ,-V,-y4,-y3,y0,e2,e3,m2,m3,e5,ga,g1,gb,sc];refine hk _ _ (.inr ⟨rfl,by simp,?_⟩);unfold UM;rw [kc trivial];rfl
  ·have ga:¬ (i:Int)<x.syms.length:=by omega
   simp only [jA] at m2;simp [gJ,-V,-y4,-y3,y0,e2,m2,e5,ga];refine hk _ _ (.inl ⟨rfl,by simp [e2],by simp [e3],by simp [m2],by simp [m3],?_⟩);rw [yC (by omega)] at jh;exact jh
 ·refine ⟨?_,?_,?_,?_,?_,?_⟩ <;> simp [jA]
 rcases h with ⟨rfl,e2,e3,m2,m3,jh⟩ | ⟨rfl,e4,hf⟩
 case inr=>simp [-V,-y4,-y3,y0,e4,hf]
 simp only [jA] at m2;simp [-V,-y4,-y3,y0];refine gA x.mems.length (fun i s=>(s.env 2).v=.ptr 2 1 0/\(s.env 3).v=.ptr 3 1 0/\s.mem 2 1=some (jA x)/\s.mem 3 1=some (jA y)/\(s.env 8).v=.int .i64 i/\(x.mems.take i).all (fun s=>decide (0<=QB y.mems s.id))=true)
  (fun e s=>(e=.exit 2/\UM x y=true)\/(e=.ret/\(s.env 4).v=.bool false/\UM x y=false)) (fun i hi s k h ih hk=>?_) _ _ ?_ (fun e s h=>?_)
 ·obtain ⟨e2,e3,m2,m3,e8,om⟩:=h;refine tA ?_;simp only [jA] at m2 m3;by_cases fa:i<x.mems.length
  ·have ga:(i:Int)<x.mems.length:=by omega
   have g1:(x.mems.map zA)[i]?=some (zA x.mems[i]):=by simp [fa]
   have sc:=GA (i:=i);have gb:=TT y x.mems[i].id (by omega);have ph:=fQ (fun s=>decide (0<=QB y.mems s.id)) x.mems fa;have kc:=U3 (fun s=>decide (0<=QB y.mems s.id)) x.mems fa;generalize x.mems[i]=q at *
   simp only [zA] at g1;simp only [fA,qA,GQ] at gb;by_cases c:0<=QB y.mems q.id
   ·simp only [c,decide_true] at gb ph;simp [fJ,-V,-y4,-y3,y0,e2,e3,m2,m3,e8,ga,g1,gb,sc];refine ih fa _ ⟨?_,?_,?_,?_,?_,by rw [ph,om]; rfl⟩ <;> simp [e2,e3,m2,m3,jA]
   ·simp only [c,decide_false] at gb kc;simp [fJ,-V,-y4,-y3,y0,e2,e3,m2,m3,e8,ga,g1,gb,sc];refine hk _ _ (.inr ⟨rfl,by simp,?_⟩);unfold UM;rw [kc trivial,Bool.and_false]
  ·have ga:¬ (i:Int)<x.mems.length:=by omega
   simp [fJ,-V,-y4,-y3,y0,e2,m2,e8,ga];refine hk _ _ (.inl ⟨rfl,?_⟩);rw [yC (by omega)] at om;unfold UM;rw [jh,om];rfl
 ·refine ⟨?_,?_,?_,?_,?_,?_⟩ <;> simp [e2,e3,m2,m3,jA]
 ·rcases h with ⟨rfl,hf⟩ | ⟨rfl,e4,hf⟩
  ·simp [-V,-y4,-y3,y0,hf]
  ·simp [-V,-y4,-y3,y0,e4,hf]
end
def sP (mns:SB->SB->Bool) (xs:List SB):List SB->Int
 | []=>0
 | g :: r=>if 0<=QB xs g.id then (match xs[(QB xs g.id).toNat]? with
   | some f=>if f.has=true then (if g.has=true then (if mns f g=true then sP mns xs r else 10) else 7) else sP mns xs r
   | none=>sP mns xs r) else if g.has=true then sP mns xs r else 7
def crP (ys:List SB) (f:SB):Bool:=f.crit&&!decide (0<=QB ys f.id)
def FN (mns:SB->SB->Bool) (xs ys:List SB):Int:=if sP mns xs ys=0 then (if xs.any (crP ys)=true then 6 else 0) else sP mns xs ys
def FW (w r:DH) (mns:SB->SB->Bool) (xs ys:List SB):Prop:=∀ f∈xs,∀ g∈ys,f.has=true->g.has=true →
 (∃ (u:Vl) (e:Int),fA 155 [.agg (TA w),.int .i64 f.ty,.agg (lA f.dflt),.agg (TA r),.int .i64 g.ty] (.tup [.agg (lA u),.int .i64 e])/\(e=0->fA 156 [.agg (lA u),.agg (lA g.dflt)] (.bool (mns f g)))/\(e≠0->mns f g=false)) ∧
 fA 157 [.agg (TA w),.int .i64 f.ty,.agg (lA f.dflt),.agg (TA r),.int .i64 g.ty,.agg (lA g.dflt)] (.bool (mns f g))
theorem u0 {α:Type} (p:α->Bool) (l:List α) {i:Nat} (h:i<l.length):(l.take (i + 1)).any p=((l.take i).any p||p l[i]):=by
 rw [<- yE h,List.any_append];simp
theorem any_yes {α:Type} (p:α->Bool) (l:List α) {i:Nat} (h:i<l.length) (hp:p l[i]=true):l.any p=true:=List.any_eq_true.2 ⟨_,y7 h,hp⟩
theorem fO {l:List SB} {id:Int} (h:0<=QB l id):∃ f,l[(QB l id).toNat]?=some f/\f∈l:=by
 obtain ⟨f,h1,_⟩:=PN (fun x:SB=>decide (x.id=id)) l (by unfold QB at h; omega);exact ⟨f,h1,yl h1⟩
section
variable (w r:DH) (x y:sA) (wu:x.mems.length<=8796093022206) (hym:y.mems.length<=8796093022206) {mns:SB->SB->Bool} (hR:FW w r mns x.mems y.mems)
include w r x y wu hym mns hR
theorem J9:fA 131 [.agg (TA w),.agg (qA x),.agg (TA r),.agg (qA y)] (.int .i64 (FN mns x.mems y.mems)):=by
 refine rA (c:=qG) rfl rfl ?_;simp only [TA];simp [qG,-V,-y4,-y3,y0,qA];refine gA y.mems.length (fun i s=>(s.env 4).v=.ptr 4 1 0/\(s.env 5).v=.ptr 5 1 0/\(s.env 6).v=.ptr 6 1 0/\(s.env 7).v=.ptr 7 1 0/\s.mem 4 1=some [⟨.sl w.nl (w.types.map qA),.no⟩]/\s.mem 5 1=some (jA x)/\s.mem 6 1=some [⟨.sl r.nl (r.types.map qA),.no⟩]/\s.mem 7 1=some (jA y)/\(s.env 21).v=.sl y.mn (y.mems.map zA)/\(s.env 22).v=.int .i64 y.mems.length/\(s.env 23).v=.int .i64 i/\sP mns x.mems (y.mems.drop i)=sP mns x.mems y.mems)
  (fun e s=>(e=.exit 0/\(s.env 5).v=.ptr 5 1 0/\(s.env 7).v=.ptr 7 1 0/\s.mem 5 1=some (jA x)/\s.mem 7 1=some (jA y)/\sP mns x.mems y.mems=0)\/(e=.ret/\(s.env 8).v=.int .i64 (FN mns x.mems y.mems))) (fun i hi s k h ih hk=>?_) _ _ ?_ (fun e s h=>?_)
 ·obtain ⟨e4,e5,e6,e7,m4,m5,m6,m7,iu,rq,ww,ab⟩:=h;refine tA ?_;by_cases fa:i<y.mems.length
  ·have ga:(i:Int)<y.mems.length:=by omega
   have g1:(y.mems.map zA)[i]?=some (zA y.mems[i]):=by simp [fa]
   have sc:=GA (i:=i);have nu:=y7 fa;rw [y8 fa,sP] at ab;generalize y.mems[i]=g at *
   have gb:=FX x g.id (by omega);simp only [zA] at g1;simp only [jA] at m5 m7;simp only [fA,qA,GQ] at gb;have done:∀ (E:Nat->wA) (M:Nat->Nat->Option (List wA)) (nx:Nat) (z:Int),(E 8).v=.int .i64 z->sP mns x.mems y.mems=z->z≠0->k .ret ⟨E,M,nx,s.obj,s.gh⟩=some (.int .i64 (FN mns x.mems y.mems),none):=fun E M nx z h1 h2 h3=>hk _ _ (.inr ⟨rfl,by unfold FN; rw [if_neg (by omega),h2]; exact h1⟩)
   by_cases c:0<=QB x.mems g.id
   ·obtain ⟨f,hf,hfm⟩:=fO c;rw [if_pos c,hf] at ab;simp only at ab;simp only [c,decide_true] at gb;have gf:(x.mems.map zA)[(QB x.mems g.id).toNat]?=some (zA f):=by rw [ye,hf]; rfl
    have ed:max (QB x.mems g.id) 0=QB x.mems g.id:=by omega
    generalize QB x.mems g.id=ix at *
    rw [ed] at gb;simp only [zA] at gf;by_cases bj:f.has=true
    ·rw [if_pos bj] at ab;by_cases te:g.has=true
     ·rw [if_pos te] at ab;obtain ⟨⟨u,e,hrd,hq0,hq1⟩,_⟩:=hR f hfm g nu bj te;simp only [fA,TA,uA] at hrd hq0;by_cases he:e=0
      ·have hq:=hq0 he;subst he;by_cases hm:mns f g=true
       ·rw [if_pos hm] at ab;rw [hm] at hq;simp [nB,-V,-y4,-y3,y0,e4,e5,e6,e7,m4,m5,m6,m7,iu,rq,ww,ga,g1,gb,gf,c,bj,te,hrd,hq,sc];refine ih fa _ ⟨?_,?_,?_,?_,?_,?_,?_,?_,?_,?_,?_,ab⟩ <;> simp [e4,e5,e6,e7,m4,m5,m6,m7,iu,rq,jA]
       ·have bd:mns f g=false:=by simpa using hm
        rw [if_neg hm] at ab;rw [bd] at hq;simp [nB,-V,-y4,-y3,y0,e4,e5,e6,e7,m4,m5,m6,m7,iu,rq,ww,ga,g1,gb,gf,c,bj,te,hrd,hq,sc];exact done _ _ _ 10 (by simp) ab.symm (by omega)
      ·have bd:=hq1 he;rw [if_neg (by simp [bd])] at ab;simp [nB,-V,-y4,-y3,y0,e4,e5,e6,e7,m4,m5,m6,m7,iu,rq,ww,ga,g1,gb,gf,c,bj,te,hrd,he,sc];exact done _ _ _ 10 (by simp) ab.symm (by omega)
     ·have rm:g.has=false:=by simpa using te
      rw [if_neg te] at ab;simp [nB,-V,-y4,-y3,y0,e4,e5,e6,e7,m4,m5,m6,m7,iu,rq,ww,ga,g1,gb,gf,c,bj,rm,sc];exact done _ _ _ 7 (by simp) ab.symm (by omega)
    ·have gw:f.has=false:=by simpa using bj
     rw [if_neg bj] at ab;simp [nB,-V,-y4,-y3,y0,e4,e5,e6,e7,m4,m5,m6,m7,iu,rq,ww,ga,g1,gb,gf,c,gw,sc];refine ih fa _ ⟨?_,?_,?_,?_,?_,?_,?_,?_,?_,?_,?_,ab⟩ <;> simp [e4,e5,e6,e7,m4,m5,m6,m7,iu,rq,jA]
   ·rw [if_neg c] at ab;simp only [c,decide_false] at gb;by_cases te:g.has=true
    ·rw [if_pos te] at ab;simp [nB,-V,-y4,-y3,y0,e4,e5,e6,e7,m4,m5,m6,m7,iu,rq,ww,ga,g1,gb,te,sc];refine ih fa _ ⟨?_,?_,?_,?_,?_,?_,?_,?_,?_,?_,?_,ab⟩ <;> simp [e4,e5,e6,e7,m4,m5,m6,m7,iu,rq,jA]
    ·have rm:g.has=false:=by simpa using te
     rw [if_neg te] at ab;simp [nB,-V,-y4,-y3,y0,e4,e5,e6,e7,m4,m5,m6,m7,iu,rq,ww,ga,g1,gb,rm,sc];exact done _ _ _ 7 (by simp) ab.symm (by omega)
  ·have ga:¬ (i:Int)<y.mems.length:=by omega
   simp [nB,-V,-y4,-y3,y0,rq,ww,ga];refine hk _ _ (.inl ⟨rfl,by simp [e5],by simp [e7],by simp [m5],by simp [m7],?_⟩);rw [yc (by omega),sP] at ab;exact ab.symm
 ·refine ⟨?_,?_,?_,?_,?_,?_,?_,?_,?_,?_,?_,?_⟩ <;> simp [jA]
 rcases h with ⟨rfl,e5,e7,m5,m7,h0⟩ | ⟨rfl,e8⟩
 case inr=>simp [-V,-y4,-y3,y0,e8]
 simp only [jA] at m5;simp [-V,-y4,-y3,y0,e5,m5];have md:FN mns x.mems y.mems=if x.mems.any (crP y.mems)=true then 6 else 0:=by unfold FN; rw [if_pos h0]
 refine gA x.mems.length (fun i s=>(s.env 7).v=.ptr 7 1 0/\s.mem 7 1=some (jA y)/\(s.env 73).v=.sl x.mn (x.mems.map zA)/\(s.env 74).v=.int .i64 x.mems.length/\(s.env 75).v=.int .i64 i/\(x.mems.take i).any (crP y.mems)=false)
  (fun e s=>(e=.exit 2/\x.mems.any (crP y.mems)=false)\/(e=.ret/\(s.env 8).v=.int .i64 6/\x.mems.any (crP y.mems)=true)) (fun i hi s k h ih hk=>?_) _ _ ?_ (fun e s h=>?_)
 ·obtain ⟨e7,m7,e73,e74,e75,jh⟩:=h;refine tA ?_;by_cases fa:i<x.mems.length
  ·have ga:(i:Int)<x.mems.length:=by omega
   have g1:(x.mems.map zA)[i]?=some (zA x.mems[i]):=by simp [fa]
   have sc:=GA (i:=i);have gb:=FX y x.mems[i].id (by omega);have ph:=u0 (crP y.mems) x.mems fa;have fk:=any_yes (crP y.mems) x.mems fa;generalize x.mems[i]=q at *
   simp only [zA] at g1;simp only [jA] at m7;simp only [fA,qA,GQ] at gb;simp only [crP] at ph fk;by_cases c:0<=QB y.mems q.id
   ·simp only [c,decide_true] at gb;simp only [c,decide_true,Bool.not_true,Bool.and_false,Bool.or_false] at ph;simp [TD,-V,-y4,-y3,y0,e7,m7,e73,e74,e75,ga,g1,gb,sc];refine ih fa _ ⟨?_,?_,?_,?_,?_,ph.trans jh⟩ <;> simp [e7,m7,e73,e74,jA]
   ·simp only [c,decide_false] at gb;cases wv:q.crit with
    | true =>
     simp [TD,-V,-y4,-y3,y0,e7,m7,e73,e74,e75,ga,g1,gb,wv,sc];exact hk _ _ (.inr ⟨rfl,by simp,fk (by simp [wv,c])⟩)
    | false =>
     simp [TD,-V,-y4,-y3,y0,e7,m7,e73,e74,e75,ga,g1,gb,wv,sc];refine ih fa _ ⟨?_,?_,?_,?_,?_,by rw [ph,jh,wv]; rfl⟩ <;> simp [e7,m7,e73,e74,jA]
  ·have ga:¬ (i:Int)<x.mems.length:=by omega
   simp [TD,-V,-y4,-y3,y0,e74,e75,ga];rw [yC (by omega)] at jh;exact hk _ _ (.inl ⟨rfl,jh⟩)
 ·refine ⟨?_,?_,?_,?_,?_,?_⟩ <;> simp [e7,m7,jA]
 ·rcases h with ⟨rfl,hf⟩ | ⟨rfl,e8,hf⟩
  ·simp [-V,-y4,-y3,y0,md,hf]
  ·simp [-V,-y4,-y3,y0,e8,md,hf]
theorem rrecord_ev:fA 134 [.agg (TA w),.agg (qA x),.agg (TA r),.agg (qA y)] (.int .i64 (FN mns x.mems y.mems)):=by
 refine rA (c:=jJ) rfl rfl ?_;simp only [TA];simp [jJ,-V,-y4,-y3,y0,qA];refine gA y.mems.length (fun i s=>(s.env 4).v=.ptr 4 1 0/\(s.env 5).v=.ptr 5 1 0/\(s.env 6).v=.ptr 6 1 0/\(s.env 7).v=.ptr 7 1 0/\s.mem 4 1=some [⟨.sl w.nl (w.types.map qA),.no⟩]/\s.mem 5 1=some (jA x)/\s.mem 6 1=some [⟨.sl r.nl (r.types.map qA),.no⟩]/\s.mem 7 1=some (jA y)/\(s.env 9).v=.int .i64 i/\sP mns x.mems (y.mems.drop i)=sP mns x.mems y.mems)
  (fun e s=>(e=.exit 0/\(s.env 5).v=.ptr 5 1 0/\(s.env 7).v=.ptr 7 1 0/\s.mem 5 1=some (jA x)/\s.mem 7 1=some (jA y)/\sP mns x.mems y.mems=0)\/(e=.ret/\(s.env 8).v=.int .i64 (FN mns x.mems y.mems))) (fun i hi s k h ih hk=>?_) _ _ ?_ (fun e s h=>?_)
 ·obtain ⟨e4,e5,e6,e7,m4,m5,m6,m7,e9,ab⟩:=h;refine tA ?_;simp only [jA] at m5 m7;by_cases fa:i<y.mems.length
  ·have ga:(i:Int)<y.mems.length:=by omega
   have g1:(y.mems.map zA)[i]?=some (zA y.mems[i]):=by simp [fa]
   have sc:=GA (i:=i);have nu:=y7 fa;rw [y8 fa,sP] at ab;generalize y.mems[i]=g at *
   have gb:=TT x g.id (by omega);simp only [zA] at g1;simp only [fA,qA,GQ] at gb;have done:∀ (E:Nat->wA) (M:Nat->Nat->Option (List wA)) (nx:Nat) (z:Int),(E 8).v=.int .i64 z->sP mns x.mems y.mems=z->z≠0->k .ret ⟨E,M,nx,s.obj,s.gh⟩=some (.int .i64 (FN mns x.mems y.mems),none):=fun E M nx z h1 h2 h3=>hk _ _ (.inr ⟨rfl,by unfold FN; rw [if_neg (by omega),h2]; exact h1⟩)
   by_cases c:0<=QB x.mems g.id
   ·obtain ⟨f,hf,hfm⟩:=fO c;rw [if_pos c,hf] at ab;simp only at ab;simp only [c,decide_true] at gb;have gf:(x.mems.map zA)[(QB x.mems g.id).toNat]?=some (zA f):=by rw [ye,hf]; rfl
    have ed:max (QB x.mems g.id) 0=QB x.mems g.id:=by omega
    generalize QB x.mems g.id=ix at *
    rw [ed] at gb;simp only [zA] at gf;by_cases bj:f.has=true
    ·rw [if_pos bj] at ab;by_cases te:g.has=true
     ·rw [if_pos te] at ab;obtain ⟨_,hq⟩:=hR f hfm g nu bj te;simp only [fA,TA,uA] at hq;by_cases hm:mns f g=true
      ·rw [if_pos hm] at ab;rw [hm] at hq;simp [pC,-V,-y4,-y3,y0,e4,e5,e6,e7,m4,m5,m6,m7,e9,ga,g1,gb,gf,c,bj,te,hq,sc];refine ih fa _ ⟨?_,?_,?_,?_,?_,?_,?_,?_,?_,ab⟩ <;> simp [e4,e5,e6,e7,m4,m5,m6,m7,jA]
      ·have bd:mns f g=false:=by simpa using hm
       rw [if_neg hm] at ab;rw [bd] at hq;simp [pC,-V,-y4,-y3,y0,e4,e5,e6,e7,m4,m5,m6,m7,e9,ga,g1,gb,gf,c,bj,te,hq,sc];exact done _ _ _ 10 (by simp) ab.symm (by omega)
     ·have rm:g.has=false:=by simpa using te
      rw [if_neg te] at ab;simp [pC,-V,-y4,-y3,y0,e4,e5,e6,e7,m4,m5,m6,m7,e9,ga,g1,gb,gf,c,bj,rm,sc];exact done _ _ _ 7 (by simp) ab.symm (by omega)
    ·have gw:f.has=false:=by simpa using bj
     rw [if_neg bj] at ab;cases te:g.has with
     | true =>
      simp [pC,-V,-y4,-y3,y0,e4,e5,e6,e7,m4,m5,m6,m7,e9,ga,g1,gb,gf,c,gw,te,sc];refine ih fa _ ⟨?_,?_,?_,?_,?_,?_,?_,?_,?_,ab⟩ <;> simp [e4,e5,e6,e7,m4,m5,m6,m7,jA]
     | false =>
      simp [pC,-V,-y4,-y3,y0,e4,e5,e6,e7,m4,m5,m6,m7,e9,ga,g1,gb,gf,c,gw,te,sc];refine ih fa _ ⟨?_,?_,?_,?_,?_,?_,?_,?_,?_,ab⟩ <;> simp [e4,e5,e6,e7,m4,m5,m6,m7,jA]
   ·rw [if_neg c] at ab;simp only [c,decide_false] at gb;by_cases te:g.has=true
    ·rw [if_pos te] at ab;simp [pC,-V,-y4,-y3,y0,e4,e5,e6,e7,m4,m5,m6,m7,e9,ga,g1,gb,te,sc];refine ih fa _ ⟨?_,?_,?_,?_,?_,?_,?_,?_,?_,ab⟩ <;> simp [e4,e5,e6,e7,m4,m5,m6,m7,jA]
    ·have rm:g.has=false:=by simpa using te
     rw [if_neg te] at ab;simp [pC,-V,-y4,-y3,y0,e4,e5,e6,e7,m4,m5,m6,m7,e9,ga,g1,gb,rm,sc];exact done _ _ _ 7 (by simp) ab.symm (by omega)
  ·have ga:¬ (i:Int)<y.mems.length:=by omega
   simp [pC,-V,-y4,-y3,y0,e7,m7,e9,ga];refine hk _ _ (.inl ⟨rfl,by simp [e5],by simp [e7],by simp [m5],by simp [m7],?_⟩);rw [yc (by omega),sP] at ab;exact ab.symm
 ·refine ⟨?_,?_,?_,?_,?_,?_,?_,?_,?_,?_⟩ <;> simp [jA]
 rcases h with ⟨rfl,e5,e7,m5,m7,h0⟩ | ⟨rfl,e8⟩
 case inr=>simp [-V,-y4,-y3,y0,e8]
 simp [-V,-y4,-y3,y0];have md:FN mns x.mems y.mems=if x.mems.any (crP y.mems)=true then 6 else 0:=by unfold FN; rw [if_pos h0]
 refine gA x.mems.length (fun i s=>(s.env 5).v=.ptr 5 1 0/\(s.env 7).v=.ptr 7 1 0/\s.mem 5 1=some (jA x)/\s.mem 7 1=some (jA y)/\(s.env 13).v=.int .i64 i/\(x.mems.take i).any (crP y.mems)=false)
  (fun e s=>(e=.exit 2/\x.mems.any (crP y.mems)=false)\/(e=.ret/\(s.env 8).v=.int .i64 6/\x.mems.any (crP y.mems)=true)) (fun i hi s k h ih hk=>?_) _ _ ?_ (fun e s h=>?_)
 ·obtain ⟨e5,e7,m5,m7,al,jh⟩:=h;refine tA ?_;simp only [jA] at m5 m7;by_cases fa:i<x.mems.length
  ·have ga:(i:Int)<x.mems.length:=by omega
   have g1:(x.mems.map zA)[i]?=some (zA x.mems[i]):=by simp [fa]
   have sc:=GA (i:=i);have gb:=TT y x.mems[i].id (by omega);have ph:=u0 (crP y.mems) x.mems fa;have fk:=any_yes (crP y.mems) x.mems fa;generalize x.mems[i]=q at *
   simp only [zA] at g1;simp only [fA,qA,GQ] at gb;simp only [crP] at ph fk;by_cases c:0<=QB y.mems q.id
   ·simp only [c,decide_true] at gb;simp only [c,decide_true,Bool.not_true,Bool.and_false,Bool.or_false] at ph;simp [tF,-V,-y4,-y3,y0,e5,e7,m5,m7,al,ga,g1,gb,sc];refine ih fa _ ⟨?_,?_,?_,?_,?_,ph.trans jh⟩ <;> simp [e5,e7,m5,m7,jA]
   ·simp only [c,decide_false] at gb;cases wv:q.crit with
    | true =>
     simp [tF,-V,-y4,-y3,y0,e5,e7,m5,m7,al,ga,g1,gb,wv,sc];exact hk _ _ (.inr ⟨rfl,by simp,fk (by simp [wv,c])⟩)
    | false =>
     simp [tF,-V,-y4,-y3,y0,e5,e7,m5,m7,al,ga,g1,gb,wv,sc];refine ih fa _ ⟨?_,?_,?_,?_,?_,by rw [ph,jh,wv]; rfl⟩ <;> simp [e5,e7,m5,m7,jA]
  ·have ga:¬ (i:Int)<x.mems.length:=by omega
   simp [tF,-V,-y4,-y3,y0,e5,m5,al,ga];rw [yC (by omega)] at jh;exact hk _ _ (.inl ⟨rfl,jh⟩)
 ·refine ⟨?_,?_,?_,?_,?_,?_⟩ <;> simp [e5,e7,m5,m7,jA]
 ·rcases h with ⟨rfl,hf⟩ | ⟨rfl,e8,hf⟩
  ·simp [-V,-y4,-y3,y0,md,hf]
  ·simp [-V,-y4,-y3,y0,e8,md,hf]
end
abbrev Pr:=Int × Int
def XL (p:Pr):List AV:=[.int .i64 p.1,.int .i64 p.2]
theorem U2:kB 16 1=true:=by decide
theorem c9:kB 16 2=true:=by decide
theorem rX (l:List Pr):lB 2 (l.map XL)=true:=lC _ _ _ fun _=>rfl
section
variable (l:List Pr) (hl:l.length<=9223372036854775807) (b:Bool) (p:Pr)
include l hl b p
theorem rin_ev:fA 35 [.sl b (l.map XL),.agg (XL p)] (.bool (decide (p∈l))):=by
 refine rA (c:=qO) rfl rfl ?_;simp [qO,-V,-y4,-y3,y0,XL];refine gA l.length (fun i s=>(s.env 0).v=.sl b (l.map XL)/\(s.env 3).v=.ptr 3 1 0/\s.mem 3 1=some [⟨.int .i64 p.1,.no⟩,⟨.int .i64 p.2,.no⟩]/\(s.env 5).v=.int .i64 i/\(decide (p∈l)=decide (p∈l.drop i)))
  (fun e s=>(e=.exit 0/\¬ p∈l)\/(e=.ret/\(s.env 4).v=.bool true/\p∈l)) (fun i hi s k h ih hk=>?_) _ _ ?_ (fun e s h=>?_)
 ·obtain ⟨e0,e3,m3,e5,hd⟩:=h;refine tA ?_;by_cases fa:i<l.length
  ·have ga:(i:Int)<l.length:=by omega
   have g1:(l.map XL)[i]?=some (XL l[i]):=by simp [fa]
   have hw:=GA (i:=i);rw [y8 fa] at hd;generalize l[i]=q at *
   simp only [XL] at g1;by_cases c1:q.1=p.1
   ·by_cases c2:q.2=p.2
    ·have e:q=p:=Prod.ext c1 c2;simp [CH,-V,-y4,-y3,y0,e0,e3,m3,e5,ga,g1,c1,c2,hw];refine hk _ _ (.inr ⟨rfl,by simp,?_⟩);simp [e] at hd;exact hd
    ·have e:¬ p=q:=fun h=>c2 (by rw [h])
     simp [CH,-V,-y4,-y3,y0,e0,e3,m3,e5,ga,g1,c1,c2,hw];refine ih fa _ ⟨?_,?_,?_,?_,?_⟩ <;> simp [e0,e3,m3]
     simpa [e] using hd
   ·have e:¬ p=q:=fun h=>c1 (by rw [h])
    simp [CH,-V,-y4,-y3,y0,e0,e3,m3,e5,ga,g1,c1,hw];refine ih fa _ ⟨?_,?_,?_,?_,?_⟩ <;> simp [e0,e3,m3]
    simpa [e] using hd
  ·have ga:¬ (i:Int)<l.length:=by omega
   simp [CH,-V,-y4,-y3,y0,e0,e5,ga];refine hk _ _ (.inl ⟨rfl,?_⟩);rw [yc (by omega)] at hd;simpa using hd
 ·refine ⟨?_,?_,?_,?_,?_⟩ <;> simp [XL]
 ·rcases h with ⟨rfl,hn⟩ | ⟨rfl,e4,hy⟩
  ·simp [-V,-y4,-y3,y0,hn]
  ·simp [-V,-y4,-y3,y0,e4,hy]
theorem index_ev:fA 158 [.sl b (l.map XL),.agg (XL p)] (.int .i64 (KA (fun q=>decide (q=p)) l)):=by
 refine rA (c:=XE) rfl rfl ?_;simp [XE,-V,-y4,-y3,y0,XL];refine gA l.length (fun i s=>(s.env 0).v=.sl b (l.map XL)/\(s.env 3).v=.ptr 3 1 0/\s.mem 3 1=some [⟨.int .i64 p.1,.no⟩,⟨.int .i64 p.2,.no⟩]/\(s.env 7).v=.int .i64 l.length/\(s.env 8).v=.int .i64 i/\(KA (fun q=>decide (q=p)) l=if KA (fun q=>decide (q=p)) (l.drop i)=-1 then -1 else KA (fun q=>decide (q=p)) (l.drop i) + i))
  (fun e s=>(e=.exit 0/\KA (fun q=>decide (q=p)) l=-1)\/(e=.ret/\(s.env 4).v=.int .i64 (KA (fun q=>decide (q=p)) l))) (fun i hi s k h ih hk=>?_) _ _ ?_ (fun e s h=>?_)
 ·obtain ⟨e0,e3,m3,e7,e8,hd⟩:=h;refine tA ?_;by_cases fa:i<l.length
  ·have ga:(i:Int)<l.length:=by omega
   have g1:(l.map XL)[i]?=some (XL l[i]):=by simp [fa]
   have hw:=GA (i:=i);have mf:=XC (fun q=>decide (q=p)) (l.drop (i + 1));rw [y8 fa] at hd;generalize l[i]=q at *
   simp only [XL] at g1;have no:¬ q=p->KA (fun q=>decide (q=p)) l=if KA (fun q=>decide (q=p)) (l.drop (i + 1))=-1 then -1 else KA (fun q=>decide (q=p)) (l.drop (i + 1)) + ((i + 1:Nat):Int):=fun e=>by
    rw [mG _ _ _ (by simpa using e)] at hd;rw [hd];split
    ·rename_i h; simp [h]
    ·rename_i h; rw [if_neg (by omega)]; omega
   by_cases c1:q.1=p.1
   ·by_cases c2:q.2=p.2
    ·have e:q=p:=Prod.ext c1 c2;simp [qD,-V,-y4,-y3,y0,e0,e3,m3,e7,e8,ga,g1,c1,c2,hw];refine hk _ _ (.inr ⟨rfl,?_⟩);rw [hd];simp [e,KA]
    ·have oq:¬ p.2=q.2:=fun h=>c2 h.symm
     simp [qD,-V,-y4,-y3,y0,e0,e3,m3,e7,e8,ga,g1,c1,oq,hw];refine ih fa _ ⟨?_,?_,?_,?_,?_,no fun h=>c2 (by rw [h])⟩ <;> simp [e0,e3,m3,e7]
   ·have bi:¬ p.1=q.1:=fun h=>c1 h.symm
    simp [qD,-V,-y4,-y3,y0,e0,e3,m3,e7,e8,ga,g1,bi,hw];refine ih fa _ ⟨?_,?_,?_,?_,?_,no fun h=>c1 (by rw [h])⟩ <;> simp [e0,e3,m3,e7]
  ·have ga:¬ (i:Int)<l.length:=by omega
   simp [qD,-V,-y4,-y3,y0,e7,e8,ga];refine hk _ _ (.inl ⟨rfl,?_⟩);rw [yc (by omega)] at hd;simpa [KA] using hd
 ·refine ⟨?_,?_,?_,?_,?_,?_⟩ <;> simp [XL]
 ·rcases h with ⟨rfl,hn⟩ | ⟨rfl,e4⟩
  ·simp [-V,-y4,-y3,y0,hn]
  ·simp [-V,-y4,-y3,y0,e4]
theorem N7:fA 136 [.sl b (l.map XL),.agg (XL p)] (.bool (decide (p∈l))):=by
 have h:=index_ev l hl b p;refine rA (c:=ZD) rfl rfl ?_;simp only [fA,XL] at h;have h2:decide (p∈l)=decide (0<=KA (fun q=>decide (q=p)) l):=by
  rw [ON];by_cases hp:p∈l
  ·rw [decide_eq_true hp,List.any_eq_true.2 ⟨p,hp,by simp⟩]
  ·rw [decide_eq_false hp]
   symm
   rw [List.any_eq_false];intro x hx;simp only [decide_eq_true_eq];rintro rfl;exact hp hx
 rw [h2];simp [ZD,-V,-y4,-y3,y0,XL,h]
end
def KF (out:List Pr) (p:Pr):List Pr:=if p∈out then out else out++[p]
def A3 (ys:List SB) (f:SB):List Pr:=if 0<=QB ys f.id then (match ys[(QB ys f.id).toNat]? with
 | some g=>[(f.ty,g.ty)]
 | none=>[]) else []
def RN (xs ys:List SB):List Pr:=xs.flatMap (A3 ys)
def B3 (x y:sA):List Pr:=if x.kind=8/\0<x.max then [(x.key,y.key)] else []
def US (x y:sA):List Pr:=if x.kind=9\/(x.kind=7\/x.kind=8)/\0<x.max then [(x.elem,y.elem)] else []
def HN (x y:sA):List Pr:=if x.kind=y.kind then (RN x.mems y.mems++B3 x y++US x y).foldl KF [] else []
theorem comM_len (ys:List SB) (f:SB):(A3 ys f).length<=1:=by
 unfold A3;split
 ·split <;> simp
 ·simp
theorem E5 (out:List Pr) (p:Pr):(KF out p).length<=out.length + 1:=by
 unfold KF;split <;> simp
theorem lS:∀ (l out:List Pr),(l.foldl KF out).length<=out.length + l.length
 | [],out=>by simp
 | p :: r,out=>by
  have h1:=lS r (KF out p);have h2:=E5 out p;simp only [List.foldl_cons,yI];omega
theorem WP (ys:List SB):∀ xs:List SB,(RN xs ys).length<=xs.length
 | []=>by simp [RN]
 | f :: r=>by
  have h1:=WP ys r;have h2:=comM_len ys f;simp only [RN,List.flatMap_cons,yy,yI] at h1 ⊢;omega
def UJ (out:List Pr) (a:An):List wA:=[⟨.sl out.isEmpty (out.map XL),a⟩]
def outAn (out:List Pr) (a:An):Prop:=out=[]/\a=.ex\/out≠[]/\a=.own 16 63
theorem add_ev {r:RV} (out:List Pr) (ia:out.length<=1000000) (a b:Int) {a1 a2 a3:An} {s:pA} {t n:Nat} {an:An} (ht:t≠5) (hm:s.mem t n=some (UJ out an)) (dp:outAn out an) (k:wA->pA->Option RV)
  (hk:∀ y s' an',s.next<=s'.next->s'.mem t n=some (UJ (KF out (a,b)) an')->outAn (KF out (a,b)) an'->(∀ j,(s'.gh j).v=(s.gh j).v)->(∀ t' n' row,t'≠5->¬ (t'=t/\n'=n)->s.mem t' n'=some row->(∀ x∈row,x.a=.no)->s'.mem t' n'=some row)->k y s'=some r) :
  evH dA eA 135 [⟨.int .i64 a,a1⟩,⟨.int .i64 b,a2⟩,⟨.ptr t n 0,a3⟩] s k=some r:=by
 refine H0 iC rfl rfl ?_;have hc:=N7 out (by omega) out.isEmpty (a,b);have q:=rX out;have ja:kB 16 (out.length + 1)=true:=by rw [PA]; omega
 have ka:∀ (row:List wA),(∀ x∈row,x.a=.no)->row.map (wA.strip 16)=row:=fun row h=>by
  conv=>rhs; rw [<- List.map_id row]
  refine yr fun x hx=>?_
  have:=h x hx;cases x;simp only at this;subst this;rfl
 simp only [fA,XL] at hc;simp only [UJ] at hm;by_cases cf:(a,b)∈out
 ·rw [decide_eq_true cf] at hc;have ly:KF out (a,b)=out:=if_pos cf;rw [ly] at hk;simp [iC,-V,-y4,-y3,y0,hm,ht,hc];refine hk _ _ an ?_ ?_ dp ?_ ?_
  ·simp; omega
  ·simp [hm,ht,UJ]
  ·intro j; simp
  ·intro t' n' row h5 la h1 _;simp [h5,h1]
 ·rw [decide_eq_false cf] at hc;have ly:KF out (a,b)=out++[(a,b)]:=if_neg cf;rw [ly] at hk;rcases dp with ⟨rfl,rfl⟩ | ⟨la,rfl⟩
  ·simp only [List.isEmpty_nil,yk] at hc hm;simp [iC,-V,-y4,-y3,y0,hm,ht,hc,U2];refine hk _ _ (.own 16 63) ?_ ?_ (.inr ⟨by simp,rfl⟩) ?_ ?_
   ·simp; omega
   ·simp [hm,ht,UJ,XL]
   ·intro j; simp
   ·intro t' n' row h5 la h1 h2;have:=ka row h2;simp [h5,la,h1,this]
  ·have bg:out.isEmpty=false:=by simpa using la
   rw [bg] at hm hc;simp [iC,-V,-y4,-y3,y0,hm,ht,hc,ja,q];refine hk _ _ (.own 16 63) ?_ ?_ (.inr ⟨by simp,rfl⟩) ?_ ?_
   ·simp; omega
   ·simp [hm,ht,UJ,XL]
   ·intro j; simp
   ·intro t' n' row h5 la h1 h2;have:=ka row h2;simp [h5,la,h1,this]
theorem U0 {ys:List SB} {f:SB} (h:0<=QB ys f.id) {g:SB} (hg:ys[(QB ys f.id).toNat]?=some g):A3 ys f=[(f.ty,g.ty)]:=by
 unfold A3;rw [if_pos h,hg]
theorem T0 {ys:List SB} {f:SB} (h:¬ 0<=QB ys f.id):A3 ys f=[]:=if_neg h
def MO (xs ys:List SB) (i:Nat):List Pr:=(RN (xs.take i) ys).foldl KF []
theorem comTo_step {xs ys:List SB} {i:Nat} (h:i<xs.length):MO xs ys (i + 1)=(A3 ys xs[i]).foldl KF (MO xs ys i):=by
 unfold MO RN;rw [<- yE h,List.flatMap_append,List.foldl_append];simp
theorem I0 (xs ys:List SB) (i:Nat):(MO xs ys i).length<=i:=by
 have h1:=lS (RN (xs.take i) ys) [];have h2:=WP ys (xs.take i);simp only [yF,List.length_nil] at h1 h2;unfold MO;omega
structure SucI (x y:sA) (out:List Pr) (s:pA):Prop where
 e9:(s.env 9).v=.ptr 9 2 0
 e10:(s.env 10).v=.ptr 10 2 0
 e11:(s.env 11).v=.ptr 11 3 0
 e12:(s.env 12).v=.fn 135 [.ptr 11 3 0]
 m9:s.mem 9 2=some (jA x)
 m10:s.mem 10 2=some (jA y)
 m11:∃ an,s.mem 11 3=some (UJ out an)/\outAn out an
theorem SucI.of {x y:sA} {out:List Pr} {s s':pA} (h:SucI x y out s) (he:∀ t,9<=t->t<=12->(s'.env t).v=(s.env t).v) (hm:∀ t n,9<=t->t<=11->s'.mem t n=s.mem t n):SucI x y out s':=by
 obtain ⟨h1,h2,h3,h4,h5,h6,h7⟩:=h;exact ⟨by rw [he 9 (by omega) (by omega),h1],by rw [he 10 (by omega) (by omega),h2],by rw [he 11 (by omega) (by omega),h3],by rw [he 12 (by omega) (by omega),h4],by rw [hm 9 _ (by omega) (by omega),h5],by rw [hm 10 _ (by omega) (by omega),h6],by rw [hm 11 _ (by omega) (by omega)]; exact h7⟩
theorem Z2 (x:sA):∀ s∈jA x,s.a=.no:=by simp [jA]
theorem OT {r:RV} {x y:sA} {out:List Pr} {E:Nat->wA} {M:Nat->Nat->Option (List wA)} {n:Nat} {ob:Nat->Nat->Option AV} {g:Nat->wA} (h:SucI x y out ⟨E,M,n,ob,g⟩) (ia:out.length<=1000000) (a b:Int) {a1 a2 a3:An} (k:wA->pA->Option RV)
  (hk:∀ yv s',SucI x y (KF out (a,b)) ⟨backE 99 s'.gh,s'.mem,s'.next,s'.obj,SV 99 s'.gh⟩->(∀ j,j<99->(s'.gh j).v=(E j).v)->k yv s'=some r) :
  evH dA eA 135 [⟨.int .i64 a,a1⟩,⟨.int .i64 b,a2⟩,⟨.ptr 11 3 0,a3⟩] ⟨E,M,n,ob,N2 99 E g⟩ k=some r:=by
 obtain ⟨h1,h2,h3,h4,h5,h6,an,h7,h8⟩:=h;refine add_ev (s:=⟨E,M,n,ob,N2 99 E g⟩) out ia a b (by decide) h7 h8 k (fun yv s' an' hn hm dp te ma=>?_);have hj:∀ j,j<99->(s'.gh j).v=(E j).v:=fun j hj=>by rw [te j]; simp [hj]
 refine hk yv s' ⟨?_,?_,?_,?_,?_,?_,an',hm,dp⟩ hj
 ·simpa [hj 9] using h1
 ·simpa [hj 10] using h2
 ·simpa [hj 11] using h3
 ·simpa [hj 12] using h4
 ·exact ma 9 2 _ (by decide) (by decide) h5 (Z2 x)
 ·exact ma 10 2 _ (by decide) (by decide) h6 (Z2 y)
theorem HZ (w r:DH) {x y:sA} {i k:Int} (hi:0<=i) (gx:w.types[i.toNat]?=some x) (hk:0<=k) (gy:r.types[k.toNat]?=some y) (wu:x.mems.length<=1000) (hym:y.mems.length<=1000):fA 79 [.agg (TA w),.int .i64 i,.agg (TA r),.int .i64 k] (.sl (HN x y).isEmpty ((HN x y).map XL)):=by
 have g1:(w.types.map qA)[i.toNat]?=some (qA x):=by rw [ye,gx]; rfl
 have g2:(r.types.map qA)[k.toNat]?=some (qA y):=by rw [ye,gy]; rfl
 simp only [qA] at g1 g2;refine rA (c:=UD) rfl rfl ?_;by_cases e:x.kind=y.kind
 case neg=>simp [UD,-V,-y4,-y3,y0,TA,g1,g2,hi,hk,e,HN]
 simp [UD,-V,-y4,-y3,y0,TA,g1,g2,hi,hk,e];refine gA x.mems.length (fun i s=>SucI x y (MO x.mems y.mems i) s/\(s.env 35).v=.sl x.mn (x.mems.map zA)/\(s.env 36).v=.int .i64 x.mems.length/\(s.env 37).v=.int .i64 i)
  (fun e s=>e=.exit 0/\SucI x y (MO x.mems y.mems x.mems.length) s) (fun i hi s k h ih hk=>?_) _ _ ?_ (fun e1 s h=>?_)
 ·obtain ⟨hS,xw,e36,e37⟩:=h;have iy:=hS;obtain ⟨e9,e10,e11,e12,m9,m10,an,m11,ha⟩:=hS;refine tA ?_;by_cases fa:i<x.mems.length
  ·have ga:(i:Int)<x.mems.length:=by omega
   have gm:(x.mems.map zA)[i]?=some (zA x.mems[i]):=by simp [fa]
   have sc:=GA (i:=i);have pb:=comTo_step (ys:=y.mems) fa;have dd:=I0 x.mems y.mems i;have gb:=FX y x.mems[i].id (by omega);generalize x.mems[i]=f at *
   simp only [zA] at gm;simp only [fA,qA,GQ] at gb;simp only [jA] at m9 m10;by_cases c:0<=QB y.mems f.id
   ·obtain ⟨g,hg,nu⟩:=fO c;have gg:(y.mems.map zA)[(QB y.mems f.id).toNat]?=some (zA g):=by rw [ye,hg]; rfl
    rw [U0 c hg] at pb;have ed:max (QB y.mems f.id) 0=QB y.mems f.id:=by omega
    simp only [c,decide_true,ed] at gb;generalize QB y.mems f.id=ix at *
    simp only [zA] at gg;simp [LD,-V,-y4,-y3,y0,e9,e10,e11,e12,m9,m10,xw,e36,e37,ga,gm,gb,gg,c,sc];refine OT (x:=x) (y:=y) (out:=MO x.mems y.mems i) (iy.of ?_ ?_) (by omega) _ _ _ (fun yv s' hA hj=>?_)
    ·intro t h9 ep;simp
     repeat (rw [if_neg (by omega)])
    ·intro t n h9 bm;simp
     repeat (rw [if_neg (by omega)])
    ·have j35:=hj 35 (by omega);have j36:=hj 36 (by omega);have j37:=hj 37 (by omega);simp [xw,e36,e37] at j35 j36 j37;simp [-V,-y4,-y3,y0,j37,sc];refine ih fa _ ⟨?_,?_,?_,?_⟩
     ·rw [pb];refine hA.of (fun t h9 ep=>?_) (fun t n _ _=>rfl);simp
      repeat (rw [if_neg (by omega)])
     ·simp [j35]
     ·simp [j36]
     ·simp
   ·rw [T0 c] at pb;simp only [c,decide_false] at gb;simp [LD,-V,-y4,-y3,y0,e9,e10,e11,e12,m9,m10,xw,e36,e37,ga,gm,gb,c,sc];refine ih fa _ ⟨?_,?_,?_,?_⟩
    ·rw [pb];refine iy.of (fun t h9 ep=>?_) (fun t n h9 bm=>?_)
     ·simp
      repeat (rw [if_neg (by omega)])
     ·simp
      repeat (rw [if_neg (by omega)])
    ·simp [xw]
    ·simp [e36]
    ·simp
  ·have ga:¬ (i:Int)<x.mems.length:=by omega
   have rp:i=x.mems.length:=by omega
   simp [LD,-V,-y4,-y3,y0,e36,e37,ga];refine hk _ _ ⟨rfl,?_⟩;rw [<- rp];refine iy.of (fun t h9 ep=>?_) (fun t n _ _=>rfl);simp
   repeat (rw [if_neg (by omega)])
 ·refine ⟨⟨?_,?_,?_,?_,?_,?_,.ex,?_,.inl ⟨rfl,rfl⟩⟩,?_,?_,?_⟩ <;> simp [jA,e,UJ,MO,RN]
 obtain ⟨rfl,hS⟩:=h;have dd:=I0 x.mems y.mems x.mems.length;have ld:HN x y=(B3 x y++US x y).foldl KF (MO x.mems y.mems x.mems.length):=by
  unfold HN MO;rw [if_pos e,List.take_length,List.foldl_append,List.foldl_append,List.foldl_append]
 generalize MO x.mems y.mems x.mems.length=out at *
 unfold B3 US at ld;have iy:=hS;obtain ⟨e9,e10,e11,e12,m9,m10,an,m11,ha⟩:=hS;simp only [jA] at m9 m10;rw [e] at ld;by_cases k8:y.kind=8
 ·by_cases c:0<x.max
  ·rw [if_pos ⟨k8,c⟩,if_pos (.inr ⟨.inr k8,c⟩)] at ld;simp only [List.cons_append,List.nil_append,List.foldl_cons,List.foldl_nil] at ld;simp [-V,-y4,-y3,y0,e9,e10,e11,e12,m9,m10,e,k8,c];refine OT (x:=x) (y:=y) (out:=out) (iy.of ?_ ?_) (by omega) _ _ _ (fun yv s' hA hj=>?_)
   ·intro t h9 ep;simp
    repeat (rw [if_neg (by omega)])
   ·intro t n h9 bm;rfl
   ·have hA':=hA;obtain ⟨f9,f10,f11,f12,n9,n10,an1,n11,hb⟩:=hA;simp at f9 f10 f11 f12;simp only [jA] at n9 n10;simp [-V,-y4,-y3,y0,f9,f10,f11,f12,n9,n10,e,k8,c];have up:=E5 out (x.key,y.key);refine OT (x:=x) (y:=y) (out:=KF out (x.key,y.key)) (hA'.of ?_ ?_) (by omega) _ _ _ (fun yv2 s2 hB hj2=>?_)
    ·intro t h9 ep;simp
     repeat (rw [if_neg (by omega)])
    ·intro t n h9 bm;rfl
    ·obtain ⟨b9,b10,uw,bh,p9,p10,an2,rx,hc⟩:=hB;simp at uw;simp only [UJ] at rx;simp [-V,-y4,-y3,y0,uw,rx,ld]
  ·rw [if_neg (fun h=>c h.2),if_neg (by omega)] at ld;simp only [List.append_nil,List.foldl_nil] at ld;simp only [UJ] at m11;simp [-V,-y4,-y3,y0,e9,e10,e11,e12,m9,m10,m11,e,k8,c,ld]
 rw [if_neg (fun h=>k8 h.1),List.nil_append] at ld;by_cases k9:y.kind=9
 ·rw [if_pos (.inl k9)] at ld;simp only [List.foldl_cons,List.foldl_nil] at ld;simp [-V,-y4,-y3,y0,e9,e10,e11,e12,m9,m10,e,k9];refine OT (x:=x) (y:=y) (out:=out) (iy.of ?_ ?_) (by omega) _ _ _ (fun yv s' hA hj=>?_)
  ·intro t h9 ep;simp
   repeat (rw [if_neg (by omega)])
  ·intro t n h9 bm;rfl
  ·obtain ⟨b9,b10,uw,bh,p9,p10,an2,rx,hc⟩:=hA;simp at uw;simp only [UJ] at rx;simp [-V,-y4,-y3,y0,uw,rx,ld]
 by_cases k7:y.kind=7
 ·by_cases c:0<x.max
  ·rw [if_pos (.inr ⟨.inl k7,c⟩)] at ld;simp only [List.foldl_cons,List.foldl_nil] at ld;simp [-V,-y4,-y3,y0,e9,e10,e11,e12,m9,m10,e,k7,c];refine OT (x:=x) (y:=y) (out:=out) (iy.of ?_ ?_) (by omega) _ _ _ (fun yv s' hA hj=>?_)
   ·intro t h9 ep;simp
    repeat (rw [if_neg (by omega)])
   ·intro t n h9 bm;rfl
   ·obtain ⟨b9,b10,uw,bh,p9,p10,an2,rx,hc⟩:=hA;simp at uw;simp only [UJ] at rx;simp [-V,-y4,-y3,y0,uw,rx,ld]
  ·rw [if_neg (by omega)] at ld;simp only [List.foldl_nil] at ld;simp only [UJ] at m11;simp [-V,-y4,-y3,y0,e9,e10,e11,e12,m9,m10,m11,e,k7,c,ld]
 rw [if_neg (by omega)] at ld;simp only [List.foldl_nil] at ld;simp only [UJ] at m11;simp [-V,-y4,-y3,y0,e9,e10,e11,e12,m9,m10,m11,e,k7,k8,k9,ld]
theorem comL_step {xs ys:List SB} {i:Nat} (h:i<xs.length):RN (xs.take (i + 1)) ys=RN (xs.take i) ys++A3 ys xs[i]:=by
 unfold RN;rw [<- yE h,List.flatMap_append];simp
theorem comLT_len (ys xs:List SB) (i:Nat):(RN (xs.take i) ys).length<=i:=by
 have h2:=WP ys (xs.take i);simp only [yF] at h2;omega
def apA (l:List Pr) (a:An) (k:Nat):Prop:=l=[]/\a=.ex\/l≠[]/\a=.own k 63
theorem PJ {r:RV} (l:List Pr) (hl:l.length<=1000000) (s:pA) (bm:(s.env 11).v=.sl l.isEmpty (l.map XL)) (ci:(s.env 15).v=.sl true []) (h16:(s.env 16).v=.int .i64 0) (k:Ex->pA->Option RV)
  (hk:∀ s',(s'.env 15).v=.sl (l.foldl KF []).isEmpty ((l.foldl KF []).map XL)->k (.exit 2) s'=some r):GG dA eA NE s k=some r:=by
 refine gA l.length (fun i s=>(s.env 11).v=.sl l.isEmpty (l.map XL)/\(s.env 16).v=.int .i64 i/\(s.env 15).v=.sl ((l.take i).foldl KF []).isEmpty (((l.take i).foldl KF []).map XL)/\(((l.take i).foldl KF []=[])\/((l.take i).foldl KF []≠[])/\(s.env 15).a=.own 128 63))
  (fun e s=>e=.exit 2/\(s.env 15).v=.sl (l.foldl KF []).isEmpty ((l.foldl KF []).map XL)) (fun i hi s k h ih hk=>?_) _ _ ⟨bm,h16,by simpa using ci,.inl rfl⟩ (fun e s h=>by obtain ⟨rfl,h⟩:=h; exact hk _ h)
 obtain ⟨e11,mc,be,a15⟩:=h;refine tA ?_;by_cases fa:i<l.length
 ·have ga:(i:Int)<l.length:=by omega
  have g1:(l.map XL)[i]?=some (XL l[i]):=by simp [fa]
  have hw:=GA (i:=i);have pb:(l.take (i + 1)).foldl KF []=KF ((l.take i).foldl KF []) l[i]:=by rw [<- yE fa,List.foldl_append]; rfl
  have ia:((l.take i).foldl KF []).length<=i:=by
   have:=lS (l.take i) [];simp only [yF,List.length_nil] at this;omega
  rw [pb] at ih;generalize (l.take i).foldl KF []=out at *
  generalize l[i]=p at *
  have cf:=rin_ev out (by omega) out.isEmpty p;have q:=rX out;have ja:kB 16 (out.length + 1)=true:=by rw [PA]; omega
  simp only [fA,XL] at cf g1;by_cases c:p∈out
  ·rw [decide_eq_true c] at cf;rw [show KF out p=out from if_pos c] at ih;simp [NE,-V,-y4,-y3,y0,e11,be,mc,ga,g1,cf,hw];refine ih fa _ ⟨?_,?_,?_,?_⟩
   ·simp [e11]
   ·simp
   ·simp [be]
   ·simpa using a15
  ·rw [decide_eq_false c] at cf;rw [show KF out p=out++[p] from if_neg c] at ih;rcases a15 with rfl | ⟨la,a15⟩
   ·simp at be cf;simp [NE,-V,-y4,-y3,y0,e11,be,mc,ga,g1,cf,hw,U2,c9];refine ih fa _ ⟨?_,?_,?_,.inr ⟨by simp,?_⟩⟩
    ·simp [e11]
    ·simp
    ·simp [XL]
    ·simp
   ·have bg:out.isEmpty=false:=by simpa using la
    rw [bg] at be cf;simp [NE,-V,-y4,-y3,y0,e11,be,a15,mc,ga,g1,cf,hw,ja,q];refine ih fa _ ⟨?_,?_,?_,.inr ⟨by simp,?_⟩⟩
    ·simp [e11]
    ·simp
    ·simp [XL]
    ·simp
 ·have ga:¬ (i:Int)<l.length:=by omega
  simp [NE,-V,-y4,-y3,y0,e11,mc,ga];refine hk _ _ ⟨rfl,?_⟩;rw [yC (by omega)] at be;simp [be]
structure RnI (x y:sA) (l:List Pr) (s:pA):Prop where
 e9:(s.env 9).v=.ptr 9 2 0
 e10:(s.env 10).v=.ptr 10 2 0
 m9:s.mem 9 2=some (jA x)
 m10:s.mem 10 2=some (jA y)
 e11:(s.env 11).v=.sl l.isEmpty (l.map XL)
 a11:apA l (s.env 11).a 66
theorem next_ev (w r:DH) {x y:sA} {i k:Int} (hi:0<=i) (gx:w.types[i.toNat]?=some x) (hk:0<=k) (gy:r.types[k.toNat]?=some y) (wu:x.mems.length<=1000) (hym:y.mems.length<=1000):fA 41 [.agg (TA w),.int .i64 i,.agg (TA r),.int .i64 k] (.sl (HN x y).isEmpty ((HN x y).map XL)):=by
 have g1:(w.types.map qA)[i.toNat]?=some (qA x):=by rw [ye,gx]; rfl
 have g2:(r.types.map qA)[k.toNat]?=some (qA y):=by rw [ye,gy]; rfl
 simp only [qA] at g1 g2;refine rA (c:=dJ) rfl rfl ?_;by_cases e:x.kind=y.kind
 case neg=>simp [dJ,-V,-y4,-y3,y0,TA,g1,g2,hi,hk,e,HN]
 simp [dJ,-V,-y4,-y3,y0,TA,g1,g2,hi,hk,e];refine gA x.mems.length (fun i s=>RnI x y (RN (x.mems.take i) y.mems) s/\(s.env 12).v=.int .i64 i)
  (fun e s=>e=.exit 0/\RnI x y (RN x.mems y.mems) s) (fun i hi s k h ih hk=>?_) _ _ ?_ (fun e1 s h=>?_)
 ·obtain ⟨⟨e9,e10,m9,m10,e11,a11⟩,e12⟩:=h;refine tA ?_;simp only [jA] at m9 m10;by_cases fa:i<x.mems.length
  ·have ga:(i:Int)<x.mems.length:=by omega
   have gm:(x.mems.map zA)[i]?=some (zA x.mems[i]):=by simp [fa]
   have sc:=GA (i:=i);have pb:=comL_step (ys:=y.mems) fa;have dd:=comLT_len y.mems x.mems i;have gb:=TT y x.mems[i].id (by omega);rw [pb] at ih;generalize x.mems[i]=f at *
   generalize RN (x.mems.take i) y.mems=out at *
   have q:=rX out;have ja:kB 16 (out.length + 1)=true:=by rw [PA]; omega
   simp only [zA] at gm;simp only [fA,qA,GQ] at gb;by_cases c:0<=QB y.mems f.id
   ·obtain ⟨g,hg,nu⟩:=fO c;have gg:(y.mems.map zA)[(QB y.mems f.id).toNat]?=some (zA g):=by rw [ye,hg]; rfl
    rw [U0 c hg] at ih;have ed:max (QB y.mems f.id) 0=QB y.mems f.id:=by omega
    simp only [c,decide_true,ed] at gb;generalize QB y.mems f.id=ix at *
    simp only [zA] at gg;rcases a11 with ⟨rfl,a11⟩ | ⟨la,a11⟩
    ·simp at e11;simp [fG,-V,-y4,-y3,y0,e9,e10,e11,a11,e12,m9,m10,ga,gm,gb,gg,c,sc,U2,c9];refine ih fa _ ⟨⟨?_,?_,?_,?_,?_,.inr ⟨by simp,?_⟩⟩,?_⟩ <;> simp [e9,e10,m9,m10,jA,XL]
    ·have bg:out.isEmpty=false:=by simpa using la
     rw [bg] at e11;simp [fG,-V,-y4,-y3,y0,e9,e10,e11,a11,e12,m9,m10,ga,gm,gb,gg,c,sc,ja,q];refine ih fa _ ⟨⟨?_,?_,?_,?_,?_,.inr ⟨by simp,?_⟩⟩,?_⟩ <;> simp [e9,e10,m9,m10,jA,XL]
   ·rw [T0 c,List.append_nil] at ih;simp only [c,decide_false] at gb;simp [fG,-V,-y4,-y3,y0,e9,e10,e11,e12,m9,m10,ga,gm,gb,c,sc];refine ih fa _ ⟨⟨?_,?_,?_,?_,?_,?_⟩,?_⟩
    ·simp [e9]
    ·simp [e10]
    ·simp [m9,jA]
    ·simp [m10,jA]
    ·simp [e11]
    ·simpa using a11
    ·simp
  ·have ga:¬ (i:Int)<x.mems.length:=by omega
   simp [fG,-V,-y4,-y3,y0,e9,m9,e12,ga];rw [yC (by omega)] at e11 a11;refine hk _ _ ⟨rfl,⟨?_,?_,?_,?_,?_,?_⟩⟩
   ·simp [e9]
   ·simp [e10]
   ·simp [m9,jA]
   ·simp [m10,jA]
   ·simp [e11]
   ·simpa using a11
 ·refine ⟨⟨?_,?_,?_,?_,?_,.inl ⟨rfl,?_⟩⟩,?_⟩ <;> simp [jA,e,RN]
 obtain ⟨rfl,e9,e10,m9,m10,e11,a11⟩:=h;have dd:=WP y.mems x.mems;have ld:HN x y=(RN x.mems y.mems++B3 x y++US x y).foldl KF []:=by
  unfold HN;rw [if_pos e]
 generalize RN x.mems y.mems=out at *
 unfold B3 US at ld;simp only [jA] at m9 m10;rw [e] at ld;have q:=rX out;have ja:kB 16 (out.length + 1)=true:=by rw [PA]; omega
 by_cases k8:y.kind=8
 ·by_cases c:0<x.max
  ·rw [if_pos ⟨k8,c⟩,if_pos (.inr ⟨.inr k8,c⟩)] at ld;have hroom2:kB 16 (out.length + 1 + 1)=true:=by rw [PA]; omega
   have q2:=rX (out++[(x.key,y.key)]);simp only [yM,yg,yk,XL] at q2;rcases a11 with ⟨rfl,a11⟩ | ⟨la,a11⟩
   ·simp at e11;simp [-V,-y4,-y3,y0,e9,e10,e11,a11,m9,m10,e,k8,c,U2,c9];refine PJ [(x.key,y.key),(x.elem,y.elem)] (by simp) _ ?_ ?_ ?_ _ (fun s' ci=>?_)
    ·simp [XL]
    ·simp
    ·simp
    ·simp [-V,-y4,-y3,y0,ci,ld]
   ·have bg:out.isEmpty=false:=by simpa using la
    rw [bg] at e11;simp [-V,-y4,-y3,y0,e9,e10,e11,a11,m9,m10,e,k8,c,ja,hroom2,q,q2];refine PJ (out++[(x.key,y.key)]++[(x.elem,y.elem)]) (by simp; omega) _ ?_ ?_ ?_ _ (fun s' ci=>?_)
    ·simp [XL]
    ·simp
    ·simp
    ·simp only [yP] at ci ld;simp [-V,-y4,-y3,y0,ci,ld]
  ·rw [if_neg (fun h=>c h.2),if_neg (by omega),List.append_nil,List.append_nil] at ld;simp [-V,-y4,-y3,y0,e9,e10,e11,m9,m10,e,k8,c];refine PJ out (by omega) _ ?_ ?_ ?_ _ (fun s' ci=>?_)
   ·simp [e11]
   ·simp
   ·simp
   ·simp [-V,-y4,-y3,y0,ci,ld]
 rw [if_neg (fun h=>k8 h.1),List.append_nil] at ld;by_cases k9:y.kind=9
 ·rw [if_pos (.inl k9)] at ld;rcases a11 with ⟨rfl,a11⟩ | ⟨la,a11⟩
  ·simp at e11;simp [-V,-y4,-y3,y0,e9,e10,e11,a11,m9,m10,e,k9,U2,c9];refine PJ [(x.elem,y.elem)] (by simp) _ ?_ ?_ ?_ _ (fun s' ci=>?_)
   ·simp [XL]
   ·simp
   ·simp
   ·simp [-V,-y4,-y3,y0,ci,ld]
  ·have bg:out.isEmpty=false:=by simpa using la
   rw [bg] at e11;simp [-V,-y4,-y3,y0,e9,e10,e11,a11,m9,m10,e,k9,ja,q];refine PJ (out++[(x.elem,y.elem)]) (by simp; omega) _ ?_ ?_ ?_ _ (fun s' ci=>?_)
   ·simp [XL]
   ·simp
   ·simp
   ·simp [-V,-y4,-y3,y0,ci,ld]
 by_cases k7:y.kind=7
 ·by_cases c:0<x.max
  ·rw [if_pos (.inr ⟨.inl k7,c⟩)] at ld;rcases a11 with ⟨rfl,a11⟩ | ⟨la,a11⟩
   ·simp at e11;simp [-V,-y4,-y3,y0,e9,e10,e11,a11,m9,m10,e,k7,c,U2,c9];refine PJ [(x.elem,y.elem)] (by simp) _ ?_ ?_ ?_ _ (fun s' ci=>?_)
    ·simp [XL]
    ·simp
    ·simp
    ·simp [-V,-y4,-y3,y0,ci,ld]
   ·have bg:out.isEmpty=false:=by simpa using la
    rw [bg] at e11;simp [-V,-y4,-y3,y0,e9,e10,e11,a11,m9,m10,e,k7,c,ja,q];refine PJ (out++[(x.elem,y.elem)]) (by simp; omega) _ ?_ ?_ ?_ _ (fun s' ci=>?_)
    ·simp [XL]
    ·simp
    ·simp
    ·simp [-V,-y4,-y3,y0,ci,ld]
  ·rw [if_neg (by omega),List.append_nil] at ld;simp [-V,-y4,-y3,y0,e9,e10,e11,m9,m10,e,k7,c];refine PJ out (by omega) _ ?_ ?_ ?_ _ (fun s' ci=>?_)
   ·simp [e11]
   ·simp
   ·simp
   ·simp [-V,-y4,-y3,y0,ci,ld]
 rw [if_neg (by omega),List.append_nil] at ld;simp [-V,-y4,-y3,y0,e9,e10,e11,m9,m10,e,k7,k8,k9];refine PJ out (by omega) _ ?_ ?_ ?_ _ (fun s' ci=>?_)
 ·simp [e11]
 ·simp
 ·simp
 ·simp [-V,-y4,-y3,y0,ci,ld]
def JR (n m:Nat) (p:Pr):Prop:=0<=p.1/\p.1<n/\0<=p.2/\p.2<m
structure SimF (w r:DH) (nx:Pr->List Pr) (rs:Pr->Int):Prop where
 suc:∀ p,JR w.types.length r.types.length p->fA 79 [.agg (TA w),.int .i64 p.1,.agg (TA r),.int .i64 p.2] (.sl (nx p).isEmpty ((nx p).map XL))
 rsuc:∀ p,JR w.types.length r.types.length p->fA 41 [.agg (TA w),.int .i64 p.1,.agg (TA r),.int .i64 p.2] (.sl (nx p).isEmpty ((nx p).map XL))
 rsn:∀ p,JR w.types.length r.types.length p->fA 77 [.agg (TA w),.int .i64 p.1,.agg (TA r),.int .i64 p.2] (.int .i64 (rs p))
 rrsn:∀ p,JR w.types.length r.types.length p->fA 78 [.agg (TA w),.int .i64 p.1,.agg (TA r),.int .i64 p.2] (.int .i64 (rs p))
 rng:∀ p,JR w.types.length r.types.length p->∀ q∈nx p,JR w.types.length r.types.length q
 len:∀ p,JR w.types.length r.types.length p->(nx p).length<=2000
 wl:w.types.length<=32
 rl:r.types.length<=32
abbrev Ent:=Pr × List Pr × Int
def W5 (path:List Pr) (i:Int) (out:List Ent) (q:Pr):List Ent:=if q∈out.map (·.1) then out else out++[(q,path++[q],i)]
def wP (nx:Pr->List Pr) (p:Pr):Nat->List Ent
 | 0=>[(p,[p],-1)]
 | i + 1=>match (wP nx p i)[i]? with
  | some e=>(nx e.1).foldl (W5 e.2.1 i) (wP nx p i)
  | none=>wP nx p i
def OZ (l:List Ent):List Pr:=l.map (·.1)
theorem addE_prs (path:List Pr) (i:Int) (out:List Ent) (q:Pr):OZ (W5 path i out q)=KF (OZ out) q:=by
 unfold W5 KF OZ;split <;> simp
theorem xN (path:List Pr) (i:Int):∀ (l:List Pr) (out:List Ent),OZ (l.foldl (W5 path i) out)=l.foldl KF (OZ out)
 | [],_=>rfl
 | q :: r,out=>by rw [List.foldl_cons,List.foldl_cons,xN path i r,addE_prs]
theorem addP_nodup {out:List Pr} (h:out.Nodup) (q:Pr):(KF out q).Nodup:=by
 unfold KF;split
 ·exact h
 ·rename_i hq;rw [List.nodup_append];refine ⟨h,by simp,?_⟩;rintro a ha b hb rfl;simp at hb;subst hb;exact hq ha
theorem fV:∀ (l out:List Pr),out.Nodup->(l.foldl KF out).Nodup
 | [],_,h=>h
 | q :: r,_,h=>fV r _ (addP_nodup h q)
theorem addP_mem {out:List Pr} {q x:Pr}:x∈KF out q ↔ x∈out\/x=q:=by
 unfold KF;split
 ·rename_i h;constructor
  ·exact .inl
  ·rintro (h' | rfl)
   ·exact h'
   ·exact h
 ·simp
theorem cN:∀ (l out:List Pr) {x:Pr},x∈l.foldl KF out ↔ x∈out\/x∈l
 | [],out,x=>by simp
 | q :: r,out,x=>by
  rw [List.foldl_cons,cN r,addP_mem];simp [or_assoc]
theorem LT (nx:Pr->List Pr) (p:Pr):∀ i,(OZ (wP nx p i)).Nodup
 | 0=>by simp [wP,OZ]
 | i + 1=>by
  rw [wP];split
  ·rw [xN]; exact fV _ _ (LT nx p i)
  ·exact LT nx p i
theorem QW {n m:Nat} {nx:Pr->List Pr} {p:Pr} (hp:JR n m p) (hr:∀ p,JR n m p->∀ q∈nx p,JR n m q):∀ i,∀ x∈OZ (wP nx p i),JR n m x
 | 0=>by simp [wP,OZ]; exact hp
 | i + 1=>fun x hx=>by
  rw [wP] at hx;split at hx
  ·rename_i e he;rw [xN,cN] at hx;have hi:e.1∈OZ (wP nx p i):=List.mem_map_of_mem (yl he);rcases hx with hx | hx
   ·exact QW hp hr i x hx
   ·exact hr _ (QW hp hr i _ hi) x hx
  ·exact QW hp hr i x hx
def allPr (n m:Nat):List Pr:=(List.range n).flatMap fun (a:Nat)=>(List.range m).map fun (b:Nat)=>((a:Int),(b:Int))
theorem K2 (m:Nat):∀ l:List Nat,(l.map fun _=>m).sum=l.length * m
 | []=>by simp
 | x :: r=>by
  simp only [yg,List.sum_cons,K2 m r,yI,yA];omega
theorem allPr_len (n m:Nat):(allPr n m).length=n * m:=by
 have h:=K2 m (List.range n);rw [List.length_range] at h;simp [allPr,List.length_flatMap,h]
theorem mem_allPr {n m:Nat} {p:Pr} (h:JR n m p):p∈allPr n m:=by
 obtain ⟨a,b⟩:=p;obtain ⟨h1,h2,h3,h4⟩:=h;simp only at h1 h2 h3 h4;unfold allPr;rw [List.mem_flatMap];refine ⟨a.toNat,by simp; omega,?_⟩;rw [yu];refine ⟨b.toNat,by simp; omega,?_⟩;rw [Int.toNat_of_nonneg h1,Int.toNat_of_nonneg h3]
theorem K1:∀ {l m:List Pr},l.Nodup->(∀ x∈l,x∈m)->l.length<=m.length
 | [],m,_,_=>Nat.zero_le _
 | x :: r,m,hn,hm=>by
  rw [List.nodup_cons] at hn;have hx:=hm x (by simp);have:=K1 (l:=r) (m:=m.erase x) hn.2 (fun y hy=>by
   have la:y≠x:=fun e=>hn.1 (e ▸ hy)
   exact (List.mem_erase_of_ne la).2 (hm y (by simp [hy])))
  rw [List.length_erase_of_mem hx] at this;have hp:0<m.length:=List.length_pos_of_mem hx;simp only [yI];omega
theorem bfs_len {n m:Nat} {nx:Pr->List Pr} {p:Pr} (hp:JR n m p) (hr:∀ p,JR n m p->∀ q∈nx p,JR n m q) (i:Nat):(wP nx p i).length<=n * m:=by
 have h1:=K1 (LT nx p i) (fun x hx=>mem_allPr (QW hp hr i x hx));rw [allPr_len] at h1;simpa [OZ] using h1
theorem addE_pre (path:List Pr) (i:Int) (out:List Ent) (q:Pr):∃ t,W5 path i out q=out++t:=by
 unfold W5;split
 ·exact ⟨[],by simp⟩
 ·exact ⟨_,rfl⟩
theorem NZ (path:List Pr) (i:Int):∀ (l:List Pr) (out:List Ent),∃ t,l.foldl (W5 path i) out=out++t
 | [],out=>⟨[],by simp⟩
 | q :: r,out=>by
  obtain ⟨t,ht⟩:=addE_pre path i out q;obtain ⟨u,hu⟩:=NZ path i r (W5 path i out q);exact ⟨t++u,by rw [List.foldl_cons,hu,ht,yP]⟩
theorem bfs_pre (nx:Pr->List Pr) (p:Pr) (i:Nat):∃ t,wP nx p (i + 1)=wP nx p i++t:=by
 rw [wP];split
 ·exact NZ _ _ _ _
 ·exact ⟨[],by simp⟩
theorem D7 (nx:Pr->List Pr) (p:Pr) {i:Nat}:∀ {j:Nat},i<=j->∃ t,wP nx p j=wP nx p i++t
 | 0,h=>by
  have:i=0:=by omega
  subst this;exact ⟨[],by simp⟩
 | j + 1,h=>by
  by_cases e:i=j + 1
  ·subst e; exact ⟨[],by simp⟩
  ·obtain ⟨t,ht⟩:=D7 nx p (i:=i) (j:=j) (by omega);obtain ⟨u,hu⟩:=bfs_pre nx p j;exact ⟨t++u,by rw [hu,ht,yP]⟩
theorem bfs_get (nx:Pr->List Pr) (p:Pr) {i j k:Nat} (h:i<=j) {e:Ent} (he:(wP nx p i)[k]?=some e):(wP nx p j)[k]?=some e:=by
 obtain ⟨t,ht⟩:=D7 nx p h;rw [ht,yL (yf.1 he).1];exact he
def S7 (nx:Pr->List Pr) (p:Pr):List Ent:=wP nx p 1024
structure EntOk (nx:Pr->List Pr) (p:Pr) (l:List Ent) (k:Nat) (e:Ent):Prop where
 bef:(k=0/\e=(p,[p],-1))\/(∃ j:Nat,j<k/\e.2.2=j/\∃ e',l[j]?=some e'/\e.2.1=e'.2.1++[e.1]/\e.1∈nx e'.1)
theorem EntOk.more {nx:Pr->List Pr} {p:Pr} {l:List Ent} {k:Nat} {e:Ent} (h:EntOk nx p l k e) (t:List Ent):EntOk nx p (l++t) k e:=by
 rcases h with ⟨h | ⟨j,h1,h2,e',h3,h4⟩⟩
 ·exact ⟨.inl h⟩
 ·exact ⟨.inr ⟨j,h1,h2,e',by rw [yL (yf.1 h3).1]; exact h3,h4⟩⟩
theorem bfs_closed {nx:Pr->List Pr} {p:Pr} {i:Nat}:∀ k,k<i->∀ e,(wP nx p i)[k]?=some e->∀ q∈nx e.1,q∈OZ (wP nx p i):=by
 induction i with
 | zero=>intro k hk; omega
 | succ i ih =>
  intro k hk e he q hq;have hpre:=bfs_pre nx p i;obtain ⟨t,ht⟩:=hpre;by_cases hki:k=i
  ·subst hki;cases hb:(wP nx p k)[k]? with
   | none =>
    have hE:wP nx p (k + 1)=wP nx p k:=by rw [wP,hb]
    rw [hE,hb] at he;cases he
   | some e0 =>
    have:=bfs_get nx p (Nat.le_succ k) hb;rw [this] at he;injection he with he;subst he;rw [wP,hb];simp only;rw [xN,cN];exact .inr hq
  ·by_cases uj:k<(wP nx p i).length
   ·have sg:(wP nx p i)[k]?=some e:=by rw [ht,yL uj] at he; exact he
    have:=ih k (by omega) e sg q hq;rw [ht];unfold OZ at this ⊢;rw [yM];exact yX _ this
   ·have pb:(wP nx p i).length=i\/(wP nx p i).length<i:=by omega
    have hE:wP nx p (i + 1)=wP nx p i:=by rw [wP,yZ (by omega)]
    rw [hE,yZ (by omega)] at he;cases he
section
variable {n m:Nat} {nx:Pr->List Pr} {p:Pr} (hp:JR n m p) (hr:∀ p,JR n m p->∀ q∈nx p,JR n m q) (hn:n<=32) (hm:m<=32)
include n m nx p hp hr hn hm
theorem bfs_full:(S7 nx p).length<=1024:=by
 have h1:=bfs_len hp hr 1024;have h2:n * m<=32 * 32:=Nat.mul_le_mul hn hm;unfold S7;omega
theorem kV {x:Pr} (hx:x∈OZ (S7 nx p)):∀ q∈nx x,q∈OZ (S7 nx p):=by
 obtain ⟨e,he,rfl⟩:=yu.1 hx;obtain ⟨k,hk,rfl⟩:=yz he;have hf:=bfs_full hp hr hn hm;exact bfs_closed k (by omega) _ (y5 hk)
end
theorem bfsE_root (nx:Pr->List Pr) (p:Pr):(S7 nx p)[0]?=some (p,[p],-1):=bfs_get nx p (Nat.zero_le 1024) rfl
def nL (s:DH) (t:Int):List AV:=[.sl s.nl (s.types.map qA),.int .i64 t]
def dX (nx:Pr->List Pr) (rs:Pr->Int) (p:Pr):Bool:=(OZ (S7 nx p)).all fun q=>decide (rs q=0)
def SndE (s:DH) (e:Int):Prop:=fA 95 [.agg (TA s)] (.int .i64 e)/\fA 97 [.agg (TA s)] (.int .i64 e)




theorem xS {P:Pr->Prop} {nx:Pr->List Pr} {p:Pr} (hp:P p) (hr:∀ p,P p->∀ q∈nx p,P q):∀ i,∀ x∈OZ (wP nx p i),P x
 | 0=>by simp [wP,OZ]; exact hp
 | i + 1=>fun x hx=>by
  rw [wP] at hx;split at hx
  ·rename_i e he;rw [xN,cN] at hx;have hi:e.1∈OZ (wP nx p i):=List.mem_map_of_mem (yl he);rcases hx with hx | hx
   ·exact xS hp hr i x hx
   ·exact hr _ (xS hp hr i _ hi) x hx
  ·exact xS hp hr i x hx
theorem fine_suc {n m:Nat} {nx:Pr->List Pr} {rs:Pr->Int} {p:Pr} (hp:JR n m p) (hr:∀ p,JR n m p->∀ q∈nx p,JR n m q) (hn:n<=32) (hm:m<=32) (h:dX nx rs p=true) {q:Pr} (hq:q∈nx p):dX nx rs q=true:=by
 unfold dX at h ⊢;rw [y6] at h ⊢;have hroot:p∈OZ (S7 nx p):=List.mem_map_of_mem (yl (bfsE_root nx p));have ra:=xS (P:=fun x=>x∈OZ (S7 nx p)) (p:=q) (kV hp hr hn hm hroot q hq) (fun x hx y hy=>kV hp hr hn hm hx y hy) 1024;exact fun x hx=>h x (ra x hx)
def setT (g:Nat->Nat->Bool) (i k:Nat):Nat->Nat->Bool:=fun a b=>if a=i/\b=k then false else g a b
structure TabG (nx:Pr->List Pr) (rs:Pr->Int) (N M:Nat) (g:Nat->Nat->Bool):Prop where
 sub:∀ i k,i<N->k<M->g i k=true->rs ((i:Int),(k:Int))=0
 sup:∀ i k,i<N->k<M->dX nx rs ((i:Int),(k:Int))=true->g i k=true
def outOf (g:Nat->Nat->Bool) (q:Pr):Bool:=!g q.1.toNat q.2.toNat
theorem inP_nat {N M i k:Nat} (hi:i<N) (hk:k<M):JR N M ((i:Int),(k:Int)):=⟨by simp,by simp; omega,by simp,by simp; omega⟩
section
variable {nx:Pr->List Pr} {rs:Pr->Int} {N M:Nat} {g:Nat->Nat->Bool} (h:TabG nx rs N M g) (hr:∀ p,JR N M p->∀ q∈nx p,JR N M q)
include nx rs N M g h hr
theorem TabG.set (hn:N<=32) (hm:M<=32) {i k:Nat} (hi:i<N) (hk:k<M) (hq:(nx ((i:Int),(k:Int))).any (outOf g)=true):TabG nx rs N M (setT g i k):=by
 refine ⟨fun a b ha hb hg=>?_,fun a b ha hb hf=>?_⟩
 ·unfold setT at hg;split at hg
  ·cases hg
  ·exact h.sub a b ha hb hg
 ·unfold setT;split
  ·rename_i e;obtain ⟨rfl,rfl⟩:=e;obtain ⟨q,hq,ho⟩:=List.any_eq_true.1 hq;have hp:=inP_nat ha hb;have cf:=hr _ hp q hq;obtain ⟨h1,h2,h3,h4⟩:=cf;have:=h.sup q.1.toNat q.2.toNat (by omega) (by omega) (by
    rw [Int.toNat_of_nonneg h1,Int.toNat_of_nonneg h3];exact fine_suc hp hr hn hm hf hq)
   simp [outOf,this] at ho
  ·exact h.sup a b ha hb hf
theorem TabG.eq (hc:∀ i k,i<N->k<M->g i k=true->(nx ((i:Int),(k:Int))).any (outOf g)=false) {i k:Nat} (hi:i<N) (hk:k<M):g i k=dX nx rs ((i:Int),(k:Int)):=by
 cases hg:g i k with
 | false =>
  cases hf:dX nx rs ((i:Int),(k:Int)) with
  | false=>rfl
  | true=>rw [h.sup i k hi hk hf] at hg; cases hg
 | true =>
  symm
  unfold dX;rw [y6];have ra:=xS (P:=fun x=>JR N M x/\g x.1.toNat x.2.toNat=true) (nx:=nx) (p:=((i:Int),(k:Int))) ⟨inP_nat hi hk,by simpa using hg⟩ (fun x hx y hy=>by
   obtain ⟨h0,h1⟩:=hx;have cu:=hr x h0 y hy;refine ⟨cu,?_⟩;obtain ⟨a1,a2,a3,a4⟩:=h0;have:=hc x.1.toNat x.2.toNat (by omega) (by omega) h1;rw [Int.toNat_of_nonneg a1,Int.toNat_of_nonneg a3,List.any_eq_false] at this;simpa [outOf] using this y hy) 1024
  intro x hx;obtain ⟨⟨a1,a2,a3,a4⟩,h1⟩:=ra x hx;have:=h.sub x.1.toNat x.2.toNat (by omega) (by omega) h1;rw [Int.toNat_of_nonneg a1,Int.toNat_of_nonneg a3] at this;exact decide_eq_true this
end
end Go.Proofs.YtbnlmgncbgaepaaGreat
