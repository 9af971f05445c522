/- A part of the proof. -/
import Derived.Test.YtbnlmgncbgaepaaGreatYg
set_option linter.all false
set_option maxRecDepth 100000
set_option maxHeartbeats 8000000
open Option renaming bind_some → V
open List renaming range_succ → J, map_map → y0, getElem?_eq_getElem → y4, all_eq_true → y5, getElem_mem → y6, drop_eq_getElem_cons → y9, getElem?_eq_some_iff → yb, getElem?_map → yc, drop_eq_nil_of_le → ye, map_cons → yj, mem_of_getElem? → yk, map_congr_left → ym, length_map → yo, length_append → yp, map_nil → yt, length_take → yz, mem_map → yA, getElem_of_mem → yB, take_of_length_le → yD, length_cons → yE, getElem?_append_left → yG, take_append_getElem → yI, append_nil → yN, getElem?_eq_none → yP, map_append → yU, append_assoc → yY, mem_map_of_mem → Y01
open Int renaming toNat_lt → y3
open Nat renaming le_refl → yn, succ_mul → yu
namespace Go.Proofs.YtbnlmgncbgaepaaGreat
open Go
def dA.sm (t:dA):Prop:=t.kind=2->-100<=t.low/\t.low<=t.high/\t.high<=100
def uX (x:dA):Int:=if x.kind=1 then 2 else if x.kind=2 then x.high - x.low + 1 else if x.kind=4 then x.syms.length else if x.kind=3/\x.max=0 then 1 else 2147483647
def nS (x:dA):Int:=if x.kind=1 then 2 else if x.kind=2 then min 100 (x.high - x.low + 1) else if x.kind=4 then x.syms.length else if x.max=0 then 1 else 100
theorem keys_ev (x:dA) (hx:x.sm):fA 129 [.agg (rA x)] (.int .i64 (uX x)):=by
 refine wA (c:=qD) rfl rfl ?_;unfold uX;by_cases k1:x.kind=1
 ·simp [qD,-V,-y3,-y0,J,rA,k1]
 by_cases k2:x.kind=2
 ·obtain ⟨h1,h2,h3⟩:=hx k2;have w1:IntKind.u64.wrap (IntKind.u64.wrap x.high - IntKind.u64.wrap x.low)=x.high - x.low:=by
   simp only [IntKind.wrap,IntKind.bits,IntKind.signed];simp;omega
  have c:x.high - x.low<2147483647:=by omega
  have w2:IntKind.i64.wrap (x.high - x.low)=x.high - x.low:=IntWalk.i64_in _ (by omega);have w3:IntKind.i64.wrap (x.high - x.low + 1)=x.high - x.low + 1:=IntWalk.i64_in _ (by omega);simp [qD,-V,-y3,-y0,J,rA,k1,k2,w1,c,w2,w3]
 by_cases k4:x.kind=4
 ·simp [qD,-V,-y3,-y0,J,rA,k1,k2,k4]
 by_cases k3:x.kind=3
 ·by_cases hm:x.max=0
  ·simp [qD,-V,-y3,-y0,J,rA,k1,k2,k3,k4,hm]
  ·simp [qD,-V,-y3,-y0,J,rA,k1,k2,k3,k4,hm]
 ·simp [qD,-V,-y3,-y0,J,rA,k1,k2,k3,k4]
theorem rkeys_ev (x:dA) (hx:x.sm):fA 132 [.agg (rA x)] (.int .i64 (nS x)):=by
 refine wA (c:=CE) rfl rfl ?_;unfold nS;by_cases k1:x.kind=1
 ·simp [CE,-V,-y3,-y0,J,rA,k1]
 by_cases k2:x.kind=2
 ·obtain ⟨h1,h2,h3⟩:=hx k2;simp [CE,-V,-y3,-y0,J,rA,k1,k2];refine lA 100 (fun i s=>(s.env 1).v=.ptr 1 1 0/\s.mem 1 1=some (jA x)/\(s.env 3).v=.int .i64 ((i:Int) + 1)/\(s.env 4).v=.int .i64 (x.low + i)/\x.low + i<=x.high/\i + 1<=100)
   (fun e s=>e=.exit 1/\(s.env 3).v=.int .i64 (min 100 (x.high - x.low + 1))) (fun i hi s k h ih hk=>?_) _ _ ?_ (fun e s h=>?_)
  ·obtain ⟨e1,m1,e3,e4,sb,h100⟩:=h;simp only [jA] at m1;refine tA ?_;by_cases c1:(i:Int) + 1<100
   ·by_cases c2:x.low + i<x.high
    ·have w1:IntKind.i64.wrap ((i:Int) + 1 + 1)=(i:Int) + 1 + 1:=IntWalk.i64_in _ (by omega);have w2:IntKind.i64.wrap (x.low + i + 1)=x.low + i + 1:=IntWalk.i64_in _ (by omega);simp [gI,-V,-y3,-y0,J,e1,m1,e3,e4,c1,c2,w1,w2];refine ih (by omega) _ ⟨?_,?_,?_,?_,by omega,by omega⟩
     ·simp [e1]
     ·simp [m1]
     ·simp
     ·simp; omega
    ·simp [gI,-V,-y3,-y0,J,e1,m1,e3,e4,c1,c2];refine hk _ _ ⟨rfl,?_⟩;simp [e3];omega
   ·simp [gI,-V,-y3,-y0,J,e1,m1,e3,e4,c1];refine hk _ _ ⟨rfl,?_⟩;simp [e3];omega
  ·exact ⟨by simp,by simp [k2],by simp,by simp,by omega,by omega⟩
  ·obtain ⟨rfl,e3⟩:=h;simp [-V,-y3,-y0,J,e3]
 by_cases k4:x.kind=4
 ·simp [CE,-V,-y3,-y0,J,rA,k1,k2,k4]
 by_cases hm:x.max=0
 ·simp [CE,-V,-y3,-y0,J,rA,k1,k2,k4,hm]
 ·simp [CE,-V,-y3,-y0,J,rA,k1,k2,k4,hm]
theorem keys_min (x:dA) (hk:1<=x.kind/\x.kind<=4) (hx:x.sm) {m n:Int} (hm:m<=50):(n<min m (uX x) ↔ n<min m (nS x)):=by
 unfold uX nS;by_cases k1:x.kind=1
 ·rw [if_pos k1,if_pos k1]
 rw [if_neg k1,if_neg k1];by_cases k2:x.kind=2
 ·rw [if_pos k2,if_pos k2];omega
 rw [if_neg k2,if_neg k2];by_cases k4:x.kind=4
 ·rw [if_pos k4,if_pos k4]
 rw [if_neg k4,if_neg k4];by_cases h0:x.max=0
 ·rw [if_pos ⟨by omega,h0⟩,if_pos h0]
 ·rw [if_neg (fun h=>h0 h.2),if_neg h0];omega
def xM (x y:dA):Bool:=x.syms.all (fun s=>decide (0<=xG y.syms s.id))&&x.mems.all (fun m=>decide (0<=QB y.mems m.id))
theorem dN {α:Type} (p:α->Bool) (l:List α) {i:Nat} (h:i<l.length):(l.take (i + 1)).all p=((l.take i).all p&&p l[i]):=by
 rw [<- yI h,List.all_append];simp
theorem cW {α:Type} (p:α->Bool) (l:List α) {i:Nat} (h:i<l.length) (hp:p l[i]=false):l.all p=false:=by
 rw [List.all_eq_false];exact ⟨_,y6 h,by simp [hp]⟩
section
variable (x y:dA) (ge:x.syms.length<=8796093022206) (ev:x.mems.length<=8796093022206) (nk:y.syms.length<=8796093022206) (hym:y.mems.length<=8796093022206)
include x y ge ev nk hym
theorem D9:fA 130 [.agg (rA x),.agg (rA y)] (.bool (y.opn||xM x y)):=by
 refine wA (c:=UE) rfl rfl ?_;cases ho:y.opn with
 | true=>simp [UE,-V,-y3,-y0,J,rA,ho]
 | false =>
 have hp1:∀ l:List NV,l.all (fun s=>decide (0<=xG y.syms s.id))=false->xM x y=false\/l≠x.syms:=fun l h=>by
  by_cases e:l=x.syms
  ·left; unfold xM; rw [<- e,h]; rfl
  ·exact .inr e
 simp [UE,-V,-y3,-y0,J,rA,ho];refine lA x.syms.length (fun i s=>(s.env 2).v=.ptr 2 1 0/\(s.env 3).v=.ptr 3 1 0/\s.mem 2 1=some (jA x)/\s.mem 3 1=some (jA y)/\(s.env 16).v=.sl x.sn (x.syms.map lD)/\(s.env 17).v=.int .i64 x.syms.length/\(s.env 18).v=.int .i64 i/\(x.syms.take i).all (fun s=>decide (0<=xG y.syms s.id))=true)
  (fun e s=>(e=.exit 0/\(s.env 2).v=.ptr 2 1 0/\(s.env 3).v=.ptr 3 1 0/\s.mem 2 1=some (jA x)/\s.mem 3 1=some (jA y)/\x.syms.all (fun s=>decide (0<=xG y.syms s.id))=true)\/(e=.ret/\(s.env 4).v=.bool false/\xM x y=false)) (fun i hi s k h ih hk=>?_) _ _ ?_ (fun e s h=>?_)
 ·obtain ⟨e2,e3,m2,m3,e16,bh,dm,ne⟩:=h;refine tA ?_;by_cases fa:i<x.syms.length
  ·have ga:(i:Int)<x.syms.length:=by omega
   have g1:(x.syms.map lD)[i]?=some (lD x.syms[i]):=by simp [fa]
   have uc:=ZA (i:=i);have fb:=sym_ev y x.syms[i].id (by omega);have rh:=dN (fun s=>decide (0<=xG y.syms s.id)) x.syms fa;have nc:=cW (fun s=>decide (0<=xG y.syms s.id)) x.syms fa;generalize x.syms[i]=q at *
   simp only [lD] at g1;simp only [jA] at m2 m3;simp only [fA,rA,BV,ho] at fb;by_cases c:0<=xG y.syms q.id
   ·simp only [c,decide_true] at fb rh;simp [DE,-V,-y3,-y0,J,e2,e3,m3,e16,bh,dm,ga,g1,fb,uc,ho];refine ih fa _ ⟨?_,?_,?_,?_,?_,?_,?_,by rw [rh,ne]; rfl⟩ <;> simp [e2,e3,m2,m3,e16,bh,jA,ho]
   ·simp only [c,decide_false] at fb nc;simp [DE,-V,-y3,-y0,J,e2,e3,m3,e16,bh,dm,ga,g1,fb,uc,ho];refine hk _ _ (.inr ⟨rfl,by simp,?_⟩);unfold xM;rw [nc trivial];rfl
  ·have ga:¬ (i:Int)<x.syms.length:=by omega
   simp [DE,-V,-y3,-y0,J,bh,dm,ga];refine hk _ _ (.inl ⟨rfl,by simp [e2],by simp [e3],by simp [m2],by simp [m3],?_⟩);rw [yD (by omega)] at ne;exact ne
 ·refine ⟨?_,?_,?_,?_,?_,?_,?_,?_⟩ <;> simp [jA,ho]
 rcases h with ⟨rfl,e2,e3,m2,m3,ne⟩ | ⟨rfl,e4,hf⟩
 case inr=>simp [-V,-y3,-y0,J,e4,hf]
 simp only [jA] at m2;simp [-V,-y3,-y0,J,e2,m2];refine lA x.mems.length (fun i s=>(s.env 3).v=.ptr 3 1 0/\s.mem 3 1=some (jA y)/\(s.env 33).v=.sl x.mn (x.mems.map bA)/\(s.env 34).v=.int .i64 x.mems.length/\(s.env 35).v=.int .i64 i/\(x.mems.take i).all (fun s=>decide (0<=QB y.mems s.id))=true)
  (fun e s=>(e=.exit 2/\xM x y=true)\/(e=.ret/\(s.env 4).v=.bool false/\xM x y=false)) (fun i hi s k h ih hk=>?_) _ _ ?_ (fun e s h=>?_)
 ·obtain ⟨e3,m3,e33,e34,xw,rm⟩:=h;refine tA ?_;by_cases fa:i<x.mems.length
  ·have ga:(i:Int)<x.mems.length:=by omega
   have g1:(x.mems.map bA)[i]?=some (bA x.mems[i]):=by simp [fa]
   have uc:=ZA (i:=i);have fb:=jX y x.mems[i].id (by omega);have rh:=dN (fun s=>decide (0<=QB y.mems s.id)) x.mems fa;have nc:=cW (fun s=>decide (0<=QB y.mems s.id)) x.mems fa;generalize x.mems[i]=q at *
   simp only [bA] at g1;simp only [jA] at m3;simp only [fA,rA,bQ,ho] at fb;by_cases c:0<=QB y.mems q.id
   ·simp only [c,decide_true] at fb rh;simp [SE,-V,-y3,-y0,J,e3,m3,e33,e34,xw,ga,g1,fb,uc,ho];refine ih fa _ ⟨?_,?_,?_,?_,?_,by rw [rh,rm]; rfl⟩ <;> simp [e3,m3,e33,e34,jA,ho]
   ·simp only [c,decide_false] at fb nc;simp [SE,-V,-y3,-y0,J,e3,m3,e33,e34,xw,ga,g1,fb,uc,ho];refine hk _ _ (.inr ⟨rfl,by simp,?_⟩);unfold xM;rw [nc trivial,Bool.and_false]
  ·have ga:¬ (i:Int)<x.mems.length:=by omega
   simp [SE,-V,-y3,-y0,J,e34,xw,ga];refine hk _ _ (.inl ⟨rfl,?_⟩);rw [yD (by omega)] at rm;unfold xM;rw [ne,rm];rfl
 ·refine ⟨?_,?_,?_,?_,?_,?_⟩ <;> simp [e3,m3,jA,ho]
 ·rcases h with ⟨rfl,hf⟩ | ⟨rfl,e4,hf⟩
  ·simp [-V,-y3,-y0,J,hf]
  ·simp [-V,-y3,-y0,J,e4,hf]
theorem rall_ev:fA 133 [.agg (rA x),.agg (rA y)] (.bool (xM x y)):=by
 refine wA (c:=LM) rfl rfl ?_;simp [LM,-V,-y3,-y0,J,rA];refine lA x.syms.length (fun i s=>(s.env 2).v=.ptr 2 1 0/\(s.env 3).v=.ptr 3 1 0/\s.mem 2 1=some (jA x)/\s.mem 3 1=some (jA y)/\(s.env 5).v=.int .i64 i/\(x.syms.take i).all (fun s=>decide (0<=xG y.syms s.id))=true)
  (fun e s=>(e=.exit 0/\(s.env 2).v=.ptr 2 1 0/\(s.env 3).v=.ptr 3 1 0/\s.mem 2 1=some (jA x)/\s.mem 3 1=some (jA y)/\x.syms.all (fun s=>decide (0<=xG y.syms s.id))=true)\/(e=.ret/\(s.env 4).v=.bool false/\xM x y=false)) (fun i hi s k h ih hk=>?_) _ _ ?_ (fun e s h=>?_)
 ·obtain ⟨e2,e3,m2,m3,e5,ne⟩:=h;refine tA ?_;by_cases fa:i<x.syms.length
  ·have ga:(i:Int)<x.syms.length:=by omega
   have g1:(x.syms.map lD)[i]?=some (lD x.syms[i]):=by simp [fa]
   have uc:=ZA (i:=i);have fb:=O3 y x.syms[i].id (by omega);have rh:=dN (fun s=>decide (0<=xG y.syms s.id)) x.syms fa;have nc:=cW (fun s=>decide (0<=xG y.syms s.id)) x.syms fa;generalize x.syms[i]=q at *
   simp only [lD] at g1;simp only [jA] at m2 m3;simp only [fA,rA,BV] at fb;by_cases c:0<=xG y.syms q.id
   ·simp only [c,decide_true] at fb rh;simp [fJ,-V,-y3,-y0,J,e2,e3,m2,m3,e5,ga,g1,fb,uc];refine ih fa _ ⟨?_,?_,?_,?_,?_,by rw [rh,ne]; rfl⟩ <;> simp [e2,e3,m2,m3,jA]
   ·simp only [c,decide_false] at fb nc;simp [fJ,-V,-y3,-y0,J,e2,e3,m2,m3,e5,ga,g1,fb,uc];refine hk _ _ (.inr ⟨rfl,by simp,?_⟩);unfold xM;rw [nc trivial];rfl
  ·have ga:¬ (i:Int)<x.syms.length:=by omega
   simp only [jA] at m2;simp [fJ,-V,-y3,-y0,J,e2,m2,e5,ga];refine hk _ _ (.inl ⟨rfl,by simp [e2],by simp [e3],by simp [m2],by simp [m3],?_⟩);rw [yD (by omega)] at ne;exact ne
 ·refine ⟨?_,?_,?_,?_,?_,?_⟩ <;> simp [jA]
 rcases h with ⟨rfl,e2,e3,m2,m3,ne⟩ | ⟨rfl,e4,hf⟩
 case inr=>simp [-V,-y3,-y0,J,e4,hf]
 simp only [jA] at m2;simp [-V,-y3,-y0,J];refine lA x.mems.length (fun i s=>(s.env 2).v=.ptr 2 1 0/\(s.env 3).v=.ptr 3 1 0/\s.mem 2 1=some (jA x)/\s.mem 3 1=some (jA y)/\(s.env 8).v=.int .i64 i/\(x.mems.take i).all (fun s=>decide (0<=QB y.mems s.id))=true)
  (fun e s=>(e=.exit 2/\xM x y=true)\/(e=.ret/\(s.env 4).v=.bool false/\xM x y=false)) (fun i hi s k h ih hk=>?_) _ _ ?_ (fun e s h=>?_)
 ·obtain ⟨e2,e3,m2,m3,e8,rm⟩:=h;refine tA ?_;simp only [jA] at m2 m3;by_cases fa:i<x.mems.length
  ·have ga:(i:Int)<x.mems.length:=by omega
   have g1:(x.mems.map bA)[i]?=some (bA x.mems[i]):=by simp [fa]
   have uc:=ZA (i:=i);have fb:=oT y x.mems[i].id (by omega);have rh:=dN (fun s=>decide (0<=QB y.mems s.id)) x.mems fa;have nc:=cW (fun s=>decide (0<=QB y.mems s.id)) x.mems fa;generalize x.mems[i]=q at *
   simp only [bA] at g1;simp only [fA,rA,bQ] at fb;by_cases c:0<=QB y.mems q.id
   ·simp only [c,decide_true] at fb rh;simp [dJ,-V,-y3,-y0,J,e2,e3,m2,m3,e8,ga,g1,fb,uc];refine ih fa _ ⟨?_,?_,?_,?_,?_,by rw [rh,rm]; rfl⟩ <;> simp [e2,e3,m2,m3,jA]
   ·simp only [c,decide_false] at fb nc;simp [dJ,-V,-y3,-y0,J,e2,e3,m2,m3,e8,ga,g1,fb,uc];refine hk _ _ (.inr ⟨rfl,by simp,?_⟩);unfold xM;rw [nc trivial,Bool.and_false]
  ·have ga:¬ (i:Int)<x.mems.length:=by omega
   simp [dJ,-V,-y3,-y0,J,e2,m2,e8,ga];refine hk _ _ (.inl ⟨rfl,?_⟩);rw [yD (by omega)] at rm;unfold xM;rw [ne,rm];rfl
 ·refine ⟨?_,?_,?_,?_,?_,?_⟩ <;> simp [e2,e3,m2,m3,jA]
 ·rcases h with ⟨rfl,hf⟩ | ⟨rfl,e4,hf⟩
  ·simp [-V,-y3,-y0,J,hf]
  ·simp [-V,-y3,-y0,J,e4,hf]
end
def XO (mns:uC->uC->Bool) (xs:List uC):List uC->Int
 | []=>0
 | g :: r=>if 0<=QB xs g.id then (match xs[(QB xs g.id).toNat]? with
   | some f=>if f.has=true then (if g.has=true then (if mns f g=true then XO mns xs r else 10) else 7) else XO mns xs r
   | none=>XO mns xs r) else if g.has=true then XO mns xs r else 7
def F9 (ys:List uC) (f:uC):Bool:=f.crit&&!decide (0<=QB ys f.id)
def nN (mns:uC->uC->Bool) (xs ys:List uC):Int:=if XO mns xs ys=0 then (if xs.any (F9 ys)=true then 6 else 0) else XO mns xs ys
def jW (w r:wI) (mns:uC->uC->Bool) (xs ys:List uC):Prop:=∀ f∈xs,∀ g∈ys,f.has=true->g.has=true →
 (∃ (u:Vl) (e:Int),fA 155 [.agg (UA w),.int .i64 f.ty,.agg (zA f.dflt),.agg (UA r),.int .i64 g.ty] (.tup [.agg (zA u),.int .i64 e])/\(e=0->fA 156 [.agg (zA u),.agg (zA g.dflt)] (.bool (mns f g)))/\(e≠0->mns f g=false)) ∧
 fA 157 [.agg (UA w),.int .i64 f.ty,.agg (zA f.dflt),.agg (UA r),.int .i64 g.ty,.agg (zA g.dflt)] (.bool (mns f g))
theorem mT {α:Type} (p:α->Bool) (l:List α) {i:Nat} (h:i<l.length):(l.take (i + 1)).any p=((l.take i).any p||p l[i]):=by
 rw [<- yI h,List.any_append];simp
theorem any_yes {α:Type} (p:α->Bool) (l:List α) {i:Nat} (h:i<l.length) (hp:p l[i]=true):l.any p=true:=List.any_eq_true.2 ⟨_,y6 h,hp⟩
theorem MN {l:List uC} {id:Int} (h:0<=QB l id):∃ f,l[(QB l id).toNat]?=some f/\f∈l:=by
 obtain ⟨f,h1,_⟩:=NP (fun x:uC=>decide (x.id=id)) l (by unfold QB at h; omega);exact ⟨f,h1,yk h1⟩
section
variable (w r:wI) (x y:dA) (ev:x.mems.length<=8796093022206) (hym:y.mems.length<=8796093022206) {mns:uC->uC->Bool} (hR:jW w r mns x.mems y.mems)
include w r x y ev hym mns hR
theorem X8:fA 131 [.agg (UA w),.agg (rA x),.agg (UA r),.agg (rA y)] (.int .i64 (nN mns x.mems y.mems)):=by
 refine wA (c:=ZF) rfl rfl ?_;simp only [UA];simp [ZF,-V,-y3,-y0,J,rA];refine lA y.mems.length (fun i s=>(s.env 4).v=.ptr 4 1 0/\(s.env 5).v=.ptr 5 1 0/\(s.env 6).v=.ptr 6 1 0/\(s.env 7).v=.ptr 7 1 0/\s.mem 4 1=some [⟨.sl w.nl (w.types.map rA),.no⟩]/\s.mem 5 1=some (jA x)/\s.mem 6 1=some [⟨.sl r.nl (r.types.map rA),.no⟩]/\s.mem 7 1=some (jA y)/\(s.env 21).v=.sl y.mn (y.mems.map bA)/\(s.env 22).v=.int .i64 y.mems.length/\(s.env 23).v=.int .i64 i/\XO mns x.mems (y.mems.drop i)=XO mns x.mems y.mems)
  (fun e s=>(e=.exit 0/\(s.env 5).v=.ptr 5 1 0/\(s.env 7).v=.ptr 7 1 0/\s.mem 5 1=some (jA x)/\s.mem 7 1=some (jA y)/\XO mns x.mems y.mems=0)\/(e=.ret/\(s.env 8).v=.int .i64 (nN mns x.mems y.mems))) (fun i hi s k h ih hk=>?_) _ _ ?_ (fun e s h=>?_)
 ·obtain ⟨e4,e5,e6,e7,m4,m5,m6,m7,e21,e22,uw,kb⟩:=h;refine tA ?_;by_cases fa:i<y.mems.length
  ·have ga:(i:Int)<y.mems.length:=by omega
   have g1:(y.mems.map bA)[i]?=some (bA y.mems[i]):=by simp [fa]
   have uc:=ZA (i:=i);have ru:=y6 fa;rw [y9 fa,XO] at kb;generalize y.mems[i]=g at *
   have fb:=jX x g.id (by omega);simp only [bA] at g1;simp only [jA] at m5 m7;simp only [fA,rA,bQ] at fb;have done:∀ (E:Nat->qA) (M:Nat->Nat->Option (List qA)) (nx:Nat) (z:Int),(E 8).v=.int .i64 z->XO mns x.mems y.mems=z->z≠0->k .ret ⟨E,M,nx,s.obj,s.gh⟩=some (.int .i64 (nN mns x.mems y.mems),none):=fun E M nx z h1 h2 h3=>hk _ _ (.inr ⟨rfl,by unfold nN; rw [if_neg (by omega),h2]; exact h1⟩)
   by_cases c:0<=QB x.mems g.id
   ·obtain ⟨f,hf,hfm⟩:=MN c;rw [if_pos c,hf] at kb;simp only at kb;simp only [c,decide_true] at fb;have gf:(x.mems.map bA)[(QB x.mems g.id).toNat]?=some (bA f):=by rw [yc,hf]; rfl
    have dd:max (QB x.mems g.id) 0=QB x.mems g.id:=by omega
    generalize QB x.mems g.id=ix at *
    rw [dd] at fb;simp only [bA] at gf;by_cases lj:f.has=true
    ·rw [if_pos lj] at kb;by_cases te:g.has=true
     ·rw [if_pos te] at kb;obtain ⟨⟨u,e,hrd,hq0,hq1⟩,_⟩:=hR f hfm g ru lj te;simp only [fA,UA,uA] at hrd hq0;by_cases he:e=0
      ·have hq:=hq0 he;subst he;by_cases hm:mns f g=true
       ·rw [if_pos hm] at kb;rw [hm] at hq;simp [bB,-V,-y3,-y0,J,e4,e5,e6,e7,m4,m5,m6,m7,e21,e22,uw,ga,g1,fb,gf,c,lj,te,hrd,hq,uc];refine ih fa _ ⟨?_,?_,?_,?_,?_,?_,?_,?_,?_,?_,?_,kb⟩ <;> simp [e4,e5,e6,e7,m4,m5,m6,m7,e21,e22,jA]
       ·have jd:mns f g=false:=by simpa using hm
        rw [if_neg hm] at kb;rw [jd] at hq;simp [bB,-V,-y3,-y0,J,e4,e5,e6,e7,m4,m5,m6,m7,e21,e22,uw,ga,g1,fb,gf,c,lj,te,hrd,hq,uc];exact done _ _ _ 10 (by simp) kb.symm (by omega)
      ·have jd:=hq1 he;rw [if_neg (by simp [jd])] at kb;simp [bB,-V,-y3,-y0,J,e4,e5,e6,e7,m4,m5,m6,m7,e21,e22,uw,ga,g1,fb,gf,c,lj,te,hrd,he,uc];exact done _ _ _ 10 (by simp) kb.symm (by omega)
     ·have wm:g.has=false:=by simpa using te
      rw [if_neg te] at kb;simp [bB,-V,-y3,-y0,J,e4,e5,e6,e7,m4,m5,m6,m7,e21,e22,uw,ga,g1,fb,gf,c,lj,wm,uc];exact done _ _ _ 7 (by simp) kb.symm (by omega)
    ·have xv:f.has=false:=by simpa using lj
     rw [if_neg lj] at kb;simp [bB,-V,-y3,-y0,J,e4,e5,e6,e7,m4,m5,m6,m7,e21,e22,uw,ga,g1,fb,gf,c,xv,uc];refine ih fa _ ⟨?_,?_,?_,?_,?_,?_,?_,?_,?_,?_,?_,kb⟩ <;> simp [e4,e5,e6,e7,m4,m5,m6,m7,e21,e22,jA]
   ·rw [if_neg c] at kb;simp only [c,decide_false] at fb;by_cases te:g.has=true
    ·rw [if_pos te] at kb;simp [bB,-V,-y3,-y0,J,e4,e5,e6,e7,m4,m5,m6,m7,e21,e22,uw,ga,g1,fb,te,uc];refine ih fa _ ⟨?_,?_,?_,?_,?_,?_,?_,?_,?_,?_,?_,kb⟩ <;> simp [e4,e5,e6,e7,m4,m5,m6,m7,e21,e22,jA]
    ·have wm:g.has=false:=by simpa using te
     rw [if_neg te] at kb;simp [bB,-V,-y3,-y0,J,e4,e5,e6,e7,m4,m5,m6,m7,e21,e22,uw,ga,g1,fb,wm,uc];exact done _ _ _ 7 (by simp) kb.symm (by omega)
  ·have ga:¬ (i:Int)<y.mems.length:=by omega
   simp [bB,-V,-y3,-y0,J,e22,uw,ga];refine hk _ _ (.inl ⟨rfl,by simp [e5],by simp [e7],by simp [m5],by simp [m7],?_⟩);rw [ye (by omega),XO] at kb;exact kb.symm
 ·refine ⟨?_,?_,?_,?_,?_,?_,?_,?_,?_,?_,?_,?_⟩ <;> simp [jA]
 rcases h with ⟨rfl,e5,e7,m5,m7,h0⟩ | ⟨rfl,e8⟩
 case inr=>simp [-V,-y3,-y0,J,e8]
 simp only [jA] at m5;simp [-V,-y3,-y0,J,e5,m5];have md:nN mns x.mems y.mems=if x.mems.any (F9 y.mems)=true then 6 else 0:=by unfold nN; rw [if_pos h0]
 refine lA x.mems.length (fun i s=>(s.env 7).v=.ptr 7 1 0/\s.mem 7 1=some (jA y)/\(s.env 73).v=.sl x.mn (x.mems.map bA)/\(s.env 74).v=.int .i64 x.mems.length/\(s.env 75).v=.int .i64 i/\(x.mems.take i).any (F9 y.mems)=false)
  (fun e s=>(e=.exit 2/\x.mems.any (F9 y.mems)=false)\/(e=.ret/\(s.env 8).v=.int .i64 6/\x.mems.any (F9 y.mems)=true)) (fun i hi s k h ih hk=>?_) _ _ ?_ (fun e s h=>?_)
 ·obtain ⟨e7,m7,e73,e74,e75,ne⟩:=h;refine tA ?_;by_cases fa:i<x.mems.length
  ·have ga:(i:Int)<x.mems.length:=by omega
   have g1:(x.mems.map bA)[i]?=some (bA x.mems[i]):=by simp [fa]
   have uc:=ZA (i:=i);have fb:=jX y x.mems[i].id (by omega);have rh:=mT (F9 y.mems) x.mems fa;have nk:=any_yes (F9 y.mems) x.mems fa;generalize x.mems[i]=q at *
   simp only [bA] at g1;simp only [jA] at m7;simp only [fA,rA,bQ] at fb;simp only [F9] at rh nk;by_cases c:0<=QB y.mems q.id
   ·simp only [c,decide_true] at fb;simp only [c,decide_true,Bool.not_true,Bool.and_false,Bool.or_false] at rh;simp [RD,-V,-y3,-y0,J,e7,m7,e73,e74,e75,ga,g1,fb,uc];refine ih fa _ ⟨?_,?_,?_,?_,?_,rh.trans ne⟩ <;> simp [e7,m7,e73,e74,jA]
   ·simp only [c,decide_false] at fb;cases rq:q.crit with
    | true =>
     simp [RD,-V,-y3,-y0,J,e7,m7,e73,e74,e75,ga,g1,fb,rq,uc];exact hk _ _ (.inr ⟨rfl,by simp,nk (by simp [rq,c])⟩)
    | false =>
     simp [RD,-V,-y3,-y0,J,e7,m7,e73,e74,e75,ga,g1,fb,rq,uc];refine ih fa _ ⟨?_,?_,?_,?_,?_,by rw [rh,ne,rq]; rfl⟩ <;> simp [e7,m7,e73,e74,jA]
  ·have ga:¬ (i:Int)<x.mems.length:=by omega
   simp [RD,-V,-y3,-y0,J,e74,e75,ga];rw [yD (by omega)] at ne;exact hk _ _ (.inl ⟨rfl,ne⟩)
 ·refine ⟨?_,?_,?_,?_,?_,?_⟩ <;> simp [e7,m7,jA]
 ·rcases h with ⟨rfl,hf⟩ | ⟨rfl,e8,hf⟩
  ·simp [-V,-y3,-y0,J,md,hf]
  ·simp [-V,-y3,-y0,J,e8,md,hf]
theorem rrecord_ev:fA 134 [.agg (UA w),.agg (rA x),.agg (UA r),.agg (rA y)] (.int .i64 (nN mns x.mems y.mems)):=by
 refine wA (c:=gJ) rfl rfl ?_;simp only [UA];simp [gJ,-V,-y3,-y0,J,rA];refine lA y.mems.length (fun i s=>(s.env 4).v=.ptr 4 1 0/\(s.env 5).v=.ptr 5 1 0/\(s.env 6).v=.ptr 6 1 0/\(s.env 7).v=.ptr 7 1 0/\s.mem 4 1=some [⟨.sl w.nl (w.types.map rA),.no⟩]/\s.mem 5 1=some (jA x)/\s.mem 6 1=some [⟨.sl r.nl (r.types.map rA),.no⟩]/\s.mem 7 1=some (jA y)/\(s.env 9).v=.int .i64 i/\XO mns x.mems (y.mems.drop i)=XO mns x.mems y.mems)
  (fun e s=>(e=.exit 0/\(s.env 5).v=.ptr 5 1 0/\(s.env 7).v=.ptr 7 1 0/\s.mem 5 1=some (jA x)/\s.mem 7 1=some (jA y)/\XO mns x.mems y.mems=0)\/(e=.ret/\(s.env 8).v=.int .i64 (nN mns x.mems y.mems))) (fun i hi s k h ih hk=>?_) _ _ ?_ (fun e s h=>?_)
 ·obtain ⟨e4,e5,e6,e7,m4,m5,m6,m7,e9,kb⟩:=h;refine tA ?_;simp only [jA] at m5 m7;by_cases fa:i<y.mems.length
  ·have ga:(i:Int)<y.mems.length:=by omega
   have g1:(y.mems.map bA)[i]?=some (bA y.mems[i]):=by simp [fa]
   have uc:=ZA (i:=i);have ru:=y6 fa;rw [y9 fa,XO] at kb;generalize y.mems[i]=g at *
   have fb:=oT x g.id (by omega);simp only [bA] at g1;simp only [fA,rA,bQ] at fb;have done:∀ (E:Nat->qA) (M:Nat->Nat->Option (List qA)) (nx:Nat) (z:Int),(E 8).v=.int .i64 z->XO mns x.mems y.mems=z->z≠0->k .ret ⟨E,M,nx,s.obj,s.gh⟩=some (.int .i64 (nN mns x.mems y.mems),none):=fun E M nx z h1 h2 h3=>hk _ _ (.inr ⟨rfl,by unfold nN; rw [if_neg (by omega),h2]; exact h1⟩)
   by_cases c:0<=QB x.mems g.id
   ·obtain ⟨f,hf,hfm⟩:=MN c;rw [if_pos c,hf] at kb;simp only at kb;simp only [c,decide_true] at fb;have gf:(x.mems.map bA)[(QB x.mems g.id).toNat]?=some (bA f):=by rw [yc,hf]; rfl
    have dd:max (QB x.mems g.id) 0=QB x.mems g.id:=by omega
    generalize QB x.mems g.id=ix at *
    rw [dd] at fb;simp only [bA] at gf;by_cases lj:f.has=true
    ·rw [if_pos lj] at kb;by_cases te:g.has=true
     ·rw [if_pos te] at kb;obtain ⟨_,hq⟩:=hR f hfm g ru lj te;simp only [fA,UA,uA] at hq;by_cases hm:mns f g=true
      ·rw [if_pos hm] at kb;rw [hm] at hq;simp [iC,-V,-y3,-y0,J,e4,e5,e6,e7,m4,m5,m6,m7,e9,ga,g1,fb,gf,c,lj,te,hq,uc];refine ih fa _ ⟨?_,?_,?_,?_,?_,?_,?_,?_,?_,kb⟩ <;> simp [e4,e5,e6,e7,m4,m5,m6,m7,jA]
      ·have jd:mns f g=false:=by simpa using hm
       rw [if_neg hm] at kb;rw [jd] at hq;simp [iC,-V,-y3,-y0,J,e4,e5,e6,e7,m4,m5,m6,m7,e9,ga,g1,fb,gf,c,lj,te,hq,uc];exact done _ _ _ 10 (by simp) kb.symm (by omega)
     ·have wm:g.has=false:=by simpa using te
      rw [if_neg te] at kb;simp [iC,-V,-y3,-y0,J,e4,e5,e6,e7,m4,m5,m6,m7,e9,ga,g1,fb,gf,c,lj,wm,uc];exact done _ _ _ 7 (by simp) kb.symm (by omega)
    ·have xv:f.has=false:=by simpa using lj
     rw [if_neg lj] at kb;cases te:g.has with
     | true =>
      simp [iC,-V,-y3,-y0,J,e4,e5,e6,e7,m4,m5,m6,m7,e9,ga,g1,fb,gf,c,xv,te,uc];refine ih fa _ ⟨?_,?_,?_,?_,?_,?_,?_,?_,?_,kb⟩ <;> simp [e4,e5,e6,e7,m4,m5,m6,m7,jA]
     | false =>
      simp [iC,-V,-y3,-y0,J,e4,e5,e6,e7,m4,m5,m6,m7,e9,ga,g1,fb,gf,c,xv,te,uc];refine ih fa _ ⟨?_,?_,?_,?_,?_,?_,?_,?_,?_,kb⟩ <;> simp [e4,e5,e6,e7,m4,m5,m6,m7,jA]
   ·rw [if_neg c] at kb;simp only [c,decide_false] at fb;by_cases te:g.has=true
    ·rw [if_pos te] at kb;simp [iC,-V,-y3,-y0,J,e4,e5,e6,e7,m4,m5,m6,m7,e9,ga,g1,fb,te,uc];refine ih fa _ ⟨?_,?_,?_,?_,?_,?_,?_,?_,?_,kb⟩ <;> simp [e4,e5,e6,e7,m4,m5,m6,m7,jA]
    ·have wm:g.has=false:=by simpa using te
     rw [if_neg te] at kb;simp [iC,-V,-y3,-y0,J,e4,e5,e6,e7,m4,m5,m6,m7,e9,ga,g1,fb,wm,uc];exact done _ _ _ 7 (by simp) kb.symm (by omega)
  ·have ga:¬ (i:Int)<y.mems.length:=by omega
   simp [iC,-V,-y3,-y0,J,e7,m7,e9,ga];refine hk _ _ (.inl ⟨rfl,by simp [e5],by simp [e7],by simp [m5],by simp [m7],?_⟩);rw [ye (by omega),XO] at kb;exact kb.symm
 ·refine ⟨?_,?_,?_,?_,?_,?_,?_,?_,?_,?_⟩ <;> simp [jA]
 rcases h with ⟨rfl,e5,e7,m5,m7,h0⟩ | ⟨rfl,e8⟩
 case inr=>simp [-V,-y3,-y0,J,e8]
 simp [-V,-y3,-y0,J];have md:nN mns x.mems y.mems=if x.mems.any (F9 y.mems)=true then 6 else 0:=by unfold nN; rw [if_pos h0]
 refine lA x.mems.length (fun i s=>(s.env 5).v=.ptr 5 1 0/\(s.env 7).v=.ptr 7 1 0/\s.mem 5 1=some (jA x)/\s.mem 7 1=some (jA y)/\(s.env 13).v=.int .i64 i/\(x.mems.take i).any (F9 y.mems)=false)
  (fun e s=>(e=.exit 2/\x.mems.any (F9 y.mems)=false)\/(e=.ret/\(s.env 8).v=.int .i64 6/\x.mems.any (F9 y.mems)=true)) (fun i hi s k h ih hk=>?_) _ _ ?_ (fun e s h=>?_)
 ·obtain ⟨e5,e7,m5,m7,jj,ne⟩:=h;refine tA ?_;simp only [jA] at m5 m7;by_cases fa:i<x.mems.length
  ·have ga:(i:Int)<x.mems.length:=by omega
   have g1:(x.mems.map bA)[i]?=some (bA x.mems[i]):=by simp [fa]
   have uc:=ZA (i:=i);have fb:=oT y x.mems[i].id (by omega);have rh:=mT (F9 y.mems) x.mems fa;have nk:=any_yes (F9 y.mems) x.mems fa;generalize x.mems[i]=q at *
   simp only [bA] at g1;simp only [fA,rA,bQ] at fb;simp only [F9] at rh nk;by_cases c:0<=QB y.mems q.id
   ·simp only [c,decide_true] at fb;simp only [c,decide_true,Bool.not_true,Bool.and_false,Bool.or_false] at rh;simp [BE,-V,-y3,-y0,J,e5,e7,m5,m7,jj,ga,g1,fb,uc];refine ih fa _ ⟨?_,?_,?_,?_,?_,rh.trans ne⟩ <;> simp [e5,e7,m5,m7,jA]
   ·simp only [c,decide_false] at fb;cases rq:q.crit with
    | true =>
     simp [BE,-V,-y3,-y0,J,e5,e7,m5,m7,jj,ga,g1,fb,rq,uc];exact hk _ _ (.inr ⟨rfl,by simp,nk (by simp [rq,c])⟩)
    | false =>
     simp [BE,-V,-y3,-y0,J,e5,e7,m5,m7,jj,ga,g1,fb,rq,uc];refine ih fa _ ⟨?_,?_,?_,?_,?_,by rw [rh,ne,rq]; rfl⟩ <;> simp [e5,e7,m5,m7,jA]
  ·have ga:¬ (i:Int)<x.mems.length:=by omega
   simp [BE,-V,-y3,-y0,J,e5,m5,jj,ga];rw [yD (by omega)] at ne;exact hk _ _ (.inl ⟨rfl,ne⟩)
 ·refine ⟨?_,?_,?_,?_,?_,?_⟩ <;> simp [e5,e7,m5,m7,jA]
 ·rcases h with ⟨rfl,hf⟩ | ⟨rfl,e8,hf⟩
  ·simp [-V,-y3,-y0,J,md,hf]
  ·simp [-V,-y3,-y0,J,e8,md,hf]
end
abbrev Pr:=Int × Int
def KB (p:Pr):List AV:=[.int .i64 p.1,.int .i64 p.2]
theorem aY:uB 16 1=true:=by decide
theorem W8:uB 16 2=true:=by decide
theorem NF (l:List Pr):gB 2 (l.map KB)=true:=tC _ _ _ fun _=>rfl
section
variable (l:List Pr) (hl:l.length<=9223372036854775807) (b:Bool) (p:Pr)
include l hl b p
theorem rin_ev:fA 35 [.sl b (l.map KB),.agg (KB p)] (.bool (decide (p∈l))):=by
 refine wA (c:=HN) rfl rfl ?_;simp [HN,-V,-y3,-y0,J,KB];refine lA l.length (fun i s=>(s.env 0).v=.sl b (l.map KB)/\(s.env 3).v=.ptr 3 1 0/\s.mem 3 1=some [⟨.int .i64 p.1,.no⟩,⟨.int .i64 p.2,.no⟩]/\(s.env 5).v=.int .i64 i/\(decide (p∈l)=decide (p∈l.drop i)))
  (fun e s=>(e=.exit 0/\¬ p∈l)\/(e=.ret/\(s.env 4).v=.bool true/\p∈l)) (fun i hi s k h ih hk=>?_) _ _ ?_ (fun e s h=>?_)
 ·obtain ⟨e0,e3,m3,e5,hd⟩:=h;refine tA ?_;by_cases fa:i<l.length
  ·have ga:(i:Int)<l.length:=by omega
   have g1:(l.map KB)[i]?=some (KB l[i]):=by simp [fa]
   have hw:=ZA (i:=i);rw [y9 fa] at hd;generalize l[i]=q at *
   simp only [KB] at g1;by_cases c1:q.1=p.1
   ·by_cases c2:q.2=p.2
    ·have e:q=p:=Prod.ext c1 c2;simp [JH,-V,-y3,-y0,J,e0,e3,m3,e5,ga,g1,c1,c2,hw];refine hk _ _ (.inr ⟨rfl,by simp,?_⟩);simp [e] at hd;exact hd
    ·have e:¬ p=q:=fun h=>c2 (by rw [h])
     simp [JH,-V,-y3,-y0,J,e0,e3,m3,e5,ga,g1,c1,c2,hw];refine ih fa _ ⟨?_,?_,?_,?_,?_⟩ <;> simp [e0,e3,m3]
     simpa [e] using hd
   ·have e:¬ p=q:=fun h=>c1 (by rw [h])
    simp [JH,-V,-y3,-y0,J,e0,e3,m3,e5,ga,g1,c1,hw];refine ih fa _ ⟨?_,?_,?_,?_,?_⟩ <;> simp [e0,e3,m3]
    simpa [e] using hd
  ·have ga:¬ (i:Int)<l.length:=by omega
   simp [JH,-V,-y3,-y0,J,e0,e5,ga];refine hk _ _ (.inl ⟨rfl,?_⟩);rw [ye (by omega)] at hd;simpa using hd
 ·refine ⟨?_,?_,?_,?_,?_⟩ <;> simp [KB]
 ·rcases h with ⟨rfl,hn⟩ | ⟨rfl,e4,hy⟩
  ·simp [-V,-y3,-y0,J,hn]
  ·simp [-V,-y3,-y0,J,e4,hy]
theorem index_ev:fA 158 [.sl b (l.map KB),.agg (KB p)] (.int .i64 (IB (fun q=>decide (q=p)) l)):=by
 refine wA (c:=FE) rfl rfl ?_;simp [FE,-V,-y3,-y0,J,KB];refine lA l.length (fun i s=>(s.env 0).v=.sl b (l.map KB)/\(s.env 3).v=.ptr 3 1 0/\s.mem 3 1=some [⟨.int .i64 p.1,.no⟩,⟨.int .i64 p.2,.no⟩]/\(s.env 7).v=.int .i64 l.length/\(s.env 8).v=.int .i64 i/\(IB (fun q=>decide (q=p)) l=if IB (fun q=>decide (q=p)) (l.drop i)=-1 then -1 else IB (fun q=>decide (q=p)) (l.drop i) + i))
  (fun e s=>(e=.exit 0/\IB (fun q=>decide (q=p)) l=-1)\/(e=.ret/\(s.env 4).v=.int .i64 (IB (fun q=>decide (q=p)) l))) (fun i hi s k h ih hk=>?_) _ _ ?_ (fun e s h=>?_)
 ·obtain ⟨e0,e3,m3,e7,e8,hd⟩:=h;refine tA ?_;by_cases fa:i<l.length
  ·have ga:(i:Int)<l.length:=by omega
   have g1:(l.map KB)[i]?=some (KB l[i]):=by simp [fa]
   have hw:=ZA (i:=i);have se:=wF (fun q=>decide (q=p)) (l.drop (i + 1));rw [y9 fa] at hd;generalize l[i]=q at *
   simp only [KB] at g1;have no:¬ q=p->IB (fun q=>decide (q=p)) l=if IB (fun q=>decide (q=p)) (l.drop (i + 1))=-1 then -1 else IB (fun q=>decide (q=p)) (l.drop (i + 1)) + ((i + 1:Nat):Int):=fun e=>by
    rw [GL _ _ _ (by simpa using e)] at hd;rw [hd];split
    ·rename_i h; simp [h]
    ·rename_i h; rw [if_neg (by omega)]; omega
   by_cases c1:q.1=p.1
   ·by_cases c2:q.2=p.2
    ·have e:q=p:=Prod.ext c1 c2;simp [XC,-V,-y3,-y0,J,e0,e3,m3,e7,e8,ga,g1,c1,c2,hw];refine hk _ _ (.inr ⟨rfl,?_⟩);rw [hd];simp [e,IB]
    ·have zq:¬ p.2=q.2:=fun h=>c2 h.symm
     simp [XC,-V,-y3,-y0,J,e0,e3,m3,e7,e8,ga,g1,c1,zq,hw];refine ih fa _ ⟨?_,?_,?_,?_,?_,no fun h=>c2 (by rw [h])⟩ <;> simp [e0,e3,m3,e7]
   ·have ni:¬ p.1=q.1:=fun h=>c1 h.symm
    simp [XC,-V,-y3,-y0,J,e0,e3,m3,e7,e8,ga,g1,ni,hw];refine ih fa _ ⟨?_,?_,?_,?_,?_,no fun h=>c1 (by rw [h])⟩ <;> simp [e0,e3,m3,e7]
  ·have ga:¬ (i:Int)<l.length:=by omega
   simp [XC,-V,-y3,-y0,J,e7,e8,ga];refine hk _ _ (.inl ⟨rfl,?_⟩);rw [ye (by omega)] at hd;simpa [IB] using hd
 ·refine ⟨?_,?_,?_,?_,?_,?_⟩ <;> simp [KB]
 ·rcases h with ⟨rfl,hn⟩ | ⟨rfl,e4⟩
  ·simp [-V,-y3,-y0,J,hn]
  ·simp [-V,-y3,-y0,J,e4]
theorem N6:fA 136 [.sl b (l.map KB),.agg (KB p)] (.bool (decide (p∈l))):=by
 have h:=index_ev l hl b p;refine wA (c:=KD) rfl rfl ?_;simp only [fA,KB] at h;have h2:decide (p∈l)=decide (0<=IB (fun q=>decide (q=p)) l):=by
  rw [NW];by_cases hp:p∈l
  ·rw [decide_eq_true hp,List.any_eq_true.2 ⟨p,hp,by simp⟩]
  ·rw [decide_eq_false hp]
   symm
   rw [List.any_eq_false];intro x hx;simp only [decide_eq_true_eq];rintro rfl;exact hp hx
 rw [h2];simp [KD,-V,-y3,-y0,J,KB,h]
end
def pE (out:List Pr) (p:Pr):List Pr:=if p∈out then out else out++[p]
def i2 (ys:List uC) (f:uC):List Pr:=if 0<=QB ys f.id then (match ys[(QB ys f.id).toNat]? with
 | some g=>[(f.ty,g.ty)]
 | none=>[]) else []
def lN (xs ys:List uC):List Pr:=xs.flatMap (i2 ys)
def O2 (x y:dA):List Pr:=if x.kind=8/\0<x.max then [(x.key,y.key)] else []
def tS (x y:dA):List Pr:=if x.kind=9\/(x.kind=7\/x.kind=8)/\0<x.max then [(x.elem,y.elem)] else []
def WN (x y:dA):List Pr:=if x.kind=y.kind then (lN x.mems y.mems++O2 x y++tS x y).foldl pE [] else []
theorem comM_len (ys:List uC) (f:uC):(i2 ys f).length<=1:=by
 unfold i2;split
 ·split <;> simp
 ·simp
theorem j4 (out:List Pr) (p:Pr):(pE out p).length<=out.length + 1:=by
 unfold pE;split <;> simp
theorem sN:∀ (l out:List Pr),(l.foldl pE out).length<=out.length + l.length
 | [],out=>by simp
 | p :: r,out=>by
  have h1:=sN r (pE out p);have h2:=j4 out p;simp only [List.foldl_cons,yE];omega
theorem pP (ys:List uC):∀ xs:List uC,(lN xs ys).length<=xs.length
 | []=>by simp [lN]
 | f :: r=>by
  have h1:=pP ys r;have h2:=comM_len ys f;simp only [lN,List.flatMap_cons,yp,yE] at h1 ⊢;omega
def mJ (out:List Pr) (a:An):List qA:=[⟨.sl out.isEmpty (out.map KB),a⟩]
def outAn (out:List Pr) (a:An):Prop:=out=[]/\a=.ex\/out≠[]/\a=.own 16 63
theorem add_ev {r:RV} (out:List Pr) (ia:out.length<=1000000) (a b:Int) {a1 a2 a3:An} {s:pA} {t n:Nat} {an:An} (ht:t≠5) (hm:s.mem t n=some (mJ out an)) (rp:outAn out an) (k:qA->pA->Option RV)
  (hk:∀ y s' an',s.next<=s'.next->s'.mem t n=some (mJ (pE out (a,b)) an')->outAn (pE out (a,b)) an'->(∀ j,(s'.gh j).v=(s.gh j).v)->(∀ t' n' row,t'≠5->¬ (t'=t/\n'=n)->s.mem t' n'=some row->(∀ x∈row,x.a=.no)->s'.mem t' n'=some row)->k y s'=some r) :
  i7 gA eA 135 [⟨.int .i64 a,a1⟩,⟨.int .i64 b,a2⟩,⟨.ptr t n 0,a3⟩] s k=some r:=by
 refine zH rC rfl rfl ?_;have hc:=N6 out (by omega) out.isEmpty (a,b);have q:=NF out;have ja:uB 16 (out.length + 1)=true:=by rw [TA]; omega
 have ka:∀ (row:List qA),(∀ x∈row,x.a=.no)->row.map (qA.strip 16)=row:=fun row h=>by
  conv=>rhs; rw [<- List.map_id row]
  refine ym fun x hx=>?_
  have:=h x hx;cases x;simp only at this;subst this;rfl
 simp only [fA,KB] at hc;simp only [mJ] at hm;by_cases fe:(a,b)∈out
 ·rw [decide_eq_true fe] at hc;have ly:pE out (a,b)=out:=if_pos fe;rw [ly] at hk;simp [rC,-V,-y3,-y0,J,hm,ht,hc];refine hk _ _ an ?_ ?_ rp ?_ ?_
  ·simp; omega
  ·simp [hm,ht,mJ]
  ·intro j; simp
  ·intro t' n' row h5 oa h1 _;simp [h5,h1]
 ·rw [decide_eq_false fe] at hc;have ly:pE out (a,b)=out++[(a,b)]:=if_neg fe;rw [ly] at hk;rcases rp with ⟨rfl,rfl⟩ | ⟨oa,rfl⟩
  ·simp only [List.isEmpty_nil,yt] at hc hm;simp [rC,-V,-y3,-y0,J,hm,ht,hc,aY];refine hk _ _ (.own 16 63) ?_ ?_ (.inr ⟨by simp,rfl⟩) ?_ ?_
   ·simp; omega
   ·simp [hm,ht,mJ,KB]
   ·intro j; simp
   ·intro t' n' row h5 oa h1 h2;have:=ka row h2;simp [h5,oa,h1,this]
  ·have bg:out.isEmpty=false:=by simpa using oa
   rw [bg] at hm hc;simp [rC,-V,-y3,-y0,J,hm,ht,hc,ja,q];refine hk _ _ (.own 16 63) ?_ ?_ (.inr ⟨by simp,rfl⟩) ?_ ?_
   ·simp; omega
   ·simp [hm,ht,mJ,KB]
   ·intro j; simp
   ·intro t' n' row h5 oa h1 h2;have:=ka row h2;simp [h5,oa,h1,this]
theorem WZ {ys:List uC} {f:uC} (h:0<=QB ys f.id) {g:uC} (hg:ys[(QB ys f.id).toNat]?=some g):i2 ys f=[(f.ty,g.ty)]:=by
 unfold i2;rw [if_pos h,hg]
theorem QZ {ys:List uC} {f:uC} (h:¬ 0<=QB ys f.id):i2 ys f=[]:=if_neg h
def UO (xs ys:List uC) (i:Nat):List Pr:=(lN (xs.take i) ys).foldl pE []
theorem P9 {xs ys:List uC} {i:Nat} (h:i<xs.length):UO xs ys (i + 1)=(i2 ys xs[i]).foldl pE (UO xs ys i):=by
 unfold UO lN;rw [<- yI h,List.flatMap_append,List.foldl_append];simp
theorem EZ (xs ys:List uC) (i:Nat):(UO xs ys i).length<=i:=by
 have h1:=sN (lN (xs.take i) ys) [];have h2:=pP ys (xs.take i);simp only [yz,List.length_nil] at h1 h2;unfold UO;omega
structure c9 (x y:dA) (out:List Pr) (s:pA):Prop where
 e9:(s.env 9).v=.ptr 9 2 0
 e10:(s.env 10).v=.ptr 10 2 0
 e11:(s.env 11).v=.ptr 11 3 0
 e12:(s.env 12).v=.fn 135 [.ptr 11 3 0]
 m9:s.mem 9 2=some (jA x)
 m10:s.mem 10 2=some (jA y)
 m11:∃ an,s.mem 11 3=some (mJ out an)/\outAn out an
theorem c9.of {x y:dA} {out:List Pr} {s s':pA} (h:c9 x y out s) (he:∀ t,9<=t->t<=12->(s'.env t).v=(s.env t).v) (hm:∀ t n,9<=t->t<=11->s'.mem t n=s.mem t n):c9 x y out s':=by
 obtain ⟨h1,h2,h3,h4,h5,h6,h7⟩:=h;exact ⟨by rw [he 9 (by omega) (by omega),h1],by rw [he 10 (by omega) (by omega),h2],by rw [he 11 (by omega) (by omega),h3],by rw [he 12 (by omega) (by omega),h4],by rw [hm 9 _ (by omega) (by omega),h5],by rw [hm 10 _ (by omega) (by omega),h6],by rw [hm 11 _ (by omega) (by omega)]; exact h7⟩
theorem U1 (x:dA):∀ s∈jA x,s.a=.no:=by simp [jA]
theorem sT {r:RV} {x y:dA} {out:List Pr} {E:Nat->qA} {M:Nat->Nat->Option (List qA)} {n:Nat} {ob:Nat->Nat->Option AV} {g:Nat->qA} (h:c9 x y out ⟨E,M,n,ob,g⟩) (ia:out.length<=1000000) (a b:Int) {a1 a2 a3:An} (k:qA->pA->Option RV)
  (hk:∀ yv s',c9 x y (pE out (a,b)) ⟨backE 99 s'.gh,s'.mem,s'.next,s'.obj,uT 99 s'.gh⟩->(∀ j,j<99->(s'.gh j).v=(E j).v)->k yv s'=some r) :
  i7 gA eA 135 [⟨.int .i64 a,a1⟩,⟨.int .i64 b,a2⟩,⟨.ptr 11 3 0,a3⟩] ⟨E,M,n,ob,TY 99 E g⟩ k=some r:=by
 obtain ⟨h1,h2,h3,h4,h5,h6,an,h7,h8⟩:=h;refine add_ev (s:=⟨E,M,n,ob,TY 99 E g⟩) out ia a b (by decide) h7 h8 k (fun yv s' an' hn hm rp te ra=>?_);have hj:∀ j,j<99->(s'.gh j).v=(E j).v:=fun j hj=>by rw [te j]; simp [hj]
 refine hk yv s' ⟨?_,?_,?_,?_,?_,?_,an',hm,rp⟩ hj
 ·simpa [hj 9] using h1
 ·simpa [hj 10] using h2
 ·simpa [hj 11] using h3
 ·simpa [hj 12] using h4
 ·exact ra 9 2 _ (by decide) (by decide) h5 (U1 x)
 ·exact ra 10 2 _ (by decide) (by decide) h6 (U1 y)
theorem pZ (w r:wI) {x y:dA} {i k:Int} (hi:0<=i) (gx:w.types[i.toNat]?=some x) (hk:0<=k) (gy:r.types[k.toNat]?=some y) (ev:x.mems.length<=1000) (hym:y.mems.length<=1000):fA 79 [.agg (UA w),.int .i64 i,.agg (UA r),.int .i64 k] (.sl (WN x y).isEmpty ((WN x y).map KB)):=by
 have g1:(w.types.map rA)[i.toNat]?=some (rA x):=by rw [yc,gx]; rfl
 have g2:(r.types.map rA)[k.toNat]?=some (rA y):=by rw [yc,gy]; rfl
 simp only [rA] at g1 g2;refine wA (c:=UD) rfl rfl ?_;by_cases e:x.kind=y.kind
 case neg=>simp [UD,-V,-y3,-y0,J,UA,g1,g2,hi,hk,e,WN]
 simp [UD,-V,-y3,-y0,J,UA,g1,g2,hi,hk,e];refine lA x.mems.length (fun i s=>c9 x y (UO x.mems y.mems i) s/\(s.env 35).v=.sl x.mn (x.mems.map bA)/\(s.env 36).v=.int .i64 x.mems.length/\(s.env 37).v=.int .i64 i)
  (fun e s=>e=.exit 0/\c9 x y (UO x.mems y.mems x.mems.length) s) (fun i hi s k h ih hk=>?_) _ _ ?_ (fun e1 s h=>?_)
 ·obtain ⟨hS,xw,e36,e37⟩:=h;have jy:=hS;obtain ⟨e9,e10,e11,e12,m9,m10,an,m11,ha⟩:=hS;refine tA ?_;by_cases fa:i<x.mems.length
  ·have ga:(i:Int)<x.mems.length:=by omega
   have gm:(x.mems.map bA)[i]?=some (bA x.mems[i]):=by simp [fa]
   have uc:=ZA (i:=i);have jb:=P9 (ys:=y.mems) fa;have ad:=EZ x.mems y.mems i;have fb:=jX y x.mems[i].id (by omega);generalize x.mems[i]=f at *
   simp only [bA] at gm;simp only [fA,rA,bQ] at fb;simp only [jA] at m9 m10;by_cases c:0<=QB y.mems f.id
   ·obtain ⟨g,hg,ru⟩:=MN c;have gg:(y.mems.map bA)[(QB y.mems f.id).toNat]?=some (bA g):=by rw [yc,hg]; rfl
    rw [WZ c hg] at jb;have dd:max (QB y.mems f.id) 0=QB y.mems f.id:=by omega
    simp only [c,decide_true,dd] at fb;generalize QB y.mems f.id=ix at *
    simp only [bA] at gg;simp [JD,-V,-y3,-y0,J,e9,e10,e11,e12,m9,m10,xw,e36,e37,ga,gm,fb,gg,c,uc];refine sT (x:=x) (y:=y) (out:=UO x.mems y.mems i) (jy.of ?_ ?_) (by omega) _ _ _ (fun yv s' hA hj=>?_)
    ·intro t h9 jm;simp
     repeat (rw [if_neg (by omega)])
    ·intro t n h9 im;simp
     repeat (rw [if_neg (by omega)])
    ·have j35:=hj 35 (by omega);have j36:=hj 36 (by omega);have j37:=hj 37 (by omega);simp [xw,e36,e37] at j35 j36 j37;simp [-V,-y3,-y0,J,j37,uc];refine ih fa _ ⟨?_,?_,?_,?_⟩
     ·rw [jb];refine hA.of (fun t h9 jm=>?_) (fun t n _ _=>rfl);simp
      repeat (rw [if_neg (by omega)])
     ·simp [j35]
     ·simp [j36]
     ·simp
   ·rw [QZ c] at jb;simp only [c,decide_false] at fb;simp [JD,-V,-y3,-y0,J,e9,e10,e11,e12,m9,m10,xw,e36,e37,ga,gm,fb,c,uc];refine ih fa _ ⟨?_,?_,?_,?_⟩
    ·rw [jb];refine jy.of (fun t h9 jm=>?_) (fun t n h9 im=>?_)
     ·simp
      repeat (rw [if_neg (by omega)])
     ·simp
      repeat (rw [if_neg (by omega)])
    ·simp [xw]
    ·simp [e36]
    ·simp
  ·have ga:¬ (i:Int)<x.mems.length:=by omega
   have og:i=x.mems.length:=by omega
   simp [JD,-V,-y3,-y0,J,e36,e37,ga];refine hk _ _ ⟨rfl,?_⟩;rw [<- og];refine jy.of (fun t h9 jm=>?_) (fun t n _ _=>rfl);simp
   repeat (rw [if_neg (by omega)])
 ·refine ⟨⟨?_,?_,?_,?_,?_,?_,.ex,?_,.inl ⟨rfl,rfl⟩⟩,?_,?_,?_⟩ <;> simp [jA,e,mJ,UO,lN]
 obtain ⟨rfl,hS⟩:=h;have ad:=EZ x.mems y.mems x.mems.length;have od:WN x y=(O2 x y++tS x y).foldl pE (UO x.mems y.mems x.mems.length):=by
  unfold WN UO;rw [if_pos e,List.take_length,List.foldl_append,List.foldl_append,List.foldl_append]
 generalize UO x.mems y.mems x.mems.length=out at *
 unfold O2 tS at od;have jy:=hS;obtain ⟨e9,e10,e11,e12,m9,m10,an,m11,ha⟩:=hS;simp only [jA] at m9 m10;rw [e] at od;by_cases k8:y.kind=8
 ·by_cases c:0<x.max
  ·rw [if_pos ⟨k8,c⟩,if_pos (.inr ⟨.inr k8,c⟩)] at od;simp only [List.cons_append,List.nil_append,List.foldl_cons,List.foldl_nil] at od;simp [-V,-y3,-y0,J,e9,e10,e11,e12,m9,m10,e,k8,c];refine sT (x:=x) (y:=y) (out:=out) (jy.of ?_ ?_) (by omega) _ _ _ (fun yv s' hA hj=>?_)
   ·intro t h9 jm;simp
    repeat (rw [if_neg (by omega)])
   ·intro t n h9 im;rfl
   ·have hA':=hA;obtain ⟨f9,f10,f11,f12,n9,n10,an1,n11,hb⟩:=hA;simp at f9 f10 f11 f12;simp only [jA] at n9 n10;simp [-V,-y3,-y0,J,f9,f10,f11,f12,n9,n10,e,k8,c];have gn:=j4 out (x.key,y.key);refine sT (x:=x) (y:=y) (out:=pE out (x.key,y.key)) (hA'.of ?_ ?_) (by omega) _ _ _ (fun yv2 s2 hB hj2=>?_)
    ·intro t h9 jm;simp
     repeat (rw [if_neg (by omega)])
    ·intro t n h9 im;rfl
    ·obtain ⟨b9,b10,tw,sh,p9,p10,an2,sx,hc⟩:=hB;simp at tw;simp only [mJ] at sx;simp [-V,-y3,-y0,J,tw,sx,od]
  ·rw [if_neg (fun h=>c h.2),if_neg (by omega)] at od;simp only [yN,List.foldl_nil] at od;simp only [mJ] at m11;simp [-V,-y3,-y0,J,e9,e10,e11,e12,m9,m10,m11,e,k8,c,od]
 rw [if_neg (fun h=>k8 h.1),List.nil_append] at od;by_cases k9:y.kind=9
 ·rw [if_pos (.inl k9)] at od;simp only [List.foldl_cons,List.foldl_nil] at od;simp [-V,-y3,-y0,J,e9,e10,e11,e12,m9,m10,e,k9];refine sT (x:=x) (y:=y) (out:=out) (jy.of ?_ ?_) (by omega) _ _ _ (fun yv s' hA hj=>?_)
  ·intro t h9 jm;simp
   repeat (rw [if_neg (by omega)])
  ·intro t n h9 im;rfl
  ·obtain ⟨b9,b10,tw,sh,p9,p10,an2,sx,hc⟩:=hA;simp at tw;simp only [mJ] at sx;simp [-V,-y3,-y0,J,tw,sx,od]
 by_cases k7:y.kind=7
 ·by_cases c:0<x.max
  ·rw [if_pos (.inr ⟨.inl k7,c⟩)] at od;simp only [List.foldl_cons,List.foldl_nil] at od;simp [-V,-y3,-y0,J,e9,e10,e11,e12,m9,m10,e,k7,c];refine sT (x:=x) (y:=y) (out:=out) (jy.of ?_ ?_) (by omega) _ _ _ (fun yv s' hA hj=>?_)
   ·intro t h9 jm;simp
    repeat (rw [if_neg (by omega)])
   ·intro t n h9 im;rfl
   ·obtain ⟨b9,b10,tw,sh,p9,p10,an2,sx,hc⟩:=hA;simp at tw;simp only [mJ] at sx;simp [-V,-y3,-y0,J,tw,sx,od]
  ·rw [if_neg (by omega)] at od;simp only [List.foldl_nil] at od;simp only [mJ] at m11;simp [-V,-y3,-y0,J,e9,e10,e11,e12,m9,m10,m11,e,k7,c,od]
 rw [if_neg (by omega)] at od;simp only [List.foldl_nil] at od;simp only [mJ] at m11;simp [-V,-y3,-y0,J,e9,e10,e11,e12,m9,m10,m11,e,k7,k8,k9,od]
theorem comL_step {xs ys:List uC} {i:Nat} (h:i<xs.length):lN (xs.take (i + 1)) ys=lN (xs.take i) ys++i2 ys xs[i]:=by
 unfold lN;rw [<- yI h,List.flatMap_append];simp
theorem comLT_len (ys xs:List uC) (i:Nat):(lN (xs.take i) ys).length<=i:=by
 have h2:=pP ys (xs.take i);simp only [yz] at h2;omega
def apA (l:List Pr) (a:An) (k:Nat):Prop:=l=[]/\a=.ex\/l≠[]/\a=.own k 63
theorem EJ {r:RV} (l:List Pr) (hl:l.length<=1000000) (s:pA) (im:(s.env 11).v=.sl l.isEmpty (l.map KB)) (jh:(s.env 15).v=.sl true []) (fx:(s.env 16).v=.int .i64 0) (k:Ex->pA->Option RV)
  (hk:∀ s',(s'.env 15).v=.sl (l.foldl pE []).isEmpty ((l.foldl pE []).map KB)->k (.exit 2) s'=some r):TH gA eA JE s k=some r:=by
 refine lA l.length (fun i s=>(s.env 11).v=.sl l.isEmpty (l.map KB)/\(s.env 16).v=.int .i64 i/\(s.env 15).v=.sl ((l.take i).foldl pE []).isEmpty (((l.take i).foldl pE []).map KB)/\(((l.take i).foldl pE []=[])\/((l.take i).foldl pE []≠[])/\(s.env 15).a=.own 128 63))
  (fun e s=>e=.exit 2/\(s.env 15).v=.sl (l.foldl pE []).isEmpty ((l.foldl pE []).map KB)) (fun i hi s k h ih hk=>?_) _ _ ⟨im,fx,by simpa using jh,.inl rfl⟩ (fun e s h=>by obtain ⟨rfl,h⟩:=h; exact hk _ h)
 obtain ⟨e11,e16,e15,a15⟩:=h;refine tA ?_;by_cases fa:i<l.length
 ·have ga:(i:Int)<l.length:=by omega
  have g1:(l.map KB)[i]?=some (KB l[i]):=by simp [fa]
  have hw:=ZA (i:=i);have jb:(l.take (i + 1)).foldl pE []=pE ((l.take i).foldl pE []) l[i]:=by rw [<- yI fa,List.foldl_append]; rfl
  have ia:((l.take i).foldl pE []).length<=i:=by
   have:=sN (l.take i) [];simp only [yz,List.length_nil] at this;omega
  rw [jb] at ih;generalize (l.take i).foldl pE []=out at *
  generalize l[i]=p at *
  have fe:=rin_ev out (by omega) out.isEmpty p;have q:=NF out;have ja:uB 16 (out.length + 1)=true:=by rw [TA]; omega
  simp only [fA,KB] at fe g1;by_cases c:p∈out
  ·rw [decide_eq_true c] at fe;rw [show pE out p=out from if_pos c] at ih;simp [JE,-V,-y3,-y0,J,e11,e15,e16,ga,g1,fe,hw];refine ih fa _ ⟨?_,?_,?_,?_⟩
   ·simp [e11]
   ·simp
   ·simp [e15]
   ·simpa using a15
  ·rw [decide_eq_false c] at fe;rw [show pE out p=out++[p] from if_neg c] at ih;rcases a15 with rfl | ⟨oa,a15⟩
   ·simp at e15 fe;simp [JE,-V,-y3,-y0,J,e11,e15,e16,ga,g1,fe,hw,aY,W8];refine ih fa _ ⟨?_,?_,?_,.inr ⟨by simp,?_⟩⟩
    ·simp [e11]
    ·simp
    ·simp [KB]
    ·simp
   ·have bg:out.isEmpty=false:=by simpa using oa
    rw [bg] at e15 fe;simp [JE,-V,-y3,-y0,J,e11,e15,a15,e16,ga,g1,fe,hw,ja,q];refine ih fa _ ⟨?_,?_,?_,.inr ⟨by simp,?_⟩⟩
    ·simp [e11]
    ·simp
    ·simp [KB]
    ·simp
 ·have ga:¬ (i:Int)<l.length:=by omega
  simp [JE,-V,-y3,-y0,J,e11,e16,ga];refine hk _ _ ⟨rfl,?_⟩;rw [yD (by omega)] at e15;simp [e15]
structure RnI (x y:dA) (l:List Pr) (s:pA):Prop where
 e9:(s.env 9).v=.ptr 9 2 0
 e10:(s.env 10).v=.ptr 10 2 0
 m9:s.mem 9 2=some (jA x)
 m10:s.mem 10 2=some (jA y)
 e11:(s.env 11).v=.sl l.isEmpty (l.map KB)
 a11:apA l (s.env 11).a 66
theorem next_ev (w r:wI) {x y:dA} {i k:Int} (hi:0<=i) (gx:w.types[i.toNat]?=some x) (hk:0<=k) (gy:r.types[k.toNat]?=some y) (ev:x.mems.length<=1000) (hym:y.mems.length<=1000):fA 41 [.agg (UA w),.int .i64 i,.agg (UA r),.int .i64 k] (.sl (WN x y).isEmpty ((WN x y).map KB)):=by
 have g1:(w.types.map rA)[i.toNat]?=some (rA x):=by rw [yc,gx]; rfl
 have g2:(r.types.map rA)[k.toNat]?=some (rA y):=by rw [yc,gy]; rfl
 simp only [rA] at g1 g2;refine wA (c:=sJ) rfl rfl ?_;by_cases e:x.kind=y.kind
 case neg=>simp [sJ,-V,-y3,-y0,J,UA,g1,g2,hi,hk,e,WN]
 simp [sJ,-V,-y3,-y0,J,UA,g1,g2,hi,hk,e];refine lA x.mems.length (fun i s=>RnI x y (lN (x.mems.take i) y.mems) s/\(s.env 12).v=.int .i64 i)
  (fun e s=>e=.exit 0/\RnI x y (lN x.mems y.mems) s) (fun i hi s k h ih hk=>?_) _ _ ?_ (fun e1 s h=>?_)
 ·obtain ⟨⟨e9,e10,m9,m10,e11,a11⟩,e12⟩:=h;refine tA ?_;simp only [jA] at m9 m10;by_cases fa:i<x.mems.length
  ·have ga:(i:Int)<x.mems.length:=by omega
   have gm:(x.mems.map bA)[i]?=some (bA x.mems[i]):=by simp [fa]
   have uc:=ZA (i:=i);have jb:=comL_step (ys:=y.mems) fa;have ad:=comLT_len y.mems x.mems i;have fb:=oT y x.mems[i].id (by omega);rw [jb] at ih;generalize x.mems[i]=f at *
   generalize lN (x.mems.take i) y.mems=out at *
   have q:=NF out;have ja:uB 16 (out.length + 1)=true:=by rw [TA]; omega
   simp only [bA] at gm;simp only [fA,rA,bQ] at fb;by_cases c:0<=QB y.mems f.id
   ·obtain ⟨g,hg,ru⟩:=MN c;have gg:(y.mems.map bA)[(QB y.mems f.id).toNat]?=some (bA g):=by rw [yc,hg]; rfl
    rw [WZ c hg] at ih;have dd:max (QB y.mems f.id) 0=QB y.mems f.id:=by omega
    simp only [c,decide_true,dd] at fb;generalize QB y.mems f.id=ix at *
    simp only [bA] at gg;rcases a11 with ⟨rfl,a11⟩ | ⟨oa,a11⟩
    ·simp at e11;simp [pG,-V,-y3,-y0,J,e9,e10,e11,a11,e12,m9,m10,ga,gm,fb,gg,c,uc,aY,W8];refine ih fa _ ⟨⟨?_,?_,?_,?_,?_,.inr ⟨by simp,?_⟩⟩,?_⟩ <;> simp [e9,e10,m9,m10,jA,KB]
    ·have bg:out.isEmpty=false:=by simpa using oa
     rw [bg] at e11;simp [pG,-V,-y3,-y0,J,e9,e10,e11,a11,e12,m9,m10,ga,gm,fb,gg,c,uc,ja,q];refine ih fa _ ⟨⟨?_,?_,?_,?_,?_,.inr ⟨by simp,?_⟩⟩,?_⟩ <;> simp [e9,e10,m9,m10,jA,KB]
   ·rw [QZ c,yN] at ih;simp only [c,decide_false] at fb;simp [pG,-V,-y3,-y0,J,e9,e10,e11,e12,m9,m10,ga,gm,fb,c,uc];refine ih fa _ ⟨⟨?_,?_,?_,?_,?_,?_⟩,?_⟩
    ·simp [e9]
    ·simp [e10]
    ·simp [m9,jA]
    ·simp [m10,jA]
    ·simp [e11]
    ·simpa using a11
    ·simp
  ·have ga:¬ (i:Int)<x.mems.length:=by omega
   simp [pG,-V,-y3,-y0,J,e9,m9,e12,ga];rw [yD (by omega)] at e11 a11;refine hk _ _ ⟨rfl,⟨?_,?_,?_,?_,?_,?_⟩⟩
   ·simp [e9]
   ·simp [e10]
   ·simp [m9,jA]
   ·simp [m10,jA]
   ·simp [e11]
   ·simpa using a11
 ·refine ⟨⟨?_,?_,?_,?_,?_,.inl ⟨rfl,?_⟩⟩,?_⟩ <;> simp [jA,e,lN]
 obtain ⟨rfl,e9,e10,m9,m10,e11,a11⟩:=h;have ad:=pP y.mems x.mems;have od:WN x y=(lN x.mems y.mems++O2 x y++tS x y).foldl pE []:=by
  unfold WN;rw [if_pos e]
 generalize lN x.mems y.mems=out at *
 unfold O2 tS at od;simp only [jA] at m9 m10;rw [e] at od;have q:=NF out;have ja:uB 16 (out.length + 1)=true:=by rw [TA]; omega
 by_cases k8:y.kind=8
 ·by_cases c:0<x.max
  ·rw [if_pos ⟨k8,c⟩,if_pos (.inr ⟨.inr k8,c⟩)] at od;have zn:uB 16 (out.length + 1 + 1)=true:=by rw [TA]; omega
   have q2:=NF (out++[(x.key,y.key)]);simp only [yU,yj,yt,KB] at q2;rcases a11 with ⟨rfl,a11⟩ | ⟨oa,a11⟩
   ·simp at e11;simp [-V,-y3,-y0,J,e9,e10,e11,a11,m9,m10,e,k8,c,aY,W8];refine EJ [(x.key,y.key),(x.elem,y.elem)] (by simp) _ ?_ ?_ ?_ _ (fun s' jh=>?_)
    ·simp [KB]
    ·simp
    ·simp
    ·simp [-V,-y3,-y0,J,jh,od]
   ·have bg:out.isEmpty=false:=by simpa using oa
    rw [bg] at e11;simp [-V,-y3,-y0,J,e9,e10,e11,a11,m9,m10,e,k8,c,ja,zn,q,q2];refine EJ (out++[(x.key,y.key)]++[(x.elem,y.elem)]) (by simp; omega) _ ?_ ?_ ?_ _ (fun s' jh=>?_)
    ·simp [KB]
    ·simp
    ·simp
    ·simp only [yY] at jh od;simp [-V,-y3,-y0,J,jh,od]
  ·rw [if_neg (fun h=>c h.2),if_neg (by omega),yN,yN] at od;simp [-V,-y3,-y0,J,e9,e10,e11,m9,m10,e,k8,c];refine EJ out (by omega) _ ?_ ?_ ?_ _ (fun s' jh=>?_)
   ·simp [e11]
   ·simp
   ·simp
   ·simp [-V,-y3,-y0,J,jh,od]
 rw [if_neg (fun h=>k8 h.1),yN] at od;by_cases k9:y.kind=9
 ·rw [if_pos (.inl k9)] at od;rcases a11 with ⟨rfl,a11⟩ | ⟨oa,a11⟩
  ·simp at e11;simp [-V,-y3,-y0,J,e9,e10,e11,a11,m9,m10,e,k9,aY,W8];refine EJ [(x.elem,y.elem)] (by simp) _ ?_ ?_ ?_ _ (fun s' jh=>?_)
   ·simp [KB]
   ·simp
   ·simp
   ·simp [-V,-y3,-y0,J,jh,od]
  ·have bg:out.isEmpty=false:=by simpa using oa
   rw [bg] at e11;simp [-V,-y3,-y0,J,e9,e10,e11,a11,m9,m10,e,k9,ja,q];refine EJ (out++[(x.elem,y.elem)]) (by simp; omega) _ ?_ ?_ ?_ _ (fun s' jh=>?_)
   ·simp [KB]
   ·simp
   ·simp
   ·simp [-V,-y3,-y0,J,jh,od]
 by_cases k7:y.kind=7
 ·by_cases c:0<x.max
  ·rw [if_pos (.inr ⟨.inl k7,c⟩)] at od;rcases a11 with ⟨rfl,a11⟩ | ⟨oa,a11⟩
   ·simp at e11;simp [-V,-y3,-y0,J,e9,e10,e11,a11,m9,m10,e,k7,c,aY,W8];refine EJ [(x.elem,y.elem)] (by simp) _ ?_ ?_ ?_ _ (fun s' jh=>?_)
    ·simp [KB]
    ·simp
    ·simp
    ·simp [-V,-y3,-y0,J,jh,od]
   ·have bg:out.isEmpty=false:=by simpa using oa
    rw [bg] at e11;simp [-V,-y3,-y0,J,e9,e10,e11,a11,m9,m10,e,k7,c,ja,q];refine EJ (out++[(x.elem,y.elem)]) (by simp; omega) _ ?_ ?_ ?_ _ (fun s' jh=>?_)
    ·simp [KB]
    ·simp
    ·simp
    ·simp [-V,-y3,-y0,J,jh,od]
  ·rw [if_neg (by omega),yN] at od;simp [-V,-y3,-y0,J,e9,e10,e11,m9,m10,e,k7,c];refine EJ out (by omega) _ ?_ ?_ ?_ _ (fun s' jh=>?_)
   ·simp [e11]
   ·simp
   ·simp
   ·simp [-V,-y3,-y0,J,jh,od]
 rw [if_neg (by omega),yN] at od;simp [-V,-y3,-y0,J,e9,e10,e11,m9,m10,e,k7,k8,k9];refine EJ out (by omega) _ ?_ ?_ ?_ _ (fun s' jh=>?_)
 ·simp [e11]
 ·simp
 ·simp
 ·simp [-V,-y3,-y0,J,jh,od]
def PO (n m:Nat) (p:Pr):Prop:=0<=p.1/\p.1<n/\0<=p.2/\p.2<m
structure x9 (w r:wI) (nx:Pr->List Pr) (rs:Pr->Int):Prop where
 suc:∀ p,PO w.types.length r.types.length p->fA 79 [.agg (UA w),.int .i64 p.1,.agg (UA r),.int .i64 p.2] (.sl (nx p).isEmpty ((nx p).map KB))
 rsuc:∀ p,PO w.types.length r.types.length p->fA 41 [.agg (UA w),.int .i64 p.1,.agg (UA r),.int .i64 p.2] (.sl (nx p).isEmpty ((nx p).map KB))
 rsn:∀ p,PO w.types.length r.types.length p->fA 77 [.agg (UA w),.int .i64 p.1,.agg (UA r),.int .i64 p.2] (.int .i64 (rs p))
 rrsn:∀ p,PO w.types.length r.types.length p->fA 78 [.agg (UA w),.int .i64 p.1,.agg (UA r),.int .i64 p.2] (.int .i64 (rs p))
 rng:∀ p,PO w.types.length r.types.length p->∀ q∈nx p,PO w.types.length r.types.length q
 len:∀ p,PO w.types.length r.types.length p->(nx p).length<=2000
 wl:w.types.length<=32
 rl:r.types.length<=32
abbrev uR:=Pr × List Pr × Int
def zM (path:List Pr) (i:Int) (out:List uR) (q:Pr):List uR:=if q∈out.map (·.1) then out else out++[(q,path++[q],i)]
def DF (nx:Pr->List Pr) (p:Pr):Nat->List uR
 | 0=>[(p,[p],-1)]
 | i + 1=>match (DF nx p i)[i]? with
  | some e=>(nx e.1).foldl (zM e.2.1 i) (DF nx p i)
  | none=>DF nx p i
def tH (l:List uR):List Pr:=l.map (·.1)
theorem addE_prs (path:List Pr) (i:Int) (out:List uR) (q:Pr):tH (zM path i out q)=pE (tH out) q:=by
 unfold zM pE tH;split <;> simp
theorem BJ (path:List Pr) (i:Int):∀ (l:List Pr) (out:List uR),tH (l.foldl (zM path i) out)=l.foldl pE (tH out)
 | [],_=>rfl
 | q :: r,out=>by rw [List.foldl_cons,List.foldl_cons,BJ path i r,addE_prs]
theorem Q9 {out:List Pr} (h:out.Nodup) (q:Pr):(pE out q).Nodup:=by
 unfold pE;split
 ·exact h
 ·rename_i hq;rw [List.nodup_append];refine ⟨h,by simp,?_⟩;rintro a ha b hb rfl;simp at hb;subst hb;exact hq ha
theorem KU:∀ (l out:List Pr),out.Nodup->(l.foldl pE out).Nodup
 | [],_,h=>h
 | q :: r,_,h=>KU r _ (Q9 h q)
theorem addP_mem {out:List Pr} {q x:Pr}:x∈pE out q ↔ x∈out\/x=q:=by
 unfold pE;split
 ·rename_i h;constructor
  ·exact .inl
  ·rintro (h' | rfl)
   ·exact h'
   ·exact h
 ·simp
theorem aN:∀ (l out:List Pr) {x:Pr},x∈l.foldl pE out ↔ x∈out\/x∈l
 | [],out,x=>by simp
 | q :: r,out,x=>by
  rw [List.foldl_cons,aN r,addP_mem];simp [or_assoc]
theorem QT (nx:Pr->List Pr) (p:Pr):∀ i,(tH (DF nx p i)).Nodup
 | 0=>by simp [DF,tH]
 | i + 1=>by
  rw [DF];split
  ·rw [BJ]; exact KU _ _ (QT nx p i)
  ·exact QT nx p i
theorem AM {n m:Nat} {nx:Pr->List Pr} {p:Pr} (hp:PO n m p) (hr:∀ p,PO n m p->∀ q∈nx p,PO n m q):∀ i,∀ x∈tH (DF nx p i),PO n m x
 | 0=>by simp [DF,tH]; exact hp
 | i + 1=>fun x hx=>by
  rw [DF] at hx;split at hx
  ·rename_i e he;rw [BJ,aN] at hx;have hi:e.1∈tH (DF nx p i):=Y01 (yk he);rcases hx with hx | hx
   ·exact AM hp hr i x hx
   ·exact hr _ (AM hp hr i _ hi) x hx
  ·exact AM hp hr i x hx
def allPr (n m:Nat):List Pr:=(List.range n).flatMap fun (a:Nat)=>(List.range m).map fun (b:Nat)=>((a:Int),(b:Int))
theorem T1 (m:Nat):∀ l:List Nat,(l.map fun _=>m).sum=l.length * m
 | []=>by simp
 | x :: r=>by
  simp only [yj,List.sum_cons,T1 m r,yE,yu];omega
theorem allPr_len (n m:Nat):(allPr n m).length=n * m:=by
 have h:=T1 m (List.range n);rw [List.length_range] at h;simp [allPr,List.length_flatMap,h]
theorem mem_allPr {n m:Nat} {p:Pr} (h:PO n m p):p∈allPr n m:=by
 obtain ⟨a,b⟩:=p;obtain ⟨h1,h2,h3,h4⟩:=h;simp only at h1 h2 h3 h4;unfold allPr;rw [List.mem_flatMap];refine ⟨a.toNat,by simp; omega,?_⟩;rw [yA];refine ⟨b.toNat,by simp; omega,?_⟩;rw [Int.toNat_of_nonneg h1,Int.toNat_of_nonneg h3]
theorem T0:∀ {l m:List Pr},l.Nodup->(∀ x∈l,x∈m)->l.length<=m.length
 | [],m,_,_=>Nat.zero_le _
 | x :: r,m,hn,hm=>by
  rw [List.nodup_cons] at hn;have hx:=hm x (by simp);have:=T0 (l:=r) (m:=m.erase x) hn.2 (fun y hy=>by
   have oa:y≠x:=fun e=>hn.1 (e ▸ hy)
   exact (List.mem_erase_of_ne oa).2 (hm y (by simp [hy])))
  rw [List.length_erase_of_mem hx] at this;have hp:0<m.length:=List.length_pos_of_mem hx;simp only [yE];omega
theorem B1 {n m:Nat} {nx:Pr->List Pr} {p:Pr} (hp:PO n m p) (hr:∀ p,PO n m p->∀ q∈nx p,PO n m q) (i:Nat):(DF nx p i).length<=n * m:=by
 have h1:=T0 (QT nx p i) (fun x hx=>mem_allPr (AM hp hr i x hx));rw [allPr_len] at h1;simpa [tH] using h1
theorem d4 (path:List Pr) (i:Int) (out:List uR) (q:Pr):∃ t,zM path i out q=out++t:=by
 unfold zM;split
 ·exact ⟨[],by simp⟩
 ·exact ⟨_,rfl⟩
theorem kZ (path:List Pr) (i:Int):∀ (l:List Pr) (out:List uR),∃ t,l.foldl (zM path i) out=out++t
 | [],out=>⟨[],by simp⟩
 | q :: r,out=>by
  obtain ⟨t,ht⟩:=d4 path i out q;obtain ⟨u,hu⟩:=kZ path i r (zM path i out q);exact ⟨t++u,by rw [List.foldl_cons,hu,ht,yY]⟩
theorem MV (nx:Pr->List Pr) (p:Pr) (i:Nat):∃ t,DF nx p (i + 1)=DF nx p i++t:=by
 rw [DF];split
 ·exact kZ _ _ _ _
 ·exact ⟨[],by simp⟩
theorem P6 (nx:Pr->List Pr) (p:Pr) {i:Nat}:∀ {j:Nat},i<=j->∃ t,DF nx p j=DF nx p i++t
 | 0,h=>by
  have:i=0:=by omega
  subst this;exact ⟨[],by simp⟩
 | j + 1,h=>by
  by_cases e:i=j + 1
  ·subst e; exact ⟨[],by simp⟩
  ·obtain ⟨t,ht⟩:=P6 nx p (i:=i) (j:=j) (by omega);obtain ⟨u,hu⟩:=MV nx p j;exact ⟨t++u,by rw [hu,ht,yY]⟩
theorem bfs_get (nx:Pr->List Pr) (p:Pr) {i j k:Nat} (h:i<=j) {e:uR} (he:(DF nx p i)[k]?=some e):(DF nx p j)[k]?=some e:=by
 obtain ⟨t,ht⟩:=P6 nx p h;rw [ht,yG (yb.1 he).1];exact he
theorem A6 {nx:Pr->List Pr} {p:Pr} {i:Nat} (h:(DF nx p i).length=i):∀ {j:Nat},i<=j->DF nx p j=DF nx p i
 | 0,hj=>by
  have:i=0:=by omega
  rw [this]
 | j + 1,hj=>by
  by_cases e:i=j + 1
  ·rw [e]
  ·have hb:=A6 h (j:=j) (by omega);rw [DF,hb,yP (by omega)]
def cM (nx:Pr->List Pr) (p:Pr):List uR:=DF nx p 1024
theorem bfsE_of {nx:Pr->List Pr} {p:Pr} {i:Nat} (h:(DF nx p i).length=i) (hi:i<=1024):cM nx p=DF nx p i:=A6 h hi
structure AR (nx:Pr->List Pr) (p:Pr) (l:List uR) (k:Nat) (e:uR):Prop where
 bef:(k=0/\e=(p,[p],-1))\/(∃ j:Nat,j<k/\e.2.2=j/\∃ e',l[j]?=some e'/\e.2.1=e'.2.1++[e.1]/\e.1∈nx e'.1)
theorem AR.more {nx:Pr->List Pr} {p:Pr} {l:List uR} {k:Nat} {e:uR} (h:AR nx p l k e) (t:List uR):AR nx p (l++t) k e:=by
 rcases h with ⟨h | ⟨j,h1,h2,e',h3,h4⟩⟩
 ·exact ⟨.inl h⟩
 ·exact ⟨.inr ⟨j,h1,h2,e',by rw [yG (yb.1 h3).1]; exact h3,h4⟩⟩
theorem z4 {nx:Pr->List Pr} {p:Pr} {i:Nat} {e0:uR}:∀ (l:List Pr) (out:List uR),(∀ q∈l,q∈nx e0.1)->out[i]?=some e0->(∀ k e,out[k]?=some e->AR nx p out k e)->∀ k e,(l.foldl (zM e0.2.1 i) out)[k]?=some e->AR nx p (l.foldl (zM e0.2.1 i) out) k e
 | [],_,_,_,h=>h
 | q :: r,out,hq,hi,h=>by
  rw [List.foldl_cons];have og:=(yb.1 hi).1;refine z4 r _ (fun x hx=>hq x (by simp [hx])) ?_ ?_
  ·obtain ⟨t,ht⟩:=d4 e0.2.1 i out q;rw [ht,yG og];exact hi
  ·intro k e he;unfold zM at he ⊢;split at he
   ·rename_i hc;rw [if_pos hc];exact h k e he
   ·rename_i hc;rw [if_neg hc];by_cases hk:k<out.length
    ·rw [yG hk] at he;exact (h k e he).more _
    ·have sf:k=out.length:=by
      have:=(yb.1 he).1;simp at this;omega
     subst sf;simp at he;subst he;exact ⟨.inr ⟨i,og,rfl,e0,by rw [yG og]; exact hi,rfl,hq q (by simp)⟩⟩
theorem T9 (nx:Pr->List Pr) (p:Pr):∀ i,∀ k e,(DF nx p i)[k]?=some e->AR nx p (DF nx p i) k e
 | 0=>fun k e he=>by
  simp [DF] at he ⊢;cases k with
  | zero=>simp at he; subst he; exact ⟨.inl ⟨rfl,rfl⟩⟩
  | succ k=>simp at he
 | i + 1=>by
  rw [DF];split
  ·rename_i e0 ld;exact z4 _ _ (fun q hq=>hq) ld (T9 nx p i)
  ·exact T9 nx p i
theorem R9 {nx:Pr->List Pr} {p:Pr} {i:Nat}:∀ k,k<i->∀ e,(DF nx p i)[k]?=some e->∀ q∈nx e.1,q∈tH (DF nx p i):=by
 induction i with
 | zero=>intro k hk; omega
 | succ i ih =>
  intro k hk e he q hq;have hpre:=MV nx p i;obtain ⟨t,ht⟩:=hpre;by_cases hki:k=i
  ·subst hki;cases hb:(DF nx p k)[k]? with
   | none =>
    have hE:DF nx p (k + 1)=DF nx p k:=by rw [DF,hb]
    rw [hE,hb] at he;cases he
   | some e0 =>
    have:=bfs_get nx p (Nat.le_succ k) hb;rw [this] at he;injection he with he;subst he;rw [DF,hb];simp only;rw [BJ,aN];exact .inr hq
  ·by_cases nj:k<(DF nx p i).length
   ·have wg:(DF nx p i)[k]?=some e:=by rw [ht,yG nj] at he; exact he
    have:=ih k (by omega) e wg q hq;rw [ht];unfold tH at this ⊢;rw [yU];exact List.mem_append_left _ this
   ·have jb:(DF nx p i).length=i\/(DF nx p i).length<i:=by omega
    have hE:DF nx p (i + 1)=DF nx p i:=by rw [DF,yP (by omega)]
    rw [hE,yP (by omega)] at he;cases he
section
variable {n m:Nat} {nx:Pr->List Pr} {p:Pr} (hp:PO n m p) (hr:∀ p,PO n m p->∀ q∈nx p,PO n m q) (hn:n<=32) (hm:m<=32)
include n m nx p hp hr hn hm
theorem QW:(cM nx p).length<=1024:=by
 have h1:=B1 hp hr 1024;have h2:n * m<=32 * 32:=Nat.mul_le_mul hn hm;unfold cM;omega
theorem XU {x:Pr} (hx:x∈tH (cM nx p)):∀ q∈nx x,q∈tH (cM nx p):=by
 obtain ⟨e,he,rfl⟩:=yA.1 hx;obtain ⟨k,hk,rfl⟩:=yB he;have hf:=QW hp hr hn hm;exact R9 k (by omega) _ (y4 hk)
end
theorem bfsE_root (nx:Pr->List Pr) (p:Pr):(cM nx p)[0]?=some (p,[p],-1):=bfs_get nx p (Nat.zero_le 1024) rfl
def AN (p:Pr):List AV:=[.agg (KB p),.bool true]
def IY (e:uR):List AV:=[.int .i64 e.2.2]
def BD (s:wI) (t:Int):List AV:=[.sl s.nl (s.types.map rA),.int .i64 t]
def eE (s:wI) (t:Int):List qA:=[⟨.sl s.nl (s.types.map rA),.no⟩,⟨.int .i64 t,.no⟩]
theorem B0 (p:Pr):∀ l:List Pr,TI (l.map AN) (.agg [.int .i64 p.1,.int .i64 p.2])=if p∈l then some (AV.bool true) else none
 | []=>rfl
 | x :: r=>by
  have:=B0 p r;simp only [yj,AN,KB,TI,AO,fR];by_cases h1:x.1=p.1
  ·by_cases h2:x.2=p.2
   ·have e:x=p:=Prod.ext h1 h2;simp [h1,h2,e]
   ·have e:¬ p=x:=fun h=>h2 (by rw [h])
    simp [h1,h2,e,this,AN]
  ·have e:¬ p=x:=fun h=>h1 (by rw [h])
   simp [h1,e,this,AN]
theorem N0 (p:Pr):∀ l:List Pr,¬ p∈l->TG (l.map AN) (.agg [.int .i64 p.1,.int .i64 p.2]) (.bool true)=(l++[p]).map AN
 | [],_=>rfl
 | x :: r,hn=>by
  have h:¬ p=x:=fun e=>hn (by simp [e])
  have:=N0 p r fun e=>hn (by simp [e])
  have h':¬ (x.1=p.1/\x.2=p.2):=fun ⟨a,b⟩=>h (Prod.ext a.symm b.symm)
  simp only [yj,AN,KB,TG,AO,fR,List.cons_append];by_cases h1:x.1=p.1
  ·have h2:¬ x.2=p.2:=fun b=>h' ⟨h1,b⟩
   simp [h1,h2,this,AN,KB]
  ·simp [h1,this,AN,KB]
theorem H8:∀ l:List Pr,cJ (.agg [some .i64,some .i64]) (l.map AN)=true
 | []=>rfl
 | x :: r=>by
  have:=H8 r;simp only [cJ] at this;simp [cJ,AN,KB,SG,uL,AV.flat,AV.scal]
theorem els_bef (l:List uR):gB 1 (l.map IY)=true:=tC _ _ _ fun _=>rfl
structure ReI (w r:wI) (t u:Int) (out:List uR) (s:pA):Prop where
 e2:(s.env 2).v=.ptr 2 1 0
 e3:(s.env 3).v=.ptr 3 1 0
 m2:s.mem 2 1=some (eE w t)
 m3:s.mem 3 1=some (eE r u)
 e6:(s.env 6).v=.sl false ((tH out).map KB)
 a6:(s.env 6).a=.ex\/(s.env 6).a=.own 59 63
 e7:(s.env 7).v=.sl false (out.map IY)
 a7:(s.env 7).a=.ex\/(s.env 7).a=.own 63 3
 e8:(s.env 8).v=.mp 19 3
 ob:s.obj 19 3=some (FG ((tH out).map AN))
theorem addE_in {path:List Pr} {i:Int} {out:List uR} {q:Pr} (h:q∈tH out):zM path i out q=out:=if_pos h
theorem addE_out {path:List Pr} {i:Int} {out:List uR} {q:Pr} (h:¬ q∈tH out):zM path i out q=out++[(q,path++[q],i)]:=if_neg h
theorem reach_in {rv:RV} (w r:wI) (t u:Int) (path:List Pr) (i:Nat) (hi:i<=1000000) (qs:List Pr) (hq:qs.length<=1000000) (qb:Bool) (out:List uR) (ho:out.length<=1000000) (s:pA) (h:ReI w r t u out s) (e9:(s.env 9).v=.int .i64 i) (e44:(s.env 44).v=.sl qb (qs.map KB)) (dy:(s.env 45).v=.int .i64 qs.length) (e46:(s.env 46).v=.int .i64 0) (k:Ex->pA->Option RV)
  (hk:∀ s',ReI w r t u (qs.foldl (zM path i) out) s'->(s'.env 9).v=.int .i64 i->k (.exit 2) s'=some rv):TH gA eA TD s k=some rv:=by
 refine lA qs.length (fun j s=>ReI w r t u ((qs.take j).foldl (zM path i) out) s/\(s.env 9).v=.int .i64 i/\(s.env 44).v=.sl qb (qs.map KB)/\(s.env 45).v=.int .i64 qs.length/\(s.env 46).v=.int .i64 j)
  (fun e s=>e=.exit 2/\ReI w r t u (qs.foldl (zM path i) out) s/\(s.env 9).v=.int .i64 i) (fun j hj s k h ih hk=>?_) _ _ ⟨h,e9,e44,dy,e46⟩ (fun e s h=>by obtain ⟨rfl,h1,h2⟩:=h; exact hk _ h1 h2)
 obtain ⟨⟨e2,e3,m2,m3,e6,a6,e7,a7,e8,ob⟩,e9,e44,dy,e46⟩:=h;refine tA ?_;by_cases fa:j<qs.length
 ·have ga:(j:Int)<qs.length:=by omega
  have g1:(qs.map KB)[j]?=some (KB qs[j]):=by simp [fa]
  have hw:=ZA (i:=j);have jb:(qs.take (j + 1)).foldl (zM path i) out=zM path i ((qs.take j).foldl (zM path i) out) qs[j]:=by rw [<- yI fa,List.foldl_append]; rfl
  have ia:((qs.take j).foldl (zM path i) out).length<=out.length + j:=by
   have h1:=sN (qs.take j) (tH out);rw [<- BJ path i] at h1;simp only [tH,yo,yz] at h1;omega
  rw [jb] at ih;generalize (qs.take j).foldl (zM path i) out=out' at *
  generalize qs[j]=q at *
  have se:=B0 q (tH out');have fq:=H8 (tH out');have q1:=NF (tH out');have q2:=els_bef out';have lf:(tH out').length=out'.length:=by simp [tH]
  have wn:uB 16 (out'.length + 1)=true:=by rw [TA]; omega
  have zn:uB 8 (out'.length + 1)=true:=by rw [TA]; omega
  simp only [KB] at g1;by_cases c:q∈tH out'
  ·rw [if_pos c] at se;rw [addE_in c] at ih;simp [TD,-V,-y3,-y0,J,e8,e44,dy,e46,ga,g1,ob,kG,fq,SG,uL,AV.flat,AV.scal,se,hw];refine ih fa _ ⟨⟨?_,?_,?_,?_,?_,?_,?_,?_,?_,?_⟩,?_,?_,?_,?_⟩
   ·simp [e2]
   ·simp [e3]
   ·simp [m2]
   ·simp [m3]
   ·simp [e6]
   ·simpa using a6
   ·simp [e7]
   ·simpa using a7
   ·simp [e8]
   ·simp [ob]
   ·simp [e9]
   ·simp [e44]
   ·simp [dy]
   ·simp
  ·rw [if_neg c] at se;rw [addE_out c] at ih;have hse:=N0 q (tH out') c;have hpr:tH (out'++[(q,path++[q],(i:Int))])=tH out'++[q]:=by simp [tH]
   rcases a6 with a6 | a6 <;> rcases a7 with a7 | a7
   all_goals
    simp [TD,-V,-y3,-y0,J,e6,a6,e7,a7,e8,e9,e44,dy,e46,ga,g1,ob,kG,fq,SG,uL,AV.flat,AV.scal,se,hse,hw,lf,wn,zn,q1,q2];refine ih fa _ ⟨⟨?_,?_,?_,?_,?_,.inr ?_,?_,.inr ?_,?_,?_⟩,?_,?_,?_,?_⟩
    ·simp [e2]
    ·simp [e3]
    ·simp [m2,eE]
    ·simp [m3,eE]
    ·simp [hpr,KB]
    ·simp
    ·simp [IY]
    ·simp
    ·simp [e8]
    ·simp [hpr]
    ·simp [e9]
    ·simp [e44]
    ·simp [dy]
    ·simp
 ·have ga:¬ (j:Int)<qs.length:=by omega
  rw [yD (by omega)] at e6 e7 ob;simp [TD,-V,-y3,-y0,J,dy,e46,ga];refine hk _ _ ⟨rfl,⟨?_,?_,?_,?_,?_,?_,?_,?_,?_,?_⟩,?_⟩
  ·simp [e2]
  ·simp [e3]
  ·simp [m2]
  ·simp [m3]
  ·simp [e6]
  ·simpa using a6
  ·simp [e7]
  ·simpa using a7
  ·simp [e8]
  ·simp [ob]
  ·simp [e9]
theorem reached_ev {w r:wI} {nx:Pr->List Pr} {rs:Pr->Int} (hF:x9 w r nx rs) {p:Pr} (hp:PO w.types.length r.types.length p):fA 81 [.agg (BD w p.1),.agg (BD r p.2)] (.tup [.sl false ((tH (cM nx p)).map KB),.sl false ((cM nx p).map IY)]):=by
 refine wA (c:=XF) rfl rfl ?_;have sb:∀ i,(DF nx p i).length<=1024:=fun i=>by
  have h1:=B1 hp hF.rng i;have h2:w.types.length * r.types.length<=32 * 32:=Nat.mul_le_mul hF.wl hF.rl;omega
 simp [XF,-V,-y3,-y0,J,BD,kG,cJ,SG,uL,AV.flat,AV.scal,TG];refine lA 1024 (fun i s=>ReI w r p.1 p.2 (DF nx p i) s/\(s.env 9).v=.int .i64 i/\i<=(DF nx p i).length)
  (fun e s=>e=.exit 0/\ReI w r p.1 p.2 (cM nx p) s) (fun i hi s k h ih hk=>?_) _ _ ?_ (fun e s h=>?_)
 ·obtain ⟨hI,e9,og⟩:=h;have hI':=hI;obtain ⟨e2,e3,m2,m3,e6,a6,e7,a7,e8,ob⟩:=hI;refine tA ?_;simp only [eE] at m2 m3;have dq:=sb i;have lf:(tH (DF nx p i)).length=(DF nx p i).length:=by simp [tH]
  by_cases fa:i<(DF nx p i).length
  ·have ga:(i:Int)<(DF nx p i).length:=by omega
   obtain ⟨e0,ld⟩:∃ e0,(DF nx p i)[i]?=some e0:=⟨_,y4 fa⟩;have g1:((tH (DF nx p i)).map KB)[i]?=some (KB e0.1):=by simp [tH,ld]
   have cq:=AM hp hF.rng i e0.1 (Y01 (yk ld));have lw:=hF.suc e0.1 cq;have hnl:=hF.len e0.1 cq;have hw:=ZA (i:=i);have jb:DF nx p (i + 1)=(nx e0.1).foldl (zM e0.2.1 i) (DF nx p i):=by rw [DF,ld]
   have gn:=sb (i + 1);have lz:i + 1<=(DF nx p (i + 1)).length:=by
    obtain ⟨t,ht⟩:=MV nx p i;rw [ht,yp];omega
   simp only [fA,UA,KB] at lw g1;generalize nx e0.1=qs at *
   simp [EG,-V,-y3,-y0,J,e2,e3,e6,e9,m2,m3,lf,ga,g1,lw];refine reach_in w r p.1 p.2 e0.2.1 i (by omega) qs (by omega) qs.isEmpty (DF nx p i) (by omega) _ ⟨?_,?_,?_,?_,?_,?_,?_,?_,?_,?_⟩ ?_ ?_ ?_ ?_ _ (fun s' h' e9'=>?_)
   ·simp [e2]
   ·simp [e3]
   ·simp [m2,eE]
   ·simp [m3,eE]
   ·simp [e6]
   ·simpa using a6
   ·simp [e7]
   ·simpa using a7
   ·simp [e8]
   ·simp [ob]
   ·simp [e9]
   ·simp
   ·simp
   ·simp
   ·rw [<- jb] at h';obtain ⟨e2,e3,m2,m3,e6,a6,e7,a7,e8,ob⟩:=h';simp [-V,-y3,-y0,J,e9',hw];refine ih (by omega) _ ⟨⟨?_,?_,?_,?_,?_,?_,?_,?_,?_,?_⟩,?_,lz⟩
    ·simp [e2]
    ·simp [e3]
    ·simp [m2]
    ·simp [m3]
    ·simp [e6]
    ·simpa using a6
    ·simp [e7]
    ·simpa using a7
    ·simp [e8]
    ·simp [ob]
    ·simp
  ·have ga:¬ (i:Int)<(DF nx p i).length:=by omega
   rw [<- bfsE_of (nx:=nx) (p:=p) (i:=i) (by omega) hi] at hI';simp [EG,-V,-y3,-y0,J,e6,e9,lf,ga];obtain ⟨e2,e3,m2,m3,e6,a6,e7,a7,e8,ob⟩:=hI';refine hk _ _ ⟨rfl,⟨?_,?_,?_,?_,?_,?_,?_,?_,?_,?_⟩⟩
   ·simp [e2]
   ·simp [e3]
   ·simp [m2]
   ·simp [m3]
   ·simp [e6]
   ·simpa using a6
   ·simp [e7]
   ·simpa using a7
   ·simp [e8]
   ·simp [ob]
 ·refine ⟨⟨?_,?_,?_,?_,?_,.inl ?_,?_,.inl ?_,?_,?_⟩,?_,?_⟩ <;> simp [eE,DF,tH,KB,IY,AN]
 ·obtain ⟨rfl,hI⟩:=h;obtain ⟨e2,e3,m2,m3,e6,a6,e7,a7,e8,ob⟩:=hI;simp [-V,-y3,-y0,J,e6,e7]
structure RrI (w r:wI) (out:List Pr) (s:pA):Prop where
 e4:(s.env 4).v=.ptr 4 1 0
 e6:(s.env 6).v=.ptr 6 1 0
 m4:s.mem 4 1=some [⟨.sl w.nl (w.types.map rA),.no⟩]
 m6:s.mem 6 1=some [⟨.sl r.nl (r.types.map rA),.no⟩]
 e9:(s.env 9).v=.sl false (out.map KB)
 a9:(s.env 9).a=.ex\/(s.env 9).a=.own 55 63
theorem rreach_in {rv:RV} (w r:wI) (i:Nat) (qs:List Pr) (hq:qs.length<=1000000) (qb:Bool) (out:List Pr) (ho:out.length<=1000000) (s:pA) (h:RrI w r out s) (e10:(s.env 10).v=.int .i64 i) (e11:(s.env 11).v=.sl qb (qs.map KB)) (e12:(s.env 12).v=.int .i64 0) (k:Ex->pA->Option RV)
  (hk:∀ s',RrI w r (qs.foldl pE out) s'->(s'.env 10).v=.int .i64 i->k (.exit 2) s'=some rv):TH gA eA TE s k=some rv:=by
 refine lA qs.length (fun j s=>RrI w r ((qs.take j).foldl pE out) s/\(s.env 10).v=.int .i64 i/\(s.env 11).v=.sl qb (qs.map KB)/\(s.env 12).v=.int .i64 j)
  (fun e s=>e=.exit 2/\RrI w r (qs.foldl pE out) s/\(s.env 10).v=.int .i64 i) (fun j hj s k h ih hk=>?_) _ _ ⟨h,e10,e11,e12⟩ (fun e s h=>by obtain ⟨rfl,h1,h2⟩:=h; exact hk _ h1 h2)
 obtain ⟨⟨e4,e6,m4,m6,e9,a9⟩,e10,e11,e12⟩:=h;refine tA ?_;by_cases fa:j<qs.length
 ·have ga:(j:Int)<qs.length:=by omega
  have g1:(qs.map KB)[j]?=some (KB qs[j]):=by simp [fa]
  have hw:=ZA (i:=j);have jb:(qs.take (j + 1)).foldl pE out=pE ((qs.take j).foldl pE out) qs[j]:=by rw [<- yI fa,List.foldl_append]; rfl
  have ia:((qs.take j).foldl pE out).length<=out.length + j:=by
   have h1:=sN (qs.take j) out;simp only [yz] at h1;omega
  rw [jb] at ih;generalize (qs.take j).foldl pE out=out' at *
  generalize qs[j]=q at *
  have fe:=rin_ev out' (by omega) false q;have q1:=NF out';have wn:uB 16 (out'.length + 1)=true:=by rw [TA]; omega
  simp only [fA,KB] at g1 fe;by_cases c:q∈out'
  ·rw [decide_eq_true c] at fe;rw [show pE out' q=out' from if_pos c] at ih;simp [TE,-V,-y3,-y0,J,e9,e11,e12,ga,g1,fe,hw];refine ih fa _ ⟨⟨?_,?_,?_,?_,?_,?_⟩,?_,?_,?_⟩
   ·simp [e4]
   ·simp [e6]
   ·simp [m4]
   ·simp [m6]
   ·simp [e9]
   ·simpa using a9
   ·simp [e10]
   ·simp [e11]
   ·simp
  ·rw [decide_eq_false c] at fe;rw [show pE out' q=out'++[q] from if_neg c] at ih;rcases a9 with a9 | a9
   all_goals
    simp [TE,-V,-y3,-y0,J,e9,a9,e11,e12,ga,g1,fe,hw,wn,q1];refine ih fa _ ⟨⟨?_,?_,?_,?_,?_,.inr ?_⟩,?_,?_,?_⟩
    ·simp [e4]
    ·simp [e6]
    ·simp [m4]
    ·simp [m6]
    ·simp [KB]
    ·simp
    ·simp [e10]
    ·simp [e11]
    ·simp
 ·have ga:¬ (j:Int)<qs.length:=by omega
  rw [yD (by omega)] at e9;simp [TE,-V,-y3,-y0,J,e11,e12,ga];refine hk _ _ ⟨rfl,⟨?_,?_,?_,?_,?_,?_⟩,?_⟩
  ·simp [e4]
  ·simp [e6]
  ·simp [m4]
  ·simp [m6]
  ·simp [e9]
  ·simpa using a9
  ·simp [e10]
theorem P8 {w r:wI} {nx:Pr->List Pr} {rs:Pr->Int} (hF:x9 w r nx rs) {p:Pr} (hp:PO w.types.length r.types.length p):fA 85 [.agg (UA w),.int .i64 p.1,.agg (UA r),.int .i64 p.2] (.sl false ((tH (cM nx p)).map KB)):=by
 refine wA (c:=dI) rfl rfl ?_;have sb:∀ i,(DF nx p i).length<=1024:=fun i=>by
  have h1:=B1 hp hF.rng i;have h2:w.types.length * r.types.length<=32 * 32:=Nat.mul_le_mul hF.wl hF.rl;omega
 simp [dI,-V,-y3,-y0,J,UA];refine lA 1024 (fun i s=>RrI w r (tH (DF nx p i)) s/\(s.env 10).v=.int .i64 i/\i<=(DF nx p i).length)
  (fun e s=>e=.exit 0/\(s.env 9).v=.sl false ((tH (cM nx p)).map KB)) (fun i hi s k h ih hk=>?_) _ _ ?_ (fun e s h=>?_)
 ·obtain ⟨⟨e4,e6,m4,m6,e9,a9⟩,e10,og⟩:=h;refine tA ?_;have dq:=sb i;have lf:(tH (DF nx p i)).length=(DF nx p i).length:=by simp [tH]
  by_cases fa:i<(DF nx p i).length
  ·have ga:(i:Int)<(DF nx p i).length:=by omega
   obtain ⟨e0,ld⟩:∃ e0,(DF nx p i)[i]?=some e0:=⟨_,y4 fa⟩;have g1:((tH (DF nx p i)).map KB)[i]?=some (KB e0.1):=by simp [tH,ld]
   have cq:=AM hp hF.rng i e0.1 (Y01 (yk ld));have lw:=hF.rsuc e0.1 cq;have hnl:=hF.len e0.1 cq;have hw:=ZA (i:=i);have jb:tH (DF nx p (i + 1))=(nx e0.1).foldl pE (tH (DF nx p i)):=by rw [DF,ld]; exact BJ _ _ _ _
   have gn:=sb (i + 1);have lz:i + 1<=(DF nx p (i + 1)).length:=by
    obtain ⟨t,ht⟩:=MV nx p i;rw [ht,yp];omega
   simp only [fA,UA,KB] at lw g1;generalize nx e0.1=qs at *
   simp [EI,-V,-y3,-y0,J,e4,e6,e9,e10,m4,m6,lf,ga,g1,lw];refine rreach_in w r i qs (by omega) qs.isEmpty (tH (DF nx p i)) (by omega) _ ⟨?_,?_,?_,?_,?_,?_⟩ ?_ ?_ ?_ _ (fun s' h' e10'=>?_)
   ·simp [e4]
   ·simp [e6]
   ·simp [m4]
   ·simp [m6]
   ·simp [e9]
   ·simpa using a9
   ·simp [e10]
   ·simp
   ·simp
   ·rw [<- jb] at h';obtain ⟨e4,e6,m4,m6,e9,a9⟩:=h';simp [-V,-y3,-y0,J,e10',hw];refine ih (by omega) _ ⟨⟨?_,?_,?_,?_,?_,?_⟩,?_,lz⟩
    ·simp [e4]
    ·simp [e6]
    ·simp [m4]
    ·simp [m6]
    ·simp [e9]
    ·simpa using a9
    ·simp
  ·have ga:¬ (i:Int)<(DF nx p i).length:=by omega
   rw [<- bfsE_of (nx:=nx) (p:=p) (i:=i) (by omega) hi] at e9 ga lf;simp [EI,-V,-y3,-y0,J,e9,e10,lf,ga];exact hk _ _ ⟨rfl,by simp [e9]⟩
 ·refine ⟨⟨?_,?_,?_,?_,?_,.inl ?_⟩,?_,?_⟩ <;> simp [DF,tH,KB]
 ·obtain ⟨rfl,e9⟩:=h;simp [-V,-y3,-y0,J,e9]
def uM (nx:Pr->List Pr) (rs:Pr->Int) (p:Pr):Bool:=(tH (cM nx p)).all fun q=>decide (rs q=0)
theorem fine_ev {w r:wI} {nx:Pr->List Pr} {rs:Pr->Int} (hF:x9 w r nx rs) {p:Pr} (hp:PO w.types.length r.types.length p):fA 80 [.agg (UA w),.int .i64 p.1,.agg (UA r),.int .i64 p.2] (.bool (uM nx rs p)):=by
 have jg:=P8 hF hp;refine wA (c:=bL) rfl rfl ?_;have ia:(tH (cM nx p)).length<=1024:=by
  have:=QW hp hF.rng hF.wl hF.rl;simpa [tH] using this
 have cq:∀ q∈tH (cM nx p),PO w.types.length r.types.length q:=AM hp hF.rng 1024;unfold uM;generalize tH (cM nx p)=l at *
 simp only [fA,UA] at jg;simp [bL,-V,-y3,-y0,J,UA,jg];refine lA l.length (fun i s=>(s.env 4).v=.ptr 4 1 0/\(s.env 6).v=.ptr 6 1 0/\s.mem 4 1=some [⟨.sl w.nl (w.types.map rA),.no⟩]/\s.mem 6 1=some [⟨.sl r.nl (r.types.map rA),.no⟩]/\(s.env 9).v=.sl false (l.map KB)/\(s.env 10).v=.int .i64 i/\(l.take i).all (fun q=>decide (rs q=0))=true)
  (fun e s=>(e=.exit 0/\l.all (fun q=>decide (rs q=0))=true)\/(e=.ret/\(s.env 8).v=.bool false/\l.all (fun q=>decide (rs q=0))=false)) (fun i hi s k h ih hk=>?_) _ _ ?_ (fun e s h=>?_)
 ·obtain ⟨e4,e6,m4,m6,e9,e10,ne⟩:=h;refine tA ?_;by_cases fa:i<l.length
  ·have ga:(i:Int)<l.length:=by omega
   have g1:(l.map KB)[i]?=some (KB l[i]):=by simp [fa]
   have hw:=ZA (i:=i);have rh:=dN (fun q=>decide (rs q=0)) l fa;have nc:=cW (fun q=>decide (rs q=0)) l fa;have jw:=hF.rrsn l[i] (cq _ (y6 fa));generalize l[i]=q at *
   simp only [fA,UA,KB] at jw g1;by_cases c:rs q=0
   ·rw [c] at jw;simp [fI,-V,-y3,-y0,J,e4,e6,m4,m6,e9,e10,ga,g1,jw,hw];refine ih fa _ ⟨?_,?_,?_,?_,?_,?_,by rw [rh,ne,decide_eq_true c]; rfl⟩ <;> simp [e4,e6,m4,m6,e9]
   ·simp [fI,-V,-y3,-y0,J,e4,e6,m4,m6,e9,e10,ga,g1,jw,c,hw];exact hk _ _ (.inr ⟨rfl,by simp,nc (by simp [c])⟩)
  ·have ga:¬ (i:Int)<l.length:=by omega
   simp [fI,-V,-y3,-y0,J,e9,e10,ga];rw [yD (by omega)] at ne;exact hk _ _ (.inl ⟨rfl,ne⟩)
 ·refine ⟨?_,?_,?_,?_,?_,?_,?_⟩ <;> simp
 ·rcases h with ⟨rfl,hf⟩ | ⟨rfl,e8,hf⟩
  ·simp [-V,-y3,-y0,J,hf]
  ·simp [-V,-y3,-y0,J,e8,hf]
def MS (e:Int) (n:Nat) (i:Int):Int:=if e=0 then (if i<0\/(n:Int)<=i then 4 else 0) else e
def MM (e f:Int) (n m:Nat) (i k:Int):Int:=if MS e n i=0 then MS f m k else MS e n i
def HR (s:wI) (e:Int):Prop:=fA 95 [.agg (UA s)] (.int .i64 e)/\fA 97 [.agg (UA s)] (.int .i64 e)
theorem sone_ev {s:wI} {e:Int} (h:HR s e) (i:Int):fA 128 [.agg (UA s),.int .i64 i] (.int .i64 (MS e s.types.length i)):=by
 have h1:=h.1;refine wA (c:=DD) rfl rfl ?_;simp only [fA,UA] at h1 ⊢;unfold MS;by_cases h0:e=0
 case neg=>simp [DD,-V,-y3,-y0,J,h1,h0]
 subst h0;by_cases c1:i<0
 ·simp [DD,-V,-y3,-y0,J,h1,c1]
 ·by_cases c2:(s.types.length:Int)<=i
  ·simp [DD,-V,-y3,-y0,J,h1,c1,c2]
  ·simp [DD,-V,-y3,-y0,J,h1,c1,c2]
theorem rone_ev {s:wI} {e:Int} (h:HR s e) (i:Int):fA 101 [.agg (UA s),.int .i64 i] (.int .i64 (MS e s.types.length i)):=by
 have h1:=h.2;refine wA (c:=XG) rfl rfl ?_;simp only [fA,UA] at h1 ⊢;unfold MS;by_cases h0:e=0
 case neg=>simp [XG,-V,-y3,-y0,J,h1,h0]
 subst h0;by_cases c1:i<0
 ·simp [XG,-V,-y3,-y0,J,h1,c1]
 ·by_cases c2:(s.types.length:Int)<=i
  ·simp [XG,-V,-y3,-y0,J,h1,c1,c2]
  ·simp [XG,-V,-y3,-y0,J,h1,c1,c2]
theorem both_ev {w r:wI} {e f:Int} (hw:HR w e) (hr:HR r f) (i k:Int):fA 76 [.agg (BD w i),.agg (BD r k)] (.int .i64 (MM e f w.types.length r.types.length i k)):=by
 have h1:=sone_ev hw i;have h2:=sone_ev hr k;refine wA (c:=aG) rfl rfl ?_;simp only [fA,UA] at h1 h2;unfold MM;by_cases c:MS e w.types.length i=0
 ·rw [c] at h1;simp [aG,-V,-y3,-y0,J,BD,h1,h2,c]
 ·simp [aG,-V,-y3,-y0,J,BD,h1,h2,c]
theorem rerr_ev {w r:wI} {e f:Int} (hw:HR w e) (hr:HR r f) (i k:Int):fA 43 [.agg (BD w i),.agg (BD r k)] (.int .i64 (MM e f w.types.length r.types.length i k)):=by
 have h1:=rone_ev hw i;have h2:=rone_ev hr k;refine wA (c:=HH) rfl rfl ?_;simp only [fA,UA] at h1 h2;unfold MM;by_cases c:MS e w.types.length i=0
 ·rw [c] at h1;simp [HH,-V,-y3,-y0,J,BD,h1,h2,c]
 ·simp [HH,-V,-y3,-y0,J,BD,h1,h2,c]
theorem botE_in {e f:Int} {n m:Nat} {i k:Int} (h:MM e f n m i k=0):e=0/\f=0/\PO n m (i,k):=by
 unfold MM MS at h;unfold PO;simp only;by_cases he:e=0
 ·by_cases hf:f=0
  ·subst he; subst hf;simp only [if_true] at h;by_cases c1:i<0\/(n:Int)<=i
   ·rw [if_pos c1] at h; simp at h
   ·by_cases c2:k<0\/(m:Int)<=k
    ·rw [if_neg c1,if_pos c2] at h; simp at h
    ·exact ⟨rfl,rfl,by omega⟩
  ·subst he;simp only [if_true,if_neg hf] at h;by_cases c1:i<0\/(n:Int)<=i
   ·rw [if_pos c1] at h; simp at h
   ·rw [if_neg c1] at h; simp at h; exact absurd h hf
 ·simp only [if_neg he] at h;exact absurd h he
theorem rcompat_ev {w r:wI} {e f i k:Int} (hw:HR w e) (hr:HR r f) {nx:Pr->List Pr} {rs:Pr->Int} (hF:MM e f w.types.length r.types.length i k=0->x9 w r nx rs):fA 29 [.agg (BD w i),.agg (BD r k)] (.tup [.bool (decide (MM e f w.types.length r.types.length i k=0)&&uM nx rs (i,k)),.int .i64 (MM e f w.types.length r.types.length i k)]):=by
 have h1:=rerr_ev hw hr i k;refine wA (c:=RE) rfl rfl ?_;simp only [fA,BD] at h1;by_cases c:MM e f w.types.length r.types.length i k=0
 ·have h2:=fine_ev (hF c) (p:=(i,k)) (botE_in c).2.2;simp only [fA,UA] at h2;rw [c] at h1;simp [RE,-V,-y3,-y0,J,BD,h1,h2,c]
 ·simp [RE,-V,-y3,-y0,J,BD,h1,c]
theorem fS (l:List Pr):nD (l.map KB)=true:=KK KB l fun p=>by simp [KB,AV.free0]
theorem rev_ext {l cur:List Pr} {i:Nat} (hl:cur.length=l.length) (h:∀ x,x<l.length->cur[x]?=if x<i\/l.length - i<=x then l[l.length - 1 - x]? else l[x]?) (hi:l.length<=2 * i + 1) (mh:2 * i<=l.length):cur=l.reverse:=by
 refine List.ext_getElem? fun x=>?_
 by_cases hx:x<l.length
 ·rw [h x hx,List.getElem?_reverse hx];split
  ·rfl
  ·rename_i hc;have:x=l.length - 1 - x:=by omega
   rw [<- this]
 ·rw [yP (by omega),yP (by simp; omega)]
theorem reverse_ev {r:RV} (l:List Pr) (hl:l.length<=1000000) {t n c:Nat} {a:An} (s0:pA) (hm:s0.mem t n=some (sA (l.map KB))) (k:qA->pA->Option RV)
  (hk:∀ y s',s'.mem t n=some (sA (l.reverse.map KB))->(∀ t' n',¬ (t'=t/\n'=n)->s'.mem t' n'=s0.mem t' n')->s'.gh=s0.gh->k y s'=some r) :
  i7 gA eA 86 [⟨.ref t n 2 0 l.length c,a⟩] s0 k=some r:=by
 refine zH wE rfl rfl ?_;have hw0:IntKind.i64.wrap ((l.length:Int) - 1)=(l.length:Int) - 1:=IntWalk.i64_in _ (by omega);simp [wE,-V,-y3,-y0,J,hw0];refine lA l.length (fun i s=>(s.env 0).v=.ref t n 2 0 l.length c/\(s.env 2).v=.int .i64 i/\(s.env 3).v=.int .i64 ((l.length:Int) - 1 - i)/\2 * i<=l.length/\(∀ t' n',¬ (t'=t/\n'=n)->s.mem t' n'=s0.mem t' n')/\s.gh=s0.gh/\∃ cur:List Pr,cur.length=l.length/\(∀ x,x<l.length->cur[x]?=if x<i\/l.length - i<=x then l[l.length - 1 - x]? else l[x]?)/\s.mem t n=some (sA (cur.map KB)))
  (fun e s=>e=.exit 0/\(∀ t' n',¬ (t'=t/\n'=n)->s.mem t' n'=s0.mem t' n')/\s.gh=s0.gh/\s.mem t n=some (sA (l.reverse.map KB))) (fun i hi s k h ih hk=>?_) _ _ ?_ (fun e s h=>?_)
 ·obtain ⟨e0,e2,e3,h2,ax,hg,cur,ad,hcx,hm⟩:=h;refine tA ?_;obtain ⟨z,hz⟩:∃ z:Int,z=(l.length:Int) - 1 - i:=⟨_,rfl⟩;rw [<- hz] at e3;by_cases fa:(i:Int)<z
  ·have hj:z.toNat=l.length - 1 - i:=by omega
   have ec:0<=z:=by omega
   have xj:z.toNat<cur.length:=by omega
   have hzl':z<(l.length:Int):=by omega
   have og:i<cur.length:=by omega
   have hzt:z.toNat<l.length:=by omega
   have dk:i<l.length:=by omega
   have hil':(i:Int)<(l.length:Int):=by omega
   obtain ⟨p,hp⟩:∃ p,cur[i]?=some p:=⟨_,y4 og⟩;obtain ⟨q,hq⟩:∃ q,cur[z.toNat]?=some q:=⟨_,y4 xj⟩;have jk:IntKind.i64.wrap (z - 1)=(l.length:Int) - 1 - ((i + 1:Nat):Int):=by rw [IntWalk.i64_in _ (by omega)]; omega
   have dh:=ZA (i:=i);have l1:wB true 2 (i * 2) (sA (cur.map KB))=some ⟨.agg [.int .i64 p.1,.int .i64 p.2],.no⟩:=cO (NF cur) (by rw [yc,hp]; rfl);have l2:wB true 2 (z.toNat * 2) (sA (cur.map KB))=some ⟨.agg [.int .i64 q.1,.int .i64 q.2],.no⟩:=cO (NF cur) (by rw [yc,hq]; rfl);have s1:mA true 2 (i * 2) (sA (cur.map KB)) (.agg [.int .i64 q.1,.int .i64 q.2]) .no=some (sA ((cur.set i q).map KB)):=by
    rw [IP (NF cur) (by simpa using og) rfl,List.map_set]; rfl
   have s2:mA true 2 (z.toNat * 2) (sA ((cur.set i q).map KB)) (.agg [.int .i64 p.1,.int .i64 p.2]) .no=some (sA (((cur.set i q).set z.toNat p).map KB)):=by
    rw [IP (NF _) (by simpa using xj) rfl]; simp only [List.map_set]; rfl
   have ae:∀ x,x<l.length->((cur.set i q).set z.toNat p)[x]?=if x<i + 1\/l.length - (i + 1)<=x then l[l.length - 1 - x]? else l[x]?:=fun x hx=>by
    rw [List.getElem?_set];by_cases c1:z.toNat=x
    ·rw [if_pos c1,if_pos (by simp; omega),if_pos (.inr (by omega)),<- hp,hcx i (by omega),if_neg (by omega),show l.length - 1 - x=i from by omega]
    ·rw [if_neg c1,List.getElem?_set];by_cases c2:i=x
     ·rw [if_pos c2,if_pos og,if_pos (.inl (by omega)),<- hq,hcx _ (by omega),if_neg (by omega),show l.length - 1 - x=z.toNat from by omega]
     ·rw [if_neg c2,hcx x hx];by_cases c3:x<i\/l.length - i<=x
      ·rw [if_pos c3,if_pos (by omega)]
      ·rw [if_neg c3,if_neg (by omega)]
   generalize sA (cur.map KB)=R0 at *
   have hcl2:((cur.set i q).set z.toNat p).length=l.length:=by simp [ad]
   generalize sA ((cur.set i q).map KB)=R1 at *
   generalize (cur.set i q).set z.toNat p=cur2 at *
   simp [IE,-V,-y3,-y0,J,-wB,-mA,iB,kB,HA,JA,e0,e2,e3,fa,ec,hzl',hil',hzt,dk,hm,l1,l2,s1,s2,jk,dh];refine ih (by omega) _ ⟨?_,?_,?_,by omega,?_,?_,cur2,hcl2,ae,?_⟩
   ·simp [e0]
   ·simp
   ·simp
   ·intro t' n' oa;simp [oa];exact ax t' n' oa
   ·exact hg
   ·simp
  ·simp [IE,-V,-y3,-y0,J,e2,e3,fa];refine hk _ _ ⟨rfl,ax,hg,?_⟩;rw [<- rev_ext ad hcx (by omega) h2];exact hm
 ·refine ⟨?_,?_,?_,by omega,fun _ _ _=>rfl,rfl,l,rfl,?_,hm⟩
  ·simp
  ·simp
  ·simp
  ·intro x hx;rw [if_neg (by omega)]
 ·obtain ⟨rfl,h1,h2,h3⟩:=h;simp [-V,-y3,-y0,J,rL,zO,aL];exact hk _ _ h3 h1 h2
def blm (nx:Pr->List Pr) (rs:Pr->Int) (p:Pr):Option uR:=(cM nx p).find? fun e=>!decide (rs e.1=0)
def blmA (rs:Pr->Int):Option uR->AV
 | some e=>.tup [.sl false (e.2.1.map KB),.int .i64 (rs e.1),.int .i64 0]
 | none=>.tup [.sl true [],.int .i64 0,.int .i64 15]
theorem find_at {α:Type} (p:α->Bool):∀ {l:List α} {i:Nat} {x:α},l[i]?=some x->p x=true->(l.take i).any p=false->l.find? p=some x
 | [],i,x,h,_,_=>by simp at h
 | a :: r,0,x,h,hp,_=>by
  simp at h;subst h;simp [List.find?,hp]
 | a :: r,i + 1,x,h,hp,hn=>by
  simp only [List.take_succ_cons,List.any_cons,Bool.or_eq_false_iff] at hn;rw [List.find?_cons,hn.1];exact find_at p (by simpa using h) hp hn.2
theorem find_no {α:Type} (p:α->Bool) {l:List α} (h:l.any p=false):l.find? p=none:=by
 rw [List.find?_eq_none];intro x hx hp;rw [List.any_eq_false] at h;exact h x hx hp
theorem way_len {nx:Pr->List Pr} {p:Pr} {E:List uR} (hE:∀ k e,E[k]?=some e->AR nx p E k e):∀ k e,E[k]?=some e->e.2.1.length<=k + 1:=by
 intro k
 induction k using Nat.strongRecOn with
 | ind k ih =>
  intro e he;rcases (hE k e he).bef with ⟨_,rfl⟩ | ⟨j,h1,_,e',h3,h4,_⟩
  ·simp
  ·have:=ih j h1 e' h3;rw [h4];simp;omega
def pathA (P:List Pr) (x:qA) (s:pA):Prop:=(P=[]/\x.v=.sl true [])\/∃ N,P≠[]/\x.v=.ref 56 N 2 0 P.length P.length/\s.mem 56 N=some (sA (P.map KB))
theorem walk_lp {rv:RV} {nx:Pr->List Pr} {p:Pr} (E:List uR) (hE:∀ k e,E[k]?=some e->AR nx p E k e) (hl:E.length<=1024) {j0:Nat} {e0:uR} (h0:E[j0]?=some e0) (n12:Int) (s:pA)
  (h8:(s.env 8).v=.sl false ((tH E).map KB)) (h9:(s.env 9).v=.sl false (E.map IY)) (br:(s.env 10).v=.int .i64 j0) (jm:(s.env 12).v=.int .i64 n12) (h13:(s.env 13).v=.sl true []) (k:Ex->pA->Option RV)
  (hk:∀ s',(s'.env 12).v=.int .i64 n12->pathA e0.2.1.reverse (s'.env 13) s'->k (.exit 2) s'=some rv):TH gA eA fE s k=some rv:=by
 have hj0:j0<E.length:=(yb.1 h0).1;refine lA (j0 + 1) (fun i s=>(s.env 8).v=.sl false ((tH E).map KB)/\(s.env 9).v=.sl false (E.map IY)/\(s.env 12).v=.int .i64 n12/\∃ (z:Int) (P:List Pr),(s.env 10).v=.int .i64 z/\P.length<=i/\pathA P (s.env 13) s/\((z=-1/\P=e0.2.1.reverse)\/∃ (j:Nat) (e:uR),z=(j:Int)/\j + i<=j0/\E[j]?=some e/\P++e.2.1.reverse=e0.2.1.reverse))
  (fun e s=>e=.exit 2/\(s.env 12).v=.int .i64 n12/\pathA e0.2.1.reverse (s.env 13) s) (fun i hi s k h ih hk=>?_) _ _ ⟨h8,h9,jm,_,[],br,yn _,.inl ⟨rfl,h13⟩,.inr ⟨j0,e0,rfl,by omega,h0,rfl⟩⟩ (fun e s h=>by obtain ⟨rfl,h1,h2⟩:=h; exact hk _ h1 h2)
 obtain ⟨e8,e9,e12,z,P,e10,hPl,hP,hz⟩:=h;refine tA ?_;rcases hz with ⟨rfl,rfl⟩ | ⟨j,e,rfl,hji,hj,hw⟩
 ·simp [fE,-V,-y3,-y0,J,e10];refine hk _ _ ⟨rfl,by simp [e12],?_⟩;rcases hP with ⟨h1,h2⟩ | ⟨N,h1,h2,h3⟩
  ·exact .inl ⟨h1,by simp [h2]⟩
  ·exact .inr ⟨N,h1,by simp [h2],by simp [h3]⟩
 ·have nh:=(yb.1 hj).1;have g1:((tH E).map KB)[j]?=some [.int .i64 e.1.1,.int .i64 e.1.2]:=by simp [tH,hj,KB]
  have g2:(E.map IY)[j]?=some [.int .i64 e.2.2]:=by simp [hj,IY]
  have q:=NF P;have qf:=fS P;have ja:uB 16 (P.length + 1)=true:=by rw [TA]; omega
  have jg:sD (sA (P.map KB)) 2 0 P.length=some (P.map KB):=by
   have:=nG q qf;simpa using this
  have dj:(e.2.2=-1/\P++[e.1]=e0.2.1.reverse)\/∃ j' e',e.2.2=((j':Nat):Int)/\j' + (i + 1)<=j0/\E[j']?=some e'/\(P++[e.1])++e'.2.1.reverse=e0.2.1.reverse:=by
   rcases (hE j e hj).bef with ⟨_,rfl⟩ | ⟨j',h1,h2,e',h3,h4,_⟩
   ·exact .inl ⟨rfl,hw⟩
   ·refine .inr ⟨j',e',h2,by omega,h3,?_⟩;rw [h4,List.reverse_append] at hw;simpa using hw
  rcases hP with ⟨rfl,h13⟩ | ⟨N,oa,h13,hm⟩
  ·simp [fE,-V,-y3,-y0,J,e8,e9,e10,h13,g1,g2,aY];refine ih (by omega) _ ⟨?_,?_,?_,e.2.2,[e.1],?_,?_,.inr ⟨s.next + 1,by simp,?_,?_⟩,dj⟩
   ·simp [e8]
   ·simp [e9]
   ·simp [e12]
   ·simp
   ·simp
   ·simp
   ·simp [sA,KB]
  ·have ka:∀ b,sA (P.map KB++[[AV.int .i64 e.1.1,AV.int .i64 e.1.2]])=sA ((P++[e.1]).map KB)\/b:=fun b=>.inl (by simp [KB])
   generalize hR:sA (P.map KB)=R0 at *
   simp [fE,-V,-y3,-y0,J,e8,e9,e10,h13,g1,g2,ja,hm,jg,Cl.okMem];refine ih (by omega) _ ⟨?_,?_,?_,e.2.2,P++[e.1],?_,?_,.inr ⟨s.next + 1,by simp,?_,?_⟩,dj⟩
   ·simp [e8]
   ·simp [e9]
   ·simp [e12]
   ·simp
   ·simp; omega
   ·simp
   ·simp [KB]
theorem sblame_ev {w r:wI} {e f i k:Int} (hw:HR w e) (hr:HR r f) {nx:Pr->List Pr} {rs:Pr->Int} (hF:MM e f w.types.length r.types.length i k=0->x9 w r nx rs):fA 32 [.agg (BD w i),.agg (BD r k)] (if MM e f w.types.length r.types.length i k=0 then blmA rs (blm nx rs (i,k)) else .tup [.sl true [],.int .i64 0,.int .i64 (MM e f w.types.length r.types.length i k)]):=by
 have h1:=both_ev hw hr i k;refine wA (c:=RF) rfl rfl ?_;simp only [fA,BD] at h1;by_cases c:MM e f w.types.length r.types.length i k=0
 case neg =>
  rw [if_neg c];simp [RF,-V,-y3,-y0,J,BD,h1,c]
 rw [if_pos c];have hF:=hF c;obtain ⟨he,hf,hp⟩:=botE_in c;have h2:=reached_ev hF hp;have hfull:=QW hp hF.rng hF.wl hF.rl;have cq:∀ q∈tH (cM nx (i,k)),PO w.types.length r.types.length q:=AM hp hF.rng 1024;have la:=T9 nx (i,k) 1024;rw [c] at h1;unfold blm;change ∀ k_1 e,(cM nx (i,k))[k_1]?=some e->AR nx (i,k) (cM nx (i,k)) k_1 e at la;generalize cM nx (i,k)=E at *
 have lf:(tH E).length=E.length:=by simp [tH]
 simp only [fA,BD] at h2;simp [RF,-V,-y3,-y0,J,BD,h1,h2,lf];refine lA E.length (fun j s=>(s.env 2).v=.ptr 2 1 0/\(s.env 3).v=.ptr 3 1 0/\s.mem 2 1=some (eE w i)/\s.mem 3 1=some (eE r k)/\(s.env 8).v=.sl false ((tH E).map KB)/\(s.env 9).v=.sl false (E.map IY)/\(s.env 26).v=.sl false ((tH E).map KB)/\(s.env 27).v=.int .i64 E.length/\(s.env 28).v=.int .i64 j/\(E.take j).any (fun e=>!decide (rs e.1=0))=false)
  (fun e s=>(e=.exit 0/\E.find? (fun e=>!decide (rs e.1=0))=none)\/(e=.ret/\∃ (e0:uR) (N:Nat),E.find? (fun e=>!decide (rs e.1=0))=some e0/\(s.env 4).v=.ref 56 N 2 0 e0.2.1.reverse.length e0.2.1.reverse.length/\s.mem 56 N=some (sA (e0.2.1.map KB))/\(s.env 5).v=.int .i64 (rs e0.1)/\(s.env 6).v=.int .i64 0)) (fun j hj s k' h ih hk=>?_) _ _ ?_ (fun e s h=>?_)
 ·obtain ⟨e2,e3,m2,m3,e8,e9,ww,dr,ar,ne⟩:=h;refine tA ?_;simp only [eE] at m2 m3;by_cases fa:j<E.length
  ·have ga:(j:Int)<E.length:=by omega
   obtain ⟨e0,ld⟩:∃ e0,E[j]?=some e0:=⟨_,y4 fa⟩;have g1:((tH E).map KB)[j]?=some [.int .i64 e0.1.1,.int .i64 e0.1.2]:=by simp [tH,ld,KB]
   have jw:=hF.rsn e0.1 (cq _ (Y01 (yk ld)));have rx:=ZA (i:=j);simp only [fA,UA] at jw;by_cases c0:rs e0.1=0
   ·rw [c0] at jw;simp [zF,-V,-y3,-y0,J,e2,e3,m2,m3,ww,dr,ar,ga,g1,jw,rx];refine ih fa _ ⟨?_,?_,?_,?_,?_,?_,?_,?_,?_,?_⟩
    ·simp [e2]
    ·simp [e3]
    ·simp [m2,eE]
    ·simp [m3,eE]
    ·simp [e8]
    ·simp [e9]
    ·simp [ww]
    ·simp [dr]
    ·simp
    ·rw [mT _ E fa,ne];obtain ⟨_,hh⟩:=yb.1 ld;rw [hh];simp [c0]
   ·have hfd:=find_at (fun e:uR=>!decide (rs e.1=0)) ld (by simp [c0]) ne;simp [zF,-V,-y3,-y0,J,e2,e3,m2,m3,e8,ww,dr,ar,ga,g1,jw,c0,rx];refine walk_lp E la hfull ld (rs e0.1) _ ?_ ?_ ?_ ?_ ?_ _ (fun s' f12 f13=>?_)
    ·simp [e8]
    ·simp [e9]
    ·simp
    ·simp
    ·simp
    ·have oa:e0.2.1.reverse≠[]:=by
      rcases (la j e0 ld).bef with ⟨_,rfl⟩ | ⟨_,_,_,e',_,h4,_⟩
      ·simp
      ·rw [h4]; simp
     rcases f13 with ⟨h,_⟩ | ⟨N,_,f13,fm⟩
     ·exact absurd h oa
     have pg:e0.2.1.reverse.length<=1000000:=by
      have:=way_len la j e0 ld;simp;omega
     simp [-V,-y3,-y0,J,f13];have hlr:e0.2.1.length=e0.2.1.reverse.length:=by simp
     rw [hlr];refine reverse_ev e0.2.1.reverse pg _ ?_ _ (fun y s2 uf _ hg2=>?_)
     ·simp [fm]
     ·have g12:(s2.gh 12).v=.int .i64 (rs e0.1):=by rw [hg2]; simp [f12]
      have g13:(s2.gh 13).v=.ref 56 N 2 0 e0.2.1.reverse.length e0.2.1.reverse.length:=by rw [hg2]; simp [f13]
      rw [List.reverse_reverse] at uf;simp [-V,-y3,-y0,J,g12,g13];refine hk _ _ (.inr ⟨rfl,e0,N,hfd,?_,?_,?_,?_⟩)
      ·simp
      ·simp [uf]
      ·simp
      ·simp
  ·have ga:¬ (j:Int)<E.length:=by omega
   simp [zF,-V,-y3,-y0,J,dr,ar,ga];rw [yD (by omega)] at ne;exact hk _ _ (.inl ⟨rfl,find_no _ ne⟩)
 ·refine ⟨?_,?_,?_,?_,?_,?_,?_,?_,?_,?_⟩ <;> simp [eE]
 ·rcases h with ⟨rfl,hn⟩ | ⟨rfl,e0,N,hs,e4,hm,e5,e6⟩
  ·rw [hn];simp [-V,-y3,-y0,J,blmA]
  ·have jg:sD (sA (e0.2.1.map KB)) 2 0 e0.2.1.length=some (e0.2.1.map KB):=by
    have:=nG (NF e0.2.1) (fS e0.2.1);simpa using this
   simp at e4;rw [hs];simp [-V,-y3,-y0,J,blmA,e4,e5,e6,hm,jg]

theorem S6 (nx:Pr->List Pr) (rs:Pr->Int) (p:Pr):(blm nx rs p=none ↔ uM nx rs p=true):=by
 unfold blm uM tH;rw [List.find?_eq_none,List.all_map,y5];constructor
 ·intro h x hx;have:=h x hx;simpa using this
 ·intro h x hx;have:=h x hx;simpa using this
theorem scompat_ev {w r:wI} {e f i k:Int} (hw:HR w e) (hr:HR r f) {nx:Pr->List Pr} {rs:Pr->Int} (hF:MM e f w.types.length r.types.length i k=0->x9 w r nx rs) (jh:MM e f w.types.length r.types.length i k≠15):fA 21 [.agg (BD w i),.agg (BD r k)] (.tup [.bool (decide (MM e f w.types.length r.types.length i k=0)&&uM nx rs (i,k)),.int .i64 (MM e f w.types.length r.types.length i k)]):=by
 have h1:=sblame_ev hw hr hF;refine wA (c:=JC) rfl rfl ?_;simp only [fA,BD] at h1;by_cases c:MM e f w.types.length r.types.length i k=0
 ·rw [if_pos c] at h1;cases hb:blm nx rs (i,k) with
  | none =>
   have hf:=(S6 nx rs (i,k)).1 hb;rw [hb] at h1;simp only [blmA] at h1;simp [JC,-V,-y3,-y0,J,BD,h1,c,hf]
  | some e0 =>
   have hf:uM nx rs (i,k)=false:=by
    cases hq:uM nx rs (i,k) with
    | false=>rfl
    | true=>rw [(S6 nx rs (i,k)).2 hq] at hb; cases hb
   rw [hb] at h1;simp only [blmA] at h1;simp [JC,-V,-y3,-y0,J,BD,h1,c,hf]
 ·rw [if_neg c] at h1;simp [JC,-V,-y3,-y0,J,BD,h1,c,jh]
theorem ZR {P:Pr->Prop} {nx:Pr->List Pr} {p:Pr} (hp:P p) (hr:∀ p,P p->∀ q∈nx p,P q):∀ i,∀ x∈tH (DF nx p i),P x
 | 0=>by simp [DF,tH]; exact hp
 | i + 1=>fun x hx=>by
  rw [DF] at hx;split at hx
  ·rename_i e he;rw [BJ,aN] at hx;have hi:e.1∈tH (DF nx p i):=Y01 (yk he);rcases hx with hx | hx
   ·exact ZR hp hr i x hx
   ·exact hr _ (ZR hp hr i _ hi) x hx
  ·exact ZR hp hr i x hx
theorem fine_suc {n m:Nat} {nx:Pr->List Pr} {rs:Pr->Int} {p:Pr} (hp:PO n m p) (hr:∀ p,PO n m p->∀ q∈nx p,PO n m q) (hn:n<=32) (hm:m<=32) (h:uM nx rs p=true) {q:Pr} (hq:q∈nx p):uM nx rs q=true:=by
 unfold uM at h ⊢;rw [y5] at h ⊢;have hroot:p∈tH (cM nx p):=Y01 (yk (bfsE_root nx p));have ta:=ZR (P:=fun x=>x∈tH (cM nx p)) (p:=q) (XU hp hr hn hm hroot q hq) (fun x hx y hy=>XU hp hr hn hm hx y hy) 1024;exact fun x hx=>h x (ta x hx)
def setT (g:Nat->Nat->Bool) (i k:Nat):Nat->Nat->Bool:=fun a b=>if a=i/\b=k then false else g a b
structure TabG (nx:Pr->List Pr) (rs:Pr->Int) (N M:Nat) (g:Nat->Nat->Bool):Prop where
 sub:∀ i k,i<N->k<M->g i k=true->rs ((i:Int),(k:Int))=0
 sup:∀ i k,i<N->k<M->uM nx rs ((i:Int),(k:Int))=true->g i k=true
def outOf (g:Nat->Nat->Bool) (q:Pr):Bool:=!g q.1.toNat q.2.toNat
theorem inP_nat {N M i k:Nat} (hi:i<N) (hk:k<M):PO N M ((i:Int),(k:Int)):=⟨by simp,by simp; omega,by simp,by simp; omega⟩
section
variable {nx:Pr->List Pr} {rs:Pr->Int} {N M:Nat} {g:Nat->Nat->Bool} (h:TabG nx rs N M g) (hr:∀ p,PO N M p->∀ q∈nx p,PO N M q)
include nx rs N M g h hr
theorem TabG.set (hn:N<=32) (hm:M<=32) {i k:Nat} (hi:i<N) (hk:k<M) (hq:(nx ((i:Int),(k:Int))).any (outOf g)=true):TabG nx rs N M (setT g i k):=by
 refine ⟨fun a b ha hb hg=>?_,fun a b ha hb hf=>?_⟩
 ·unfold setT at hg;split at hg
  ·cases hg
  ·exact h.sub a b ha hb hg
 ·unfold setT;split
  ·rename_i e;obtain ⟨rfl,rfl⟩:=e;obtain ⟨q,hq,ho⟩:=List.any_eq_true.1 hq;have hp:=inP_nat ha hb;have fe:=hr _ hp q hq;obtain ⟨h1,h2,h3,h4⟩:=fe;have:=h.sup q.1.toNat q.2.toNat (by omega) (by omega) (by
    rw [Int.toNat_of_nonneg h1,Int.toNat_of_nonneg h3];exact fine_suc hp hr hn hm hf hq)
   simp [outOf,this] at ho
  ·exact h.sup a b ha hb hf
theorem TabG.eq (hc:∀ i k,i<N->k<M->g i k=true->(nx ((i:Int),(k:Int))).any (outOf g)=false) {i k:Nat} (hi:i<N) (hk:k<M):g i k=uM nx rs ((i:Int),(k:Int)):=by
 cases hg:g i k with
 | false =>
  cases hf:uM nx rs ((i:Int),(k:Int)) with
  | false=>rfl
  | true=>rw [h.sup i k hi hk hf] at hg; cases hg
 | true =>
  symm
  unfold uM;rw [y5];have ta:=ZR (P:=fun x=>PO N M x/\g x.1.toNat x.2.toNat=true) (nx:=nx) (p:=((i:Int),(k:Int))) ⟨inP_nat hi hk,by simpa using hg⟩ (fun x hx y hy=>by
   obtain ⟨h0,h1⟩:=hx;have ku:=hr x h0 y hy;refine ⟨ku,?_⟩;obtain ⟨a1,a2,a3,a4⟩:=h0;have:=hc x.1.toNat x.2.toNat (by omega) (by omega) h1;rw [Int.toNat_of_nonneg a1,Int.toNat_of_nonneg a3,List.any_eq_false] at this;simpa [outOf] using this y hy) 1024
  intro x hx;obtain ⟨⟨a1,a2,a3,a4⟩,h1⟩:=ta x hx;have:=h.sub x.1.toNat x.2.toNat (by omega) (by omega) h1;rw [Int.toNat_of_nonneg a1,Int.toNat_of_nonneg a3] at this;exact decide_eq_true this
end
theorem botE_zero {n m:Nat} {i k:Int} (hi:0<=i/\i<n) (hk:0<=k/\k<m):MM 0 0 n m i k=0:=by
 have h1:MS 0 n i=0:=by unfold MS; simp; omega
 have h2:MS 0 m k=0:=by unfold MS; simp; omega
 unfold MM;rw [if_pos h1,h2]
end Go.Proofs.YtbnlmgncbgaepaaGreat
