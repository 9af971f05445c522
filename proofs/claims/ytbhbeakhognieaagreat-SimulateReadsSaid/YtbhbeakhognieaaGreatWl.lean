/- A part of the proof. -/
import Derived.Test.YtbhbeakhognieaaGreatWg
set_option linter.all false
set_option maxRecDepth 100000
set_option maxHeartbeats 8000000
open Option renaming bind_some → J
open List renaming range_succ → y0, map_map → y3, getElem?_eq_getElem → y5, all_eq_true → y6, getElem_mem → y8, getElem?_eq_some_iff → y9, drop_eq_getElem_cons → yb, getElem?_map → yc, map_cons → yf, mem_of_getElem? → yh, drop_eq_nil_of_le → yk, map_nil → ym, mem_map → yp, getElem_of_mem → yq, length_map → yu, map_congr_left → yw, length_append → yz, take_of_length_le → yB, length_cons → yF, getElem?_append_left → yG, map_append → yH, take_append_getElem → yJ, length_take → yL, cons_append → yR, mem_append_left → yS, getElem?_eq_none → yY, mem_map_of_mem → Y00
open Int renaming toNat_lt → y4
open Nat renaming le_refl → yj, succ_mul → yy
namespace Go.Proofs.YtbhbeakhognieaaGreat
open Go
def pA.sm (t:pA):Prop:=t.kind=2->-100<=t.low/\t.low<=t.high/\t.high<=100
def nX (x:pA):Int:=if x.kind=1 then 2 else if x.kind=2 then x.high - x.low + 1 else if x.kind=4 then x.syms.length else if x.kind=3/\x.max=0 then 1 else 2147483647
def IV (x:pA):Int:=if x.kind=1 then 2 else if x.kind=2 then min 100 (x.high - x.low + 1) else if x.kind=4 then x.syms.length else if x.max=0 then 1 else 100
theorem keys_ev (x:pA) (hx:x.sm):gA 104 [.agg (eA x)] (.int .i64 (nX x)):=by
 refine rA (c:=pD) rfl rfl ?_;unfold nX;by_cases k1:x.kind=1
 ·simp [pD,-J,-y4,-y3,y0,eA,k1]
 by_cases k2:x.kind=2
 ·obtain ⟨h1,h2,h3⟩:=hx k2;have w1:IntKind.u64.wrap (IntKind.u64.wrap x.high - IntKind.u64.wrap x.low)=x.high - x.low:=by
   simp only [IntKind.wrap,IntKind.bits,IntKind.signed];simp;omega
  have c:x.high - x.low<2147483647:=by omega
  have w2:IntKind.i64.wrap (x.high - x.low)=x.high - x.low:=IntWalk.i64_in _ (by omega);have w3:IntKind.i64.wrap (x.high - x.low + 1)=x.high - x.low + 1:=IntWalk.i64_in _ (by omega);simp [pD,-J,-y4,-y3,y0,eA,k1,k2,w1,c,w2,w3]
 by_cases k4:x.kind=4
 ·simp [pD,-J,-y4,-y3,y0,eA,k1,k2,k4]
 by_cases k3:x.kind=3
 ·by_cases hm:x.max=0
  ·simp [pD,-J,-y4,-y3,y0,eA,k1,k2,k3,k4,hm]
  ·simp [pD,-J,-y4,-y3,y0,eA,k1,k2,k3,k4,hm]
 ·simp [pD,-J,-y4,-y3,y0,eA,k1,k2,k3,k4]
theorem keys_min (x:pA) (hk:1<=x.kind/\x.kind<=4) (hx:x.sm) {m n:Int} (hm:m<=50):(n<min m (nX x) ↔ n<min m (IV x)):=by
 unfold nX IV;by_cases k1:x.kind=1
 ·rw [if_pos k1,if_pos k1]
 rw [if_neg k1,if_neg k1];by_cases k2:x.kind=2
 ·rw [if_pos k2,if_pos k2];omega
 rw [if_neg k2,if_neg k2];by_cases k4:x.kind=4
 ·rw [if_pos k4,if_pos k4]
 rw [if_neg k4,if_neg k4];by_cases h0:x.max=0
 ·rw [if_pos ⟨by omega,h0⟩,if_pos h0]
 ·rw [if_neg (fun h=>h0 h.2),if_neg h0];omega
def aR (x y:pA):Bool:=x.syms.all (fun s=>decide (0<=ZF y.syms s.id))&&x.mems.all (fun m=>decide (0<=QA y.mems m.id))
theorem O0 {α:Type} (p:α->Bool) (l:List α) {i:Nat} (h:i<l.length):(l.take (i + 1)).all p=((l.take i).all p&&p l[i]):=by
 rw [<- yJ h,List.all_append];simp
theorem all_no {α:Type} (p:α->Bool) (l:List α) {i:Nat} (h:i<l.length) (hp:p l[i]=false):l.all p=false:=by
 rw [List.all_eq_false];exact ⟨_,y8 h,by simp [hp]⟩
theorem I9 (x y:pA) (ed:x.syms.length<=8796093022206) (mo:x.mems.length<=8796093022206) (bz:y.syms.length<=8796093022206) (az:y.mems.length<=8796093022206):gA 105 [.agg (eA x),.agg (eA y)] (.bool (y.opn||aR x y)):=by
 refine rA (c:=JE) rfl rfl ?_;cases ho:y.opn with
 | true=>simp [JE,-J,-y4,-y3,y0,eA,ho]
 | false =>
 have hp1:∀ l:List nQ,l.all (fun s=>decide (0<=ZF y.syms s.id))=false->aR x y=false\/l≠x.syms:=fun l h=>by
  by_cases e:l=x.syms
  ·left; unfold aR; rw [<- e,h]; rfl
  ·exact .inr e
 simp [JE,-J,-y4,-y3,y0,eA,ho];refine RA x.syms.length (fun i s=>(s.env 2).v=.ptr 2 1 0/\(s.env 3).v=.ptr 3 1 0/\s.mem 2 1=some (sA x)/\s.mem 3 1=some (sA y)/\(s.env 16).v=.sl x.sn (x.syms.map WD)/\(s.env 17).v=.int .i64 x.syms.length/\(s.env 18).v=.int .i64 i/\(x.syms.take i).all (fun s=>decide (0<=ZF y.syms s.id))=true)
  (fun e s=>(e=.exit 0/\(s.env 2).v=.ptr 2 1 0/\(s.env 3).v=.ptr 3 1 0/\s.mem 2 1=some (sA x)/\s.mem 3 1=some (sA y)/\x.syms.all (fun s=>decide (0<=ZF y.syms s.id))=true)\/(e=.ret/\(s.env 4).v=.bool false/\aR x y=false)) (fun i hi s k h ih hk=>?_) _ _ ?_ (fun e s h=>?_)
 ·obtain ⟨e2,e3,m2,m3,af,ld,xj,ul⟩:=h;refine iA ?_;by_cases fa:i<x.syms.length
  ·have ga:(i:Int)<x.syms.length:=by omega
   have g1:(x.syms.map WD)[i]?=some (WD x.syms[i]):=by simp [fa]
   have zg:=WB (i:=i);have ad:=sym_ev y x.syms[i].id (by omega);have jv:=O0 (fun s=>decide (0<=ZF y.syms s.id)) x.syms fa;have nb:=all_no (fun s=>decide (0<=ZF y.syms s.id)) x.syms fa;generalize x.syms[i]=q at *
   simp only [WD] at g1;simp only [sA] at m2 m3;simp only [gA,eA,qZ,ho] at ad;by_cases c:0<=ZF y.syms q.id
   ·simp only [c,decide_true] at ad jv;simp [BE,-J,-y4,-y3,y0,e2,e3,m3,af,ld,xj,ga,g1,ad,zg,ho];refine ih fa _ ⟨?_,?_,?_,?_,?_,?_,?_,by rw [jv,ul]; rfl⟩ <;> simp [e2,e3,m2,m3,af,ld,sA,ho]
   ·simp only [c,decide_false] at ad nb;simp [BE,-J,-y4,-y3,y0,e2,e3,m3,af,ld,xj,ga,g1,ad,zg,ho];refine hk _ _ (.inr ⟨rfl,by simp,?_⟩);unfold aR;rw [nb trivial];rfl
  ·have ga:¬ (i:Int)<x.syms.length:=by omega
   simp [BE,-J,-y4,-y3,y0,ld,xj,ga];refine hk _ _ (.inl ⟨rfl,by simp [e2],by simp [e3],by simp [m2],by simp [m3],?_⟩);rw [yB (by omega)] at ul;exact ul
 ·refine ⟨?_,?_,?_,?_,?_,?_,?_,?_⟩ <;> simp [sA,ho]
 rcases h with ⟨rfl,e2,e3,m2,m3,ul⟩ | ⟨rfl,e4,hf⟩
 case inr=>simp [-J,-y4,-y3,y0,e4,hf]
 simp only [sA] at m2;simp [-J,-y4,-y3,y0,e2,m2];refine RA x.mems.length (fun i s=>(s.env 3).v=.ptr 3 1 0/\s.mem 3 1=some (sA y)/\(s.env 33).v=.sl x.mn (x.mems.map nA)/\(s.env 34).v=.int .i64 x.mems.length/\(s.env 35).v=.int .i64 i/\(x.mems.take i).all (fun s=>decide (0<=QA y.mems s.id))=true)
  (fun e s=>(e=.exit 2/\aR x y=true)\/(e=.ret/\(s.env 4).v=.bool false/\aR x y=false)) (fun i hi s k h ih hk=>?_) _ _ ?_ (fun e s h=>?_)
 ·obtain ⟨e3,m3,e33,e34,fy,iT⟩:=h;refine iA ?_;by_cases fa:i<x.mems.length
  ·have ga:(i:Int)<x.mems.length:=by omega
   have g1:(x.mems.map nA)[i]?=some (nA x.mems[i]):=by simp [fa]
   have zg:=WB (i:=i);have ad:=AX y x.mems[i].id (by omega);have jv:=O0 (fun s=>decide (0<=QA y.mems s.id)) x.mems fa;have nb:=all_no (fun s=>decide (0<=QA y.mems s.id)) x.mems fa;generalize x.mems[i]=q at *
   simp only [nA] at g1;simp only [sA] at m3;simp only [gA,eA,BO,ho] at ad;by_cases c:0<=QA y.mems q.id
   ·simp only [c,decide_true] at ad jv;simp [CE,-J,-y4,-y3,y0,e3,m3,e33,e34,fy,ga,g1,ad,zg,ho];refine ih fa _ ⟨?_,?_,?_,?_,?_,by rw [jv,iT]; rfl⟩ <;> simp [e3,m3,e33,e34,sA,ho]
   ·simp only [c,decide_false] at ad nb;simp [CE,-J,-y4,-y3,y0,e3,m3,e33,e34,fy,ga,g1,ad,zg,ho];refine hk _ _ (.inr ⟨rfl,by simp,?_⟩);unfold aR;rw [nb trivial,Bool.and_false]
  ·have ga:¬ (i:Int)<x.mems.length:=by omega
   simp [CE,-J,-y4,-y3,y0,e34,fy,ga];refine hk _ _ (.inl ⟨rfl,?_⟩);rw [yB (by omega)] at iT;unfold aR;rw [ul,iT];rfl
 ·refine ⟨?_,?_,?_,?_,?_,?_⟩ <;> simp [e3,m3,sA,ho]
 ·rcases h with ⟨rfl,hf⟩ | ⟨rfl,e4,hf⟩
  ·simp [-J,-y4,-y3,y0,hf]
  ·simp [-J,-y4,-y3,y0,e4,hf]
def ZP (mns:zB->zB->Bool) (xs:List zB):List zB->Int
 | []=>0
 | g :: r=>if 0<=QA xs g.id then (match xs[(QA xs g.id).toNat]? with
   | some f=>if f.has=true then (if g.has=true then (if mns f g=true then ZP mns xs r else 10) else 7) else ZP mns xs r
   | none=>ZP mns xs r) else if g.has=true then ZP mns xs r else 7
def crP (ys:List zB) (f:zB):Bool:=f.crit&&!decide (0<=QA ys f.id)
def PV (mns:zB->zB->Bool) (xs ys:List zB):Int:=if ZP mns xs ys=0 then (if xs.any (crP ys)=true then 6 else 0) else ZP mns xs ys
def t9 (w r:FI) (mns:zB->zB->Bool) (xs ys:List zB):Prop:=∀ f∈xs,∀ g∈ys,f.has=true->g.has=true →
 (∃ (u:Vl) (e:Int),gA 135 [.agg (GA w),.int .i64 f.ty,.agg (fA f.dflt),.agg (GA r),.int .i64 g.ty] (.tup [.agg (fA u),.int .i64 e])/\(e=0->gA 136 [.agg (fA u),.agg (fA g.dflt)] (.bool (mns f g)))/\(e≠0->mns f g=false))
theorem D0 {α:Type} (p:α->Bool) (l:List α) {i:Nat} (h:i<l.length):(l.take (i + 1)).any p=((l.take i).any p||p l[i]):=by
 rw [<- yJ h,List.any_append];simp
theorem any_yes {α:Type} (p:α->Bool) (l:List α) {i:Nat} (h:i<l.length) (hp:p l[i]=true):l.any p=true:=List.any_eq_true.2 ⟨_,y8 h,hp⟩
theorem OX {l:List zB} {id:Int} (h:0<=QA l id):∃ f,l[(QA l id).toNat]?=some f/\f∈l:=by
 obtain ⟨f,h1,_⟩:=EI (fun x:zB=>decide (x.id=id)) l (by unfold QA at h; omega);exact ⟨f,h1,yh h1⟩
theorem D8 (w r:FI) (x y:pA) (mo:x.mems.length<=8796093022206) (az:y.mems.length<=8796093022206) {mns:zB->zB->Bool} (hR:t9 w r mns x.mems y.mems):gA 106 [.agg (GA w),.agg (eA x),.agg (GA r),.agg (eA y)] (.int .i64 (PV mns x.mems y.mems)):=by
 refine rA (c:=eG) rfl rfl ?_;simp only [GA];simp [eG,-J,-y4,-y3,y0,eA];refine RA y.mems.length (fun i s=>(s.env 4).v=.ptr 4 1 0/\(s.env 5).v=.ptr 5 1 0/\(s.env 6).v=.ptr 6 1 0/\(s.env 7).v=.ptr 7 1 0/\s.mem 4 1=some [⟨.sl w.nl (w.types.map eA),.no⟩]/\s.mem 5 1=some (sA x)/\s.mem 6 1=some [⟨.sl r.nl (r.types.map eA),.no⟩]/\s.mem 7 1=some (sA y)/\(s.env 21).v=.sl y.mn (y.mems.map nA)/\(s.env 22).v=.int .i64 y.mems.length/\(s.env 23).v=.int .i64 i/\ZP mns x.mems (y.mems.drop i)=ZP mns x.mems y.mems)
  (fun e s=>(e=.exit 0/\(s.env 5).v=.ptr 5 1 0/\(s.env 7).v=.ptr 7 1 0/\s.mem 5 1=some (sA x)/\s.mem 7 1=some (sA y)/\ZP mns x.mems y.mems=0)\/(e=.ret/\(s.env 8).v=.int .i64 (PV mns x.mems y.mems))) (fun i hi s k h ih hk=>?_) _ _ ?_ (fun e s h=>?_)
 ·obtain ⟨e4,e5,e6,e7,m4,m5,m6,m7,uv,ft,zx,td⟩:=h;refine iA ?_;by_cases fa:i<y.mems.length
  ·have ga:(i:Int)<y.mems.length:=by omega
   have g1:(y.mems.map nA)[i]?=some (nA y.mems[i]):=by simp [fa]
   have zg:=WB (i:=i);have hgm:=y8 fa;rw [yb fa,ZP] at td;generalize y.mems[i]=g at *
   have ad:=AX x g.id (by omega);simp only [nA] at g1;simp only [sA] at m5 m7;simp only [gA,eA,BO] at ad;have done:∀ (E:Nat->wA) (M:Nat->Nat->Option (List wA)) (nx:Nat) (z:Int),(E 8).v=.int .i64 z->ZP mns x.mems y.mems=z->z≠0->k .ret ⟨E,M,nx,s.obj,s.gh⟩=some (.int .i64 (PV mns x.mems y.mems),none):=fun E M nx z h1 h2 h3=>hk _ _ (.inr ⟨rfl,by unfold PV; rw [if_neg (by omega),h2]; exact h1⟩)
   by_cases c:0<=QA x.mems g.id
   ·obtain ⟨f,hf,hfm⟩:=OX c;rw [if_pos c,hf] at td;simp only at td;simp only [c,decide_true] at ad;have gf:(x.mems.map nA)[(QA x.mems g.id).toNat]?=some (nA f):=by rw [yc,hf]; rfl
    have nh:max (QA x.mems g.id) 0=QA x.mems g.id:=by omega
    generalize QA x.mems g.id=ix at *
    rw [nh] at ad;simp only [nA] at gf;by_cases zt:f.has=true
    ·rw [if_pos zt] at td;by_cases im:g.has=true
     ·rw [if_pos im] at td;obtain ⟨u,e,ff,hq0,hq1⟩:=hR f hfm g hgm zt im;simp only [gA,GA,qA] at ff hq0;by_cases he:e=0
      ·have hq:=hq0 he;subst he;by_cases hm:mns f g=true
       ·rw [if_pos hm] at td;rw [hm] at hq;simp [PB,-J,-y4,-y3,y0,e4,e5,e6,e7,m4,m5,m6,m7,uv,ft,zx,ga,g1,ad,gf,c,zt,im,ff,hq,zg];refine ih fa _ ⟨?_,?_,?_,?_,?_,?_,?_,?_,?_,?_,?_,td⟩ <;> simp [e4,e5,e6,e7,m4,m5,m6,m7,uv,ft,sA]
       ·have tc:mns f g=false:=by simpa using hm
        rw [if_neg hm] at td;rw [tc] at hq;simp [PB,-J,-y4,-y3,y0,e4,e5,e6,e7,m4,m5,m6,m7,uv,ft,zx,ga,g1,ad,gf,c,zt,im,ff,hq,zg];exact done _ _ _ 10 (by simp) td.symm (by omega)
      ·have tc:=hq1 he;rw [if_neg (by simp [tc])] at td;simp [PB,-J,-y4,-y3,y0,e4,e5,e6,e7,m4,m5,m6,m7,uv,ft,zx,ga,g1,ad,gf,c,zt,im,ff,he,zg];exact done _ _ _ 10 (by simp) td.symm (by omega)
     ·have hgh':g.has=false:=by simpa using im
      rw [if_neg im] at td;simp [PB,-J,-y4,-y3,y0,e4,e5,e6,e7,m4,m5,m6,m7,uv,ft,zx,ga,g1,ad,gf,c,zt,hgh',zg];exact done _ _ _ 7 (by simp) td.symm (by omega)
    ·have hfh':f.has=false:=by simpa using zt
     rw [if_neg zt] at td;simp [PB,-J,-y4,-y3,y0,e4,e5,e6,e7,m4,m5,m6,m7,uv,ft,zx,ga,g1,ad,gf,c,hfh',zg];refine ih fa _ ⟨?_,?_,?_,?_,?_,?_,?_,?_,?_,?_,?_,td⟩ <;> simp [e4,e5,e6,e7,m4,m5,m6,m7,uv,ft,sA]
   ·rw [if_neg c] at td;simp only [c,decide_false] at ad;by_cases im:g.has=true
    ·rw [if_pos im] at td;simp [PB,-J,-y4,-y3,y0,e4,e5,e6,e7,m4,m5,m6,m7,uv,ft,zx,ga,g1,ad,im,zg];refine ih fa _ ⟨?_,?_,?_,?_,?_,?_,?_,?_,?_,?_,?_,td⟩ <;> simp [e4,e5,e6,e7,m4,m5,m6,m7,uv,ft,sA]
    ·have hgh':g.has=false:=by simpa using im
     rw [if_neg im] at td;simp [PB,-J,-y4,-y3,y0,e4,e5,e6,e7,m4,m5,m6,m7,uv,ft,zx,ga,g1,ad,hgh',zg];exact done _ _ _ 7 (by simp) td.symm (by omega)
  ·have ga:¬ (i:Int)<y.mems.length:=by omega
   simp [PB,-J,-y4,-y3,y0,ft,zx,ga];refine hk _ _ (.inl ⟨rfl,by simp [e5],by simp [e7],by simp [m5],by simp [m7],?_⟩);rw [yk (by omega),ZP] at td;exact td.symm
 ·refine ⟨?_,?_,?_,?_,?_,?_,?_,?_,?_,?_,?_,?_⟩ <;> simp [sA]
 rcases h with ⟨rfl,e5,e7,m5,m7,h0⟩ | ⟨rfl,e8⟩
 case inr=>simp [-J,-y4,-y3,y0,e8]
 simp only [sA] at m5;simp [-J,-y4,-y3,y0,e5,m5];have se:PV mns x.mems y.mems=if x.mems.any (crP y.mems)=true then 6 else 0:=by unfold PV; rw [if_pos h0]
 refine RA x.mems.length (fun i s=>(s.env 7).v=.ptr 7 1 0/\s.mem 7 1=some (sA y)/\(s.env 73).v=.sl x.mn (x.mems.map nA)/\(s.env 74).v=.int .i64 x.mems.length/\(s.env 75).v=.int .i64 i/\(x.mems.take i).any (crP y.mems)=false)
  (fun e s=>(e=.exit 2/\x.mems.any (crP y.mems)=false)\/(e=.ret/\(s.env 8).v=.int .i64 6/\x.mems.any (crP y.mems)=true)) (fun i hi s k h ih hk=>?_) _ _ ?_ (fun e s h=>?_)
 ·obtain ⟨e7,m7,e73,e74,e75,ul⟩:=h;refine iA ?_;by_cases fa:i<x.mems.length
  ·have ga:(i:Int)<x.mems.length:=by omega
   have g1:(x.mems.map nA)[i]?=some (nA x.mems[i]):=by simp [fa]
   have zg:=WB (i:=i);have ad:=AX y x.mems[i].id (by omega);have jv:=D0 (crP y.mems) x.mems fa;have bz:=any_yes (crP y.mems) x.mems fa;generalize x.mems[i]=q at *
   simp only [nA] at g1;simp only [sA] at m7;simp only [gA,eA,BO] at ad;simp only [crP] at jv bz;by_cases c:0<=QA y.mems q.id
   ·simp only [c,decide_true] at ad;simp only [c,decide_true,Bool.not_true,Bool.and_false,Bool.or_false] at jv;simp [OD,-J,-y4,-y3,y0,e7,m7,e73,e74,e75,ga,g1,ad,zg];refine ih fa _ ⟨?_,?_,?_,?_,?_,jv.trans ul⟩ <;> simp [e7,m7,e73,e74,sA]
   ·simp only [c,decide_false] at ad;cases xo:q.crit with
    | true =>
     simp [OD,-J,-y4,-y3,y0,e7,m7,e73,e74,e75,ga,g1,ad,xo,zg];exact hk _ _ (.inr ⟨rfl,by simp,bz (by simp [xo,c])⟩)
    | false =>
     simp [OD,-J,-y4,-y3,y0,e7,m7,e73,e74,e75,ga,g1,ad,xo,zg];refine ih fa _ ⟨?_,?_,?_,?_,?_,by rw [jv,ul,xo]; rfl⟩ <;> simp [e7,m7,e73,e74,sA]
  ·have ga:¬ (i:Int)<x.mems.length:=by omega
   simp [OD,-J,-y4,-y3,y0,e74,e75,ga];rw [yB (by omega)] at ul;exact hk _ _ (.inl ⟨rfl,ul⟩)
 ·refine ⟨?_,?_,?_,?_,?_,?_⟩ <;> simp [e7,m7,sA]
 ·rcases h with ⟨rfl,hf⟩ | ⟨rfl,e8,hf⟩
  ·simp [-J,-y4,-y3,y0,se,hf]
  ·simp [-J,-y4,-y3,y0,e8,se,hf]
abbrev Pr:=Int × Int
def XG (p:Pr):List AV:=[.int .i64 p.1,.int .i64 p.2]
theorem LF:ZA 16 1=true:=by decide
theorem bP (l:List Pr):iB 2 (l.map XG)=true:=KB _ _ _ fun _=>rfl
theorem index_ev (l:List Pr) (hl:l.length<=9223372036854775807) (b:Bool) (p:Pr):gA 137 [.sl b (l.map XG),.agg (XG p)] (.int .i64 (FB (fun q=>decide (q=p)) l)):=by
 refine rA (c:=NE) rfl rfl ?_;simp [NE,-J,-y4,-y3,y0,XG];refine RA l.length (fun i s=>(s.env 0).v=.sl b (l.map XG)/\(s.env 3).v=.ptr 3 1 0/\s.mem 3 1=some [⟨.int .i64 p.1,.no⟩,⟨.int .i64 p.2,.no⟩]/\(s.env 7).v=.int .i64 l.length/\(s.env 8).v=.int .i64 i/\(FB (fun q=>decide (q=p)) l=if FB (fun q=>decide (q=p)) (l.drop i)=-1 then -1 else FB (fun q=>decide (q=p)) (l.drop i) + i))
  (fun e s=>(e=.exit 0/\FB (fun q=>decide (q=p)) l=-1)\/(e=.ret/\(s.env 4).v=.int .i64 (FB (fun q=>decide (q=p)) l))) (fun i hi s k h ih hk=>?_) _ _ ?_ (fun e s h=>?_)
 ·obtain ⟨e0,e3,m3,e7,e8,hd⟩:=h;refine iA ?_;by_cases fa:i<l.length
  ·have ga:(i:Int)<l.length:=by omega
   have g1:(l.map XG)[i]?=some (XG l[i]):=by simp [fa]
   have hw:=WB (i:=i);have uf:=qF (fun q=>decide (q=p)) (l.drop (i + 1));rw [yb fa] at hd;generalize l[i]=q at *
   simp only [XG] at g1;have no:¬ q=p->FB (fun q=>decide (q=p)) l=if FB (fun q=>decide (q=p)) (l.drop (i + 1))=-1 then -1 else FB (fun q=>decide (q=p)) (l.drop (i + 1)) + ((i + 1:Nat):Int):=fun e=>by
    rw [AL _ _ _ (by simpa using e)] at hd;rw [hd];split
    ·rename_i h; simp [h]
    ·rename_i h; rw [if_neg (by omega)]; omega
   by_cases c1:q.1=p.1
   ·by_cases c2:q.2=p.2
    ·have e:q=p:=Prod.ext c1 c2;simp [MC,-J,-y4,-y3,y0,e0,e3,m3,e7,e8,ga,g1,c1,c2,hw];refine hk _ _ (.inr ⟨rfl,?_⟩);rw [hd];simp [e,FB]
    ·have gl:¬ p.2=q.2:=fun h=>c2 h.symm
     simp [MC,-J,-y4,-y3,y0,e0,e3,m3,e7,e8,ga,g1,c1,gl,hw];refine ih fa _ ⟨?_,?_,?_,?_,?_,no fun h=>c2 (by rw [h])⟩ <;> simp [e0,e3,m3,e7]
   ·have th:¬ p.1=q.1:=fun h=>c1 h.symm
    simp [MC,-J,-y4,-y3,y0,e0,e3,m3,e7,e8,ga,g1,th,hw];refine ih fa _ ⟨?_,?_,?_,?_,?_,no fun h=>c1 (by rw [h])⟩ <;> simp [e0,e3,m3,e7]
  ·have ga:¬ (i:Int)<l.length:=by omega
   simp [MC,-J,-y4,-y3,y0,e7,e8,ga];refine hk _ _ (.inl ⟨rfl,?_⟩);rw [yk (by omega)] at hd;simpa [FB] using hd
 ·refine ⟨?_,?_,?_,?_,?_,?_⟩ <;> simp [XG]
 ·rcases h with ⟨rfl,hn⟩ | ⟨rfl,e4⟩
  ·simp [-J,-y4,-y3,y0,hn]
  ·simp [-J,-y4,-y3,y0,e4]
theorem S6 (l:List Pr) (hl:l.length<=9223372036854775807) (b:Bool) (p:Pr):gA 108 [.sl b (l.map XG),.agg (XG p)] (.bool (decide (p∈l))):=by
 have h:=index_ev l hl b p;refine rA (c:=wE) rfl rfl ?_;simp only [gA,XG] at h;have h2:decide (p∈l)=decide (0<=FB (fun q=>decide (q=p)) l):=by
  rw [GH];by_cases hp:p∈l
  ·rw [decide_eq_true hp,List.any_eq_true.2 ⟨p,hp,by simp⟩]
  ·rw [decide_eq_false hp]
   symm
   rw [List.any_eq_false];intro x hx;simp only [decide_eq_true_eq];rintro rfl;exact hp hx
 rw [h2];simp [wE,-J,-y4,-y3,y0,XG,h]
def XL (out:List Pr) (p:Pr):List Pr:=if p∈out then out else out++[p]
def N3 (ys:List zB) (f:zB):List Pr:=if 0<=QA ys f.id then (match ys[(QA ys f.id).toNat]? with
 | some g=>[(f.ty,g.ty)]
 | none=>[]) else []
def sR (xs ys:List zB):List Pr:=xs.flatMap (N3 ys)
def xX (x y:pA):List Pr:=if x.kind=8/\0<x.max then [(x.key,y.key)] else []
def cP (x y:pA):List Pr:=if x.kind=9\/(x.kind=7\/x.kind=8)/\0<x.max then [(x.elem,y.elem)] else []
def DS (x y:pA):List Pr:=if x.kind=y.kind then (sR x.mems y.mems++xX x y++cP x y).foldl XL [] else []
theorem comM_len (ys:List zB) (f:zB):(N3 ys f).length<=1:=by
 unfold N3;split
 ·split <;> simp
 ·simp
theorem L5 (out:List Pr) (p:Pr):(XL out p).length<=out.length + 1:=by
 unfold XL;split <;> simp
theorem NR:∀ (l out:List Pr),(l.foldl XL out).length<=out.length + l.length
 | [],out=>by simp
 | p :: r,out=>by
  have h1:=NR r (XL out p);have h2:=L5 out p;simp only [List.foldl_cons,yF];omega
theorem KW (ys:List zB):∀ xs:List zB,(sR xs ys).length<=xs.length
 | []=>by simp [sR]
 | f :: r=>by
  have h1:=KW ys r;have h2:=comM_len ys f;simp only [sR,List.flatMap_cons,yz,yF] at h1 ⊢;omega
def lJ (out:List Pr) (a:An):List wA:=[⟨.sl out.isEmpty (out.map XG),a⟩]
def outAn (out:List Pr) (a:An):Prop:=out=[]/\a=.ex\/out≠[]/\a=.own 16 113
theorem add_ev {r:RV} (out:List Pr) (ia:out.length<=1000000) (a b:Int) {a1 a2 a3:An} {s:aA} {t n:Nat} {an:An} (ht:t≠5) (hm:s.mem t n=some (lJ out an)) (pq:outAn out an) (k:wA->aA->Option RV)
  (hk:∀ y s' an',s.next<=s'.next->s'.mem t n=some (lJ (XL out (a,b)) an')->outAn (XL out (a,b)) an'->(∀ j,(s'.gh j).v=(s.gh j).v)->(∀ t' n' row,t'≠5->¬ (t'=t/\n'=n)->s.mem t' n'=some row->(∀ x∈row,x.a=.no)->s'.mem t' n'=some row)->k y s'=some r) :
  evH jA tA 107 [⟨.int .i64 a,a1⟩,⟨.int .i64 b,a2⟩,⟨.ptr t n 0,a3⟩] s k=some r:=by
 refine KT kC rfl rfl ?_;have hc:=S6 out (by omega) out.isEmpty (a,b);have q:=bP out;have oa:ZA 16 (out.length + 1)=true:=by rw [xA]; omega
 have na:∀ (row:List wA),(∀ x∈row,x.a=.no)->row.map (wA.strip 16)=row:=fun row h=>by
  conv=>rhs; rw [<- List.map_id row]
  refine yw fun x hx=>?_
  have:=h x hx;cases x;simp only at this;subst this;rfl
 simp only [gA,XG] at hc;simp only [lJ] at hm;by_cases pe:(a,b)∈out
 ·rw [decide_eq_true pe] at hc;have wz:XL out (a,b)=out:=if_pos pe;rw [wz] at hk;simp [kC,-J,-y4,-y3,y0,hm,ht,hc];refine hk _ _ an ?_ ?_ pq ?_ ?_
  ·simp; omega
  ·simp [hm,ht,lJ]
  ·intro j; simp
  ·intro t' n' row h5 ma h1 _;simp [h5,h1]
 ·rw [decide_eq_false pe] at hc;have wz:XL out (a,b)=out++[(a,b)]:=if_neg pe;rw [wz] at hk;rcases pq with ⟨rfl,rfl⟩ | ⟨ma,rfl⟩
  ·simp only [List.isEmpty_nil,ym] at hc hm;simp [kC,-J,-y4,-y3,y0,hm,ht,hc,LF];refine hk _ _ (.own 16 113) ?_ ?_ (.inr ⟨by simp,rfl⟩) ?_ ?_
   ·simp; omega
   ·simp [hm,ht,lJ,XG]
   ·intro j; simp
   ·intro t' n' row h5 ma h1 h2;have:=na row h2;simp [h5,ma,h1,this]
  ·have gj:out.isEmpty=false:=by simpa using ma
   rw [gj] at hm hc;simp [kC,-J,-y4,-y3,y0,hm,ht,hc,oa,q];refine hk _ _ (.own 16 113) ?_ ?_ (.inr ⟨by simp,rfl⟩) ?_ ?_
   ·simp; omega
   ·simp [hm,ht,lJ,XG]
   ·intro j; simp
   ·intro t' n' row h5 ma h1 h2;have:=na row h2;simp [h5,ma,h1,this]
theorem comM_some {ys:List zB} {f:zB} (h:0<=QA ys f.id) {g:zB} (hg:ys[(QA ys f.id).toNat]?=some g):N3 ys f=[(f.ty,g.ty)]:=by
 unfold N3;rw [if_pos h,hg]
theorem comM_none {ys:List zB} {f:zB} (h:¬ 0<=QA ys f.id):N3 ys f=[]:=if_neg h
def GO (xs ys:List zB) (i:Nat):List Pr:=(sR (xs.take i) ys).foldl XL []
theorem R9 {xs ys:List zB} {i:Nat} (h:i<xs.length):GO xs ys (i + 1)=(N3 ys xs[i]).foldl XL (GO xs ys i):=by
 unfold GO sR;rw [<- yJ h,List.flatMap_append,List.foldl_append];simp
theorem Q1 (xs ys:List zB) (i:Nat):(GO xs ys i).length<=i:=by
 have h1:=NR (sR (xs.take i) ys) [];have h2:=KW ys (xs.take i);simp only [yL,List.length_nil] at h1 h2;unfold GO;omega
structure o9 (x y:pA) (out:List Pr) (s:aA):Prop where
 e9:(s.env 9).v=.ptr 9 2 0
 e10:(s.env 10).v=.ptr 10 2 0
 e11:(s.env 11).v=.ptr 11 3 0
 e12:(s.env 12).v=.fn 107 [.ptr 11 3 0]
 m9:s.mem 9 2=some (sA x)
 m10:s.mem 10 2=some (sA y)
 m11:∃ an,s.mem 11 3=some (lJ out an)/\outAn out an
theorem o9.of {x y:pA} {out:List Pr} {s s':aA} (h:o9 x y out s) (he:∀ t,9<=t->t<=12->(s'.env t).v=(s.env t).v) (hm:∀ t n,9<=t->t<=11->s'.mem t n=s.mem t n):o9 x y out s':=by
 obtain ⟨h1,h2,h3,h4,h5,h6,h7⟩:=h;exact ⟨by rw [he 9 (by omega) (by omega),h1],by rw [he 10 (by omega) (by omega),h2],by rw [he 11 (by omega) (by omega),h3],by rw [he 12 (by omega) (by omega),h4],by rw [hm 9 _ (by omega) (by omega),h5],by rw [hm 10 _ (by omega) (by omega),h6],by rw [hm 11 _ (by omega) (by omega)]; exact h7⟩
theorem P3 (x:pA):∀ s∈sA x,s.a=.no:=by simp [sA]
theorem QT {r:RV} {x y:pA} {out:List Pr} {E:Nat->wA} {M:Nat->Nat->Option (List wA)} {n:Nat} {ob:Nat->Nat->Option AV} {g:Nat->wA} (h:o9 x y out ⟨E,M,n,ob,g⟩) (ia:out.length<=1000000) (a b:Int) {a1 a2 a3:An} (k:wA->aA->Option RV)
  (hk:∀ yv s',o9 x y (XL out (a,b)) ⟨backE 99 s'.gh,s'.mem,s'.next,s'.obj,FV 99 s'.gh⟩->(∀ j,j<99->(s'.gh j).v=(E j).v)->k yv s'=some r) :
  evH jA tA 107 [⟨.int .i64 a,a1⟩,⟨.int .i64 b,a2⟩,⟨.ptr 11 3 0,a3⟩] ⟨E,M,n,ob,aZ 99 E g⟩ k=some r:=by
 obtain ⟨h1,h2,h3,h4,h5,h6,an,h7,h8⟩:=h;refine add_ev (s:=⟨E,M,n,ob,aZ 99 E g⟩) out ia a b (by decide) h7 h8 k (fun yv s' an' hn hm pq im la=>?_);have hj:∀ j,j<99->(s'.gh j).v=(E j).v:=fun j hj=>by rw [im j]; simp [hj]
 refine hk yv s' ⟨?_,?_,?_,?_,?_,?_,an',hm,pq⟩ hj
 ·simpa [hj 9] using h1
 ·simpa [hj 10] using h2
 ·simpa [hj 11] using h3
 ·simpa [hj 12] using h4
 ·exact la 9 2 _ (by decide) (by decide) h5 (P3 x)
 ·exact la 10 2 _ (by decide) (by decide) h6 (P3 y)
theorem NZ (w r:FI) {x y:pA} {i k:Int} (hi:0<=i) (gx:w.types[i.toNat]?=some x) (hk:0<=k) (gy:r.types[k.toNat]?=some y) (mo:x.mems.length<=1000) (az:y.mems.length<=1000):gA 63 [.agg (GA w),.int .i64 i,.agg (GA r),.int .i64 k] (.sl (DS x y).isEmpty ((DS x y).map XG)):=by
 have g1:(w.types.map eA)[i.toNat]?=some (eA x):=by rw [yc,gx]; rfl
 have g2:(r.types.map eA)[k.toNat]?=some (eA y):=by rw [yc,gy]; rfl
 simp only [eA] at g1 g2;refine rA (c:=AD) rfl rfl ?_;by_cases e:x.kind=y.kind
 case neg=>simp [AD,-J,-y4,-y3,y0,GA,g1,g2,hi,hk,e,DS]
 simp [AD,-J,-y4,-y3,y0,GA,g1,g2,hi,hk,e];refine RA x.mems.length (fun i s=>o9 x y (GO x.mems y.mems i) s/\(s.env 35).v=.sl x.mn (x.mems.map nA)/\(s.env 36).v=.int .i64 x.mems.length/\(s.env 37).v=.int .i64 i)
  (fun e s=>e=.exit 0/\o9 x y (GO x.mems y.mems x.mems.length) s) (fun i hi s k h ih hk=>?_) _ _ ?_ (fun e1 s h=>?_)
 ·obtain ⟨hS,fy,e36,e37⟩:=h;have tz:=hS;obtain ⟨e9,e10,e11,e12,m9,m10,an,m11,ha⟩:=hS;refine iA ?_;by_cases fa:i<x.mems.length
  ·have ga:(i:Int)<x.mems.length:=by omega
   have gm:(x.mems.map nA)[i]?=some (nA x.mems[i]):=by simp [fa]
   have zg:=WB (i:=i);have lc:=R9 (ys:=y.mems) fa;have fc:=Q1 x.mems y.mems i;have ad:=AX y x.mems[i].id (by omega);generalize x.mems[i]=f at *
   simp only [nA] at gm;simp only [gA,eA,BO] at ad;simp only [sA] at m9 m10;by_cases c:0<=QA y.mems f.id
   ·obtain ⟨g,hg,hgm⟩:=OX c;have gg:(y.mems.map nA)[(QA y.mems f.id).toNat]?=some (nA g):=by rw [yc,hg]; rfl
    rw [comM_some c hg] at lc;have nh:max (QA y.mems f.id) 0=QA y.mems f.id:=by omega
    simp only [c,decide_true,nh] at ad;generalize QA y.mems f.id=ix at *
    simp only [nA] at gg;simp [qE,-J,-y4,-y3,y0,e9,e10,e11,e12,m9,m10,fy,e36,e37,ga,gm,ad,gg,c,zg];refine QT (x:=x) (y:=y) (out:=GO x.mems y.mems i) (tz.of ?_ ?_) (by omega) _ _ _ (fun yv s' hA hj=>?_)
    ·intro t h9 ro;simp
     repeat (rw [if_neg (by omega)])
    ·intro t n h9 mq;simp
     repeat (rw [if_neg (by omega)])
    ·have j35:=hj 35 (by omega);have j36:=hj 36 (by omega);have j37:=hj 37 (by omega);simp [fy,e36,e37] at j35 j36 j37;simp [-J,-y4,-y3,y0,j37,zg];refine ih fa _ ⟨?_,?_,?_,?_⟩
     ·rw [lc];refine hA.of (fun t h9 ro=>?_) (fun t n _ _=>rfl);simp
      repeat (rw [if_neg (by omega)])
     ·simp [j35]
     ·simp [j36]
     ·simp
   ·rw [comM_none c] at lc;simp only [c,decide_false] at ad;simp [qE,-J,-y4,-y3,y0,e9,e10,e11,e12,m9,m10,fy,e36,e37,ga,gm,ad,c,zg];refine ih fa _ ⟨?_,?_,?_,?_⟩
    ·rw [lc];refine tz.of (fun t h9 ro=>?_) (fun t n h9 mq=>?_)
     ·simp
      repeat (rw [if_neg (by omega)])
     ·simp
      repeat (rw [if_neg (by omega)])
    ·simp [fy]
    ·simp [e36]
    ·simp
  ·have ga:¬ (i:Int)<x.mems.length:=by omega
   have wd:i=x.mems.length:=by omega
   simp [qE,-J,-y4,-y3,y0,e36,e37,ga];refine hk _ _ ⟨rfl,?_⟩;rw [<- wd];refine tz.of (fun t h9 ro=>?_) (fun t n _ _=>rfl);simp
   repeat (rw [if_neg (by omega)])
 ·refine ⟨⟨?_,?_,?_,?_,?_,?_,.ex,?_,.inl ⟨rfl,rfl⟩⟩,?_,?_,?_⟩ <;> simp [sA,e,lJ,GO,sR]
 obtain ⟨rfl,hS⟩:=h;have fc:=Q1 x.mems y.mems x.mems.length;have dd:DS x y=(xX x y++cP x y).foldl XL (GO x.mems y.mems x.mems.length):=by
  unfold DS GO;rw [if_pos e,List.take_length,List.foldl_append,List.foldl_append,List.foldl_append]
 generalize GO x.mems y.mems x.mems.length=out at *
 unfold xX cP at dd;have tz:=hS;obtain ⟨e9,e10,e11,e12,m9,m10,an,m11,ha⟩:=hS;simp only [sA] at m9 m10;rw [e] at dd;by_cases k8:y.kind=8
 ·by_cases c:0<x.max
  ·rw [if_pos ⟨k8,c⟩,if_pos (.inr ⟨.inr k8,c⟩)] at dd;simp only [yR,List.nil_append,List.foldl_cons,List.foldl_nil] at dd;simp [-J,-y4,-y3,y0,e9,e10,e11,e12,m9,m10,e,k8,c];refine QT (x:=x) (y:=y) (out:=out) (tz.of ?_ ?_) (by omega) _ _ _ (fun yv s' hA hj=>?_)
   ·intro t h9 ro;simp
    repeat (rw [if_neg (by omega)])
   ·intro t n h9 mq;rfl
   ·have hA':=hA;obtain ⟨f9,f10,f11,f12,n9,ck,an1,n11,hb⟩:=hA;simp at f9 f10 f11 f12;simp only [sA] at n9 ck;simp [-J,-y4,-y3,y0,f9,f10,f11,f12,n9,ck,e,k8,c];have gq:=L5 out (x.key,y.key);refine QT (x:=x) (y:=y) (out:=XL out (x.key,y.key)) (hA'.of ?_ ?_) (by omega) _ _ _ (fun yv2 s2 hB hj2=>?_)
    ·intro t h9 ro;simp
     repeat (rw [if_neg (by omega)])
    ·intro t n h9 mq;rfl
    ·obtain ⟨b9,b10,xx,b12,p9,p10,an2,jz,hc⟩:=hB;simp at xx;simp only [lJ] at jz;simp [-J,-y4,-y3,y0,xx,jz,dd]
  ·rw [if_neg (fun h=>c h.2),if_neg (by omega)] at dd;simp only [List.append_nil,List.foldl_nil] at dd;simp only [lJ] at m11;simp [-J,-y4,-y3,y0,e9,e10,e11,e12,m9,m10,m11,e,k8,c,dd]
 rw [if_neg (fun h=>k8 h.1),List.nil_append] at dd;by_cases k9:y.kind=9
 ·rw [if_pos (.inl k9)] at dd;simp only [List.foldl_cons,List.foldl_nil] at dd;simp [-J,-y4,-y3,y0,e9,e10,e11,e12,m9,m10,e,k9];refine QT (x:=x) (y:=y) (out:=out) (tz.of ?_ ?_) (by omega) _ _ _ (fun yv s' hA hj=>?_)
  ·intro t h9 ro;simp
   repeat (rw [if_neg (by omega)])
  ·intro t n h9 mq;rfl
  ·obtain ⟨b9,b10,xx,b12,p9,p10,an2,jz,hc⟩:=hA;simp at xx;simp only [lJ] at jz;simp [-J,-y4,-y3,y0,xx,jz,dd]
 by_cases k7:y.kind=7
 ·by_cases c:0<x.max
  ·rw [if_pos (.inr ⟨.inl k7,c⟩)] at dd;simp only [List.foldl_cons,List.foldl_nil] at dd;simp [-J,-y4,-y3,y0,e9,e10,e11,e12,m9,m10,e,k7,c];refine QT (x:=x) (y:=y) (out:=out) (tz.of ?_ ?_) (by omega) _ _ _ (fun yv s' hA hj=>?_)
   ·intro t h9 ro;simp
    repeat (rw [if_neg (by omega)])
   ·intro t n h9 mq;rfl
   ·obtain ⟨b9,b10,xx,b12,p9,p10,an2,jz,hc⟩:=hA;simp at xx;simp only [lJ] at jz;simp [-J,-y4,-y3,y0,xx,jz,dd]
  ·rw [if_neg (by omega)] at dd;simp only [List.foldl_nil] at dd;simp only [lJ] at m11;simp [-J,-y4,-y3,y0,e9,e10,e11,e12,m9,m10,m11,e,k7,c,dd]
 rw [if_neg (by omega)] at dd;simp only [List.foldl_nil] at dd;simp only [lJ] at m11;simp [-J,-y4,-y3,y0,e9,e10,e11,e12,m9,m10,m11,e,k7,k8,k9,dd]

def rP (n m:Nat) (p:Pr):Prop:=0<=p.1/\p.1<n/\0<=p.2/\p.2<m
structure SimF (w r:FI) (nx:Pr->List Pr) (rs:Pr->Int):Prop where
 suc:∀ p,rP w.types.length r.types.length p->gA 63 [.agg (GA w),.int .i64 p.1,.agg (GA r),.int .i64 p.2] (.sl (nx p).isEmpty ((nx p).map XG))
 rsn:∀ p,rP w.types.length r.types.length p->gA 62 [.agg (GA w),.int .i64 p.1,.agg (GA r),.int .i64 p.2] (.int .i64 (rs p))
 rng:∀ p,rP w.types.length r.types.length p->∀ q∈nx p,rP w.types.length r.types.length q
 len:∀ p,rP w.types.length r.types.length p->(nx p).length<=2000
 wl:w.types.length<=32
 rl:r.types.length<=32
abbrev pR:=Pr × List Pr × Int
def zM (path:List Pr) (i:Int) (out:List pR) (q:Pr):List pR:=if q∈out.map (·.1) then out else out++[(q,path++[q],i)]
def jI (nx:Pr->List Pr) (p:Pr):Nat->List pR
 | 0=>[(p,[p],-1)]
 | i + 1=>match (jI nx p i)[i]? with
  | some e=>(nx e.1).foldl (zM e.2.1 i) (jI nx p i)
  | none=>jI nx p i
def FJ (l:List pR):List Pr:=l.map (·.1)
theorem addE_prs (path:List Pr) (i:Int) (out:List pR) (q:Pr):FJ (zM path i out q)=XL (FJ out) q:=by
 unfold zM XL FJ;split <;> simp
theorem IL (path:List Pr) (i:Int):∀ (l:List Pr) (out:List pR),FJ (l.foldl (zM path i) out)=l.foldl XL (FJ out)
 | [],_=>rfl
 | q :: r,out=>by rw [List.foldl_cons,List.foldl_cons,IL path i r,addE_prs]
theorem a9 {out:List Pr} (h:out.Nodup) (q:Pr):(XL out q).Nodup:=by
 unfold XL;split
 ·exact h
 ·rename_i hq;rw [List.nodup_append];refine ⟨h,by simp,?_⟩;rintro a ha b hb rfl;simp at hb;subst hb;exact hq ha
theorem gV:∀ (l out:List Pr),out.Nodup->(l.foldl XL out).Nodup
 | [],_,h=>h
 | q :: r,_,h=>gV r _ (a9 h q)
theorem addP_mem {out:List Pr} {q x:Pr}:x∈XL out q ↔ x∈out\/x=q:=by
 unfold XL;split
 ·rename_i h;constructor
  ·exact .inl
  ·rintro (h' | rfl)
   ·exact h'
   ·exact h
 ·simp
theorem OL:∀ (l out:List Pr) {x:Pr},x∈l.foldl XL out ↔ x∈out\/x∈l
 | [],out,x=>by simp
 | q :: r,out,x=>by
  rw [List.foldl_cons,OL r,addP_mem];simp [or_assoc]
theorem DT (nx:Pr->List Pr) (p:Pr):∀ i,(FJ (jI nx p i)).Nodup
 | 0=>by simp [jI,FJ]
 | i + 1=>by
  rw [jI];split
  ·rw [IL]; exact gV _ _ (DT nx p i)
  ·exact DT nx p i
theorem ZN {n m:Nat} {nx:Pr->List Pr} {p:Pr} (hp:rP n m p) (hr:∀ p,rP n m p->∀ q∈nx p,rP n m q):∀ i,∀ x∈FJ (jI nx p i),rP n m x
 | 0=>by simp [jI,FJ]; exact hp
 | i + 1=>fun x hx=>by
  rw [jI] at hx;split at hx
  ·rename_i e he;rw [IL,OL] at hx;have hi:e.1∈FJ (jI nx p i):=Y00 (yh he);rcases hx with hx | hx
   ·exact ZN hp hr i x hx
   ·exact hr _ (ZN hp hr i _ hi) x hx
  ·exact ZN hp hr i x hx
def allPr (n m:Nat):List Pr:=(List.range n).flatMap fun (a:Nat)=>(List.range m).map fun (b:Nat)=>((a:Int),(b:Int))
theorem O3 (m:Nat):∀ l:List Nat,(l.map fun _=>m).sum=l.length * m
 | []=>by simp
 | x :: r=>by
  simp only [yf,List.sum_cons,O3 m r,yF,yy];omega
theorem allPr_len (n m:Nat):(allPr n m).length=n * m:=by
 have h:=O3 m (List.range n);rw [List.length_range] at h;simp [allPr,List.length_flatMap,h]
theorem mem_allPr {n m:Nat} {p:Pr} (h:rP n m p):p∈allPr n m:=by
 obtain ⟨a,b⟩:=p;obtain ⟨h1,h2,h3,h4⟩:=h;simp only at h1 h2 h3 h4;unfold allPr;rw [List.mem_flatMap];refine ⟨a.toNat,by simp; omega,?_⟩;rw [yp];refine ⟨b.toNat,by simp; omega,?_⟩;rw [Int.toNat_of_nonneg h1,Int.toNat_of_nonneg h3]
theorem I2:∀ {l m:List Pr},l.Nodup->(∀ x∈l,x∈m)->l.length<=m.length
 | [],m,_,_=>Nat.zero_le _
 | x :: r,m,hn,hm=>by
  rw [List.nodup_cons] at hn;have hx:=hm x (by simp);have:=I2 (l:=r) (m:=m.erase x) hn.2 (fun y hy=>by
   have ma:y≠x:=fun e=>hn.1 (e ▸ hy)
   exact (List.mem_erase_of_ne ma).2 (hm y (by simp [hy])))
  rw [List.length_erase_of_mem hx] at this;have hp:0<m.length:=List.length_pos_of_mem hx;simp only [yF];omega
theorem bfs_len {n m:Nat} {nx:Pr->List Pr} {p:Pr} (hp:rP n m p) (hr:∀ p,rP n m p->∀ q∈nx p,rP n m q) (i:Nat):(jI nx p i).length<=n * m:=by
 have h1:=I2 (DT nx p i) (fun x hx=>mem_allPr (ZN hp hr i x hx));rw [allPr_len] at h1;simpa [FJ] using h1
theorem K5 (path:List Pr) (i:Int) (out:List pR) (q:Pr):∃ t,zM path i out q=out++t:=by
 unfold zM;split
 ·exact ⟨[],by simp⟩
 ·exact ⟨_,rfl⟩
theorem I0 (path:List Pr) (i:Int):∀ (l:List Pr) (out:List pR),∃ t,l.foldl (zM path i) out=out++t
 | [],out=>⟨[],by simp⟩
 | q :: r,out=>by
  obtain ⟨t,ht⟩:=K5 path i out q;obtain ⟨u,hu⟩:=I0 path i r (zM path i out q);exact ⟨t++u,by rw [List.foldl_cons,hu,ht,List.append_assoc]⟩
theorem C3 (nx:Pr->List Pr) (p:Pr) (i:Nat):∃ t,jI nx p (i + 1)=jI nx p i++t:=by
 rw [jI];split
 ·exact I0 _ _ _ _
 ·exact ⟨[],by simp⟩
theorem u6 (nx:Pr->List Pr) (p:Pr) {i:Nat}:∀ {j:Nat},i<=j->∃ t,jI nx p j=jI nx p i++t
 | 0,h=>by
  have:i=0:=by omega
  subst this;exact ⟨[],by simp⟩
 | j + 1,h=>by
  by_cases e:i=j + 1
  ·subst e; exact ⟨[],by simp⟩
  ·obtain ⟨t,ht⟩:=u6 nx p (i:=i) (j:=j) (by omega);obtain ⟨u,hu⟩:=C3 nx p j;exact ⟨t++u,by rw [hu,ht,List.append_assoc]⟩
theorem bfs_get (nx:Pr->List Pr) (p:Pr) {i j k:Nat} (h:i<=j) {e:pR} (he:(jI nx p i)[k]?=some e):(jI nx p j)[k]?=some e:=by
 obtain ⟨t,ht⟩:=u6 nx p h;rw [ht,yG (y9.1 he).1];exact he
theorem p6 {nx:Pr->List Pr} {p:Pr} {i:Nat} (h:(jI nx p i).length=i):∀ {j:Nat},i<=j->jI nx p j=jI nx p i
 | 0,hj=>by
  have:i=0:=by omega
  rw [this]
 | j + 1,hj=>by
  by_cases e:i=j + 1
  ·rw [e]
  ·have hb:=p6 h (j:=j) (by omega);rw [jI,hb,yY (by omega)]
def CO (nx:Pr->List Pr) (p:Pr):List pR:=jI nx p 1024
theorem bfsE_of {nx:Pr->List Pr} {p:Pr} {i:Nat} (h:(jI nx p i).length=i) (hi:i<=1024):CO nx p=jI nx p i:=p6 h hi
structure LR (nx:Pr->List Pr) (p:Pr) (l:List pR) (k:Nat) (e:pR):Prop where
 bef:(k=0/\e=(p,[p],-1))\/(∃ j:Nat,j<k/\e.2.2=j/\∃ e',l[j]?=some e'/\e.2.1=e'.2.1++[e.1]/\e.1∈nx e'.1)
theorem LR.more {nx:Pr->List Pr} {p:Pr} {l:List pR} {k:Nat} {e:pR} (h:LR nx p l k e) (t:List pR):LR nx p (l++t) k e:=by
 rcases h with ⟨h | ⟨j,h1,h2,e',h3,h4⟩⟩
 ·exact ⟨.inl h⟩
 ·exact ⟨.inr ⟨j,h1,h2,e',by rw [yG (y9.1 h3).1]; exact h3,h4⟩⟩
theorem Z5 {nx:Pr->List Pr} {p:Pr} {i:Nat} {e0:pR}:∀ (l:List Pr) (out:List pR),(∀ q∈l,q∈nx e0.1)->out[i]?=some e0->(∀ k e,out[k]?=some e->LR nx p out k e)->∀ k e,(l.foldl (zM e0.2.1 i) out)[k]?=some e->LR nx p (l.foldl (zM e0.2.1 i) out) k e
 | [],_,_,_,h=>h
 | q :: r,out,hq,hi,h=>by
  rw [List.foldl_cons];have wd:=(y9.1 hi).1;refine Z5 r _ (fun x hx=>hq x (by simp [hx])) ?_ ?_
  ·obtain ⟨t,ht⟩:=K5 e0.2.1 i out q;rw [ht,yG wd];exact hi
  ·intro k e he;unfold zM at he ⊢;split at he
   ·rename_i hc;rw [if_pos hc];exact h k e he
   ·rename_i hc;rw [if_neg hc];by_cases hk:k<out.length
    ·rw [yG hk] at he;exact (h k e he).more _
    ·have hk2:k=out.length:=by
      have:=(y9.1 he).1;simp at this;omega
     subst hk2;simp at he;subst he;exact ⟨.inr ⟨i,wd,rfl,e0,by rw [yG wd]; exact hi,rfl,hq q (by simp)⟩⟩
theorem l9 (nx:Pr->List Pr) (p:Pr):∀ i,∀ k e,(jI nx p i)[k]?=some e->LR nx p (jI nx p i) k e
 | 0=>fun k e he=>by
  simp [jI] at he ⊢;cases k with
  | zero=>simp at he; subst he; exact ⟨.inl ⟨rfl,rfl⟩⟩
  | succ k=>simp at he
 | i + 1=>by
  rw [jI];split
  ·rename_i e0 sf;exact Z5 _ _ (fun q hq=>hq) sf (l9 nx p i)
  ·exact l9 nx p i
theorem j9 {nx:Pr->List Pr} {p:Pr} {i:Nat}:∀ k,k<i->∀ e,(jI nx p i)[k]?=some e->∀ q∈nx e.1,q∈FJ (jI nx p i):=by
 induction i with
 | zero=>intro k hk; omega
 | succ i ih =>
  intro k hk e he q hq;have hpre:=C3 nx p i;obtain ⟨t,ht⟩:=hpre;by_cases hki:k=i
  ·subst hki;cases hb:(jI nx p k)[k]? with
   | none =>
    have hE:jI nx p (k + 1)=jI nx p k:=by rw [jI,hb]
    rw [hE,hb] at he;cases he
   | some e0 =>
    have:=bfs_get nx p (Nat.le_succ k) hb;rw [this] at he;injection he with he;subst he;rw [jI,hb];simp only;rw [IL,OL];exact .inr hq
  ·by_cases lg:k<(jI nx p i).length
   ·have fi:(jI nx p i)[k]?=some e:=by rw [ht,yG lg] at he; exact he
    have:=ih k (by omega) e fi q hq;rw [ht];unfold FJ at this ⊢;rw [yH];exact yS _ this
   ·have lc:(jI nx p i).length=i\/(jI nx p i).length<i:=by omega
    have hE:jI nx p (i + 1)=jI nx p i:=by rw [jI,yY (by omega)]
    rw [hE,yY (by omega)] at he;cases he
section
variable {n m:Nat} {nx:Pr->List Pr} {p:Pr} (hp:rP n m p) (hr:∀ p,rP n m p->∀ q∈nx p,rP n m q) (hn:n<=32) (hm:m<=32)
include n m nx p hp hr hn hm
theorem M5:(CO nx p).length<=1024:=by
 have h1:=bfs_len hp hr 1024;have h2:n * m<=32 * 32:=Nat.mul_le_mul hn hm;unfold CO;omega
theorem gP {x:Pr} (hx:x∈FJ (CO nx p)):∀ q∈nx x,q∈FJ (CO nx p):=by
 obtain ⟨e,he,rfl⟩:=yp.1 hx;obtain ⟨k,hk,rfl⟩:=yq he;have hf:=M5 hp hr hn hm;exact j9 k (by omega) _ (y5 hk)
end
theorem J0 (nx:Pr->List Pr) (p:Pr):(CO nx p)[0]?=some (p,[p],-1):=bfs_get nx p (Nat.zero_le 1024) rfl
def DN (p:Pr):List AV:=[.agg (XG p),.bool true]
def kZ (e:pR):List AV:=[.int .i64 e.2.2]
def JG (s:FI) (t:Int):List AV:=[.sl s.nl (s.types.map eA),.int .i64 t]
def KG (s:FI) (t:Int):List wA:=[⟨.sl s.nl (s.types.map eA),.no⟩,⟨.int .i64 t,.no⟩]
theorem Q3 (p:Pr):∀ l:List Pr,cI (l.map DN) (.agg [.int .i64 p.1,.int .i64 p.2])=if p∈l then some (AV.bool true) else none
 | []=>rfl
 | x :: r=>by
  have:=Q3 p r;simp only [yf,DN,XG,cI,LO,gR];by_cases h1:x.1=p.1
  ·by_cases h2:x.2=p.2
   ·have e:x=p:=Prod.ext h1 h2;simp [h1,h2,e]
   ·have e:¬ p=x:=fun h=>h2 (by rw [h])
    simp [h1,h2,e,this,DN]
  ·have e:¬ p=x:=fun h=>h1 (by rw [h])
   simp [h1,e,this,DN]
theorem W3 (p:Pr):∀ l:List Pr,¬ p∈l->UG (l.map DN) (.agg [.int .i64 p.1,.int .i64 p.2]) (.bool true)=(l++[p]).map DN
 | [],_=>rfl
 | x :: r,hn=>by
  have h:¬ p=x:=fun e=>hn (by simp [e])
  have:=W3 p r fun e=>hn (by simp [e])
  have h':¬ (x.1=p.1/\x.2=p.2):=fun ⟨a,b⟩=>h (Prod.ext a.symm b.symm)
  simp only [yf,DN,XG,UG,LO,gR,yR];by_cases h1:x.1=p.1
  ·have h2:¬ x.2=p.2:=fun b=>h' ⟨h1,b⟩
   simp [h1,h2,this,DN,XG]
  ·simp [h1,this,DN,XG]
theorem I8:∀ l:List Pr,dJ (.agg [some .i64,some .i64]) (l.map DN)=true
 | []=>rfl
 | x :: r=>by
  have:=I8 r;simp only [dJ] at this;simp [dJ,DN,XG,HG,wL,AV.flat,AV.scal]
theorem els_bef (l:List pR):iB 1 (l.map kZ)=true:=KB _ _ _ fun _=>rfl
structure ReI (w r:FI) (t u:Int) (out:List pR) (s:aA):Prop where
 e2:(s.env 2).v=.ptr 2 1 0
 e3:(s.env 3).v=.ptr 3 1 0
 m2:s.mem 2 1=some (KG w t)
 m3:s.mem 3 1=some (KG r u)
 e6:(s.env 6).v=.sl false ((FJ out).map XG)
 a6:(s.env 6).a=.ex\/(s.env 6).a=.own 59 113
 e7:(s.env 7).v=.sl false (out.map kZ)
 a7:(s.env 7).a=.ex\/(s.env 7).a=.own 63 3
 e8:(s.env 8).v=.mp 19 3
 ob:s.obj 19 3=some (TI ((FJ out).map DN))
theorem addE_in {path:List Pr} {i:Int} {out:List pR} {q:Pr} (h:q∈FJ out):zM path i out q=out:=if_pos h
theorem addE_out {path:List Pr} {i:Int} {out:List pR} {q:Pr} (h:¬ q∈FJ out):zM path i out q=out++[(q,path++[q],i)]:=if_neg h
theorem reach_in {rv:RV} (w r:FI) (t u:Int) (path:List Pr) (i:Nat) (hi:i<=1000000) (qs:List Pr) (hq:qs.length<=1000000) (qb:Bool) (out:List pR) (ho:out.length<=1000000) (s:aA) (h:ReI w r t u out s) (e9:(s.env 9).v=.int .i64 i) (e44:(s.env 44).v=.sl qb (qs.map XG)) (oz:(s.env 45).v=.int .i64 qs.length) (e46:(s.env 46).v=.int .i64 0) (k:Ex->aA->Option RV)
  (hk:∀ s',ReI w r t u (qs.foldl (zM path i) out) s'->(s'.env 9).v=.int .i64 i->k (.exit 2) s'=some rv):WI jA tA PD s k=some rv:=by
 refine RA qs.length (fun j s=>ReI w r t u ((qs.take j).foldl (zM path i) out) s/\(s.env 9).v=.int .i64 i/\(s.env 44).v=.sl qb (qs.map XG)/\(s.env 45).v=.int .i64 qs.length/\(s.env 46).v=.int .i64 j)
  (fun e s=>e=.exit 2/\ReI w r t u (qs.foldl (zM path i) out) s/\(s.env 9).v=.int .i64 i) (fun j hj s k h ih hk=>?_) _ _ ⟨h,e9,e44,oz,e46⟩ (fun e s h=>by obtain ⟨rfl,h1,h2⟩:=h; exact hk _ h1 h2)
 obtain ⟨⟨e2,e3,m2,m3,e6,a6,e7,a7,e8,ob⟩,e9,e44,oz,e46⟩:=h;refine iA ?_;by_cases fa:j<qs.length
 ·have ga:(j:Int)<qs.length:=by omega
  have g1:(qs.map XG)[j]?=some (XG qs[j]):=by simp [fa]
  have hw:=WB (i:=j);have lc:(qs.take (j + 1)).foldl (zM path i) out=zM path i ((qs.take j).foldl (zM path i) out) qs[j]:=by rw [<- yJ fa,List.foldl_append]; rfl
  have ia:((qs.take j).foldl (zM path i) out).length<=out.length + j:=by
   have h1:=NR (qs.take j) (FJ out);rw [<- IL path i] at h1;simp only [FJ,yu,yL] at h1;omega
  rw [lc] at ih;generalize (qs.take j).foldl (zM path i) out=out' at *
  generalize qs[j]=q at *
  have uf:=Q3 q (FJ out');have wq:=I8 (FJ out');have q1:=bP (FJ out');have q2:=els_bef out';have ti:(FJ out').length=out'.length:=by simp [FJ]
  have hroom1:ZA 16 (out'.length + 1)=true:=by rw [xA]; omega
  have hroom2:ZA 8 (out'.length + 1)=true:=by rw [xA]; omega
  simp only [XG] at g1;by_cases c:q∈FJ out'
  ·rw [if_pos c] at uf;rw [addE_in c] at ih;simp [PD,-J,-y4,-y3,y0,e8,e44,oz,e46,ga,g1,ob,cG,wq,HG,wL,AV.flat,AV.scal,uf,hw];refine ih fa _ ⟨⟨?_,?_,?_,?_,?_,?_,?_,?_,?_,?_⟩,?_,?_,?_,?_⟩
   ·simp [e2]
   ·simp [e3]
   ·simp [m2]
   ·simp [m3]
   ·simp [e6]
   ·simpa using a6
   ·simp [e7]
   ·simpa using a7
   ·simp [e8]
   ·simp [ob]
   ·simp [e9]
   ·simp [e44]
   ·simp [oz]
   ·simp
  ·rw [if_neg c] at uf;rw [addE_out c] at ih;have hse:=W3 q (FJ out') c;have hpr:FJ (out'++[(q,path++[q],(i:Int))])=FJ out'++[q]:=by simp [FJ]
   rcases a6 with a6 | a6 <;> rcases a7 with a7 | a7
   all_goals
    simp [PD,-J,-y4,-y3,y0,e6,a6,e7,a7,e8,e9,e44,oz,e46,ga,g1,ob,cG,wq,HG,wL,AV.flat,AV.scal,uf,hse,hw,ti,hroom1,hroom2,q1,q2];refine ih fa _ ⟨⟨?_,?_,?_,?_,?_,.inr ?_,?_,.inr ?_,?_,?_⟩,?_,?_,?_,?_⟩
    ·simp [e2]
    ·simp [e3]
    ·simp [m2,KG]
    ·simp [m3,KG]
    ·simp [hpr,XG]
    ·simp
    ·simp [kZ]
    ·simp
    ·simp [e8]
    ·simp [hpr]
    ·simp [e9]
    ·simp [e44]
    ·simp [oz]
    ·simp
 ·have ga:¬ (j:Int)<qs.length:=by omega
  rw [yB (by omega)] at e6 e7 ob;simp [PD,-J,-y4,-y3,y0,oz,e46,ga];refine hk _ _ ⟨rfl,⟨?_,?_,?_,?_,?_,?_,?_,?_,?_,?_⟩,?_⟩
  ·simp [e2]
  ·simp [e3]
  ·simp [m2]
  ·simp [m3]
  ·simp [e6]
  ·simpa using a6
  ·simp [e7]
  ·simpa using a7
  ·simp [e8]
  ·simp [ob]
  ·simp [e9]
theorem reached_ev {w r:FI} {nx:Pr->List Pr} {rs:Pr->Int} (hF:SimF w r nx rs) {p:Pr} (hp:rP w.types.length r.types.length p):gA 64 [.agg (JG w p.1),.agg (JG r p.2)] (.tup [.sl false ((FJ (CO nx p)).map XG),.sl false ((CO nx p).map kZ)]):=by
 refine rA (c:=rG) rfl rfl ?_;have bc:∀ i,(jI nx p i).length<=1024:=fun i=>by
  have h1:=bfs_len hp hF.rng i;have h2:w.types.length * r.types.length<=32 * 32:=Nat.mul_le_mul hF.wl hF.rl;omega
 simp [rG,-J,-y4,-y3,y0,JG,cG,dJ,HG,wL,AV.flat,AV.scal,UG];refine RA 1024 (fun i s=>ReI w r p.1 p.2 (jI nx p i) s/\(s.env 9).v=.int .i64 i/\i<=(jI nx p i).length)
  (fun e s=>e=.exit 0/\ReI w r p.1 p.2 (CO nx p) s) (fun i hi s k h ih hk=>?_) _ _ ?_ (fun e s h=>?_)
 ·obtain ⟨hI,e9,wd⟩:=h;have hI':=hI;obtain ⟨e2,e3,m2,m3,e6,a6,e7,a7,e8,ob⟩:=hI;refine iA ?_;simp only [KG] at m2 m3;have aw:=bc i;have ti:(FJ (jI nx p i)).length=(jI nx p i).length:=by simp [FJ]
  by_cases fa:i<(jI nx p i).length
  ·have ga:(i:Int)<(jI nx p i).length:=by omega
   obtain ⟨e0,sf⟩:∃ e0,(jI nx p i)[i]?=some e0:=⟨_,y5 fa⟩;have g1:((FJ (jI nx p i)).map XG)[i]?=some (XG e0.1):=by simp [FJ,sf]
   have zy:=ZN hp hF.rng i e0.1 (Y00 (yh sf));have hsu:=hF.suc e0.1 zy;have hnl:=hF.len e0.1 zy;have hw:=WB (i:=i);have lc:jI nx p (i + 1)=(nx e0.1).foldl (zM e0.2.1 i) (jI nx p i):=by rw [jI,sf]
   have gq:=bc (i + 1);have hil2:i + 1<=(jI nx p (i + 1)).length:=by
    obtain ⟨t,ht⟩:=C3 nx p i;rw [ht,yz];omega
   simp only [gA,GA,XG] at hsu g1;generalize nx e0.1=qs at *
   simp [TG,-J,-y4,-y3,y0,e2,e3,e6,e9,m2,m3,ti,ga,g1,hsu];refine reach_in w r p.1 p.2 e0.2.1 i (by omega) qs (by omega) qs.isEmpty (jI nx p i) (by omega) _ ⟨?_,?_,?_,?_,?_,?_,?_,?_,?_,?_⟩ ?_ ?_ ?_ ?_ _ (fun s' h' e9'=>?_)
   ·simp [e2]
   ·simp [e3]
   ·simp [m2,KG]
   ·simp [m3,KG]
   ·simp [e6]
   ·simpa using a6
   ·simp [e7]
   ·simpa using a7
   ·simp [e8]
   ·simp [ob]
   ·simp [e9]
   ·simp
   ·simp
   ·simp
   ·rw [<- lc] at h';obtain ⟨e2,e3,m2,m3,e6,a6,e7,a7,e8,ob⟩:=h';simp [-J,-y4,-y3,y0,e9',hw];refine ih (by omega) _ ⟨⟨?_,?_,?_,?_,?_,?_,?_,?_,?_,?_⟩,?_,hil2⟩
    ·simp [e2]
    ·simp [e3]
    ·simp [m2]
    ·simp [m3]
    ·simp [e6]
    ·simpa using a6
    ·simp [e7]
    ·simpa using a7
    ·simp [e8]
    ·simp [ob]
    ·simp
  ·have ga:¬ (i:Int)<(jI nx p i).length:=by omega
   rw [<- bfsE_of (nx:=nx) (p:=p) (i:=i) (by omega) hi] at hI';simp [TG,-J,-y4,-y3,y0,e6,e9,ti,ga];obtain ⟨e2,e3,m2,m3,e6,a6,e7,a7,e8,ob⟩:=hI';refine hk _ _ ⟨rfl,⟨?_,?_,?_,?_,?_,?_,?_,?_,?_,?_⟩⟩
   ·simp [e2]
   ·simp [e3]
   ·simp [m2]
   ·simp [m3]
   ·simp [e6]
   ·simpa using a6
   ·simp [e7]
   ·simpa using a7
   ·simp [e8]
   ·simp [ob]
 ·refine ⟨⟨?_,?_,?_,?_,?_,.inl ?_,?_,.inl ?_,?_,?_⟩,?_,?_⟩ <;> simp [KG,jI,FJ,XG,kZ,DN]
 ·obtain ⟨rfl,hI⟩:=h;obtain ⟨e2,e3,m2,m3,e6,a6,e7,a7,e8,ob⟩:=hI;simp [-J,-y4,-y3,y0,e6,e7]
def SK (nx:Pr->List Pr) (rs:Pr->Int) (p:Pr):Bool:=(FJ (CO nx p)).all fun q=>decide (rs q=0)
def jY (e:Int) (n:Nat) (i:Int):Int:=if e=0 then (if i<0\/(n:Int)<=i then 4 else 0) else e
def mQ (e f:Int) (n m:Nat) (i k:Int):Int:=if jY e n i=0 then jY f m k else jY e n i
def K3 (s:FI) (e:Int):Prop:=gA 20 [.agg (GA s)] (.int .i64 e)
theorem sone_ev {s:FI} {e:Int} (h:K3 s e) (i:Int):gA 103 [.agg (GA s),.int .i64 i] (.int .i64 (jY e s.types.length i)):=by
 have h1:=h;refine rA (c:=ZD) rfl rfl ?_;simp only [K3,gA,GA] at h1 ⊢;unfold jY;by_cases h0:e=0
 case neg=>simp [ZD,-J,-y4,-y3,y0,h1,h0]
 subst h0;by_cases c1:i<0
 ·simp [ZD,-J,-y4,-y3,y0,h1,c1]
 ·by_cases c2:(s.types.length:Int)<=i
  ·simp [ZD,-J,-y4,-y3,y0,h1,c1,c2]
  ·simp [ZD,-J,-y4,-y3,y0,h1,c1,c2]
theorem both_ev {w r:FI} {e f:Int} (hw:K3 w e) (hr:K3 r f) (i k:Int):gA 61 [.agg (JG w i),.agg (JG r k)] (.int .i64 (mQ e f w.types.length r.types.length i k)):=by
 have h1:=sone_ev hw i;have h2:=sone_ev hr k;refine rA (c:=kG) rfl rfl ?_;simp only [gA,GA] at h1 h2;unfold mQ;by_cases c:jY e w.types.length i=0
 ·rw [c] at h1;simp [kG,-J,-y4,-y3,y0,JG,h1,h2,c]
 ·simp [kG,-J,-y4,-y3,y0,JG,h1,h2,c]
theorem botE_in {e f:Int} {n m:Nat} {i k:Int} (h:mQ e f n m i k=0):e=0/\f=0/\rP n m (i,k):=by
 unfold mQ jY at h;unfold rP;simp only;by_cases he:e=0
 ·by_cases hf:f=0
  ·subst he; subst hf;simp only [if_true] at h;by_cases c1:i<0\/(n:Int)<=i
   ·rw [if_pos c1] at h; simp at h
   ·by_cases c2:k<0\/(m:Int)<=k
    ·rw [if_neg c1,if_pos c2] at h; simp at h
    ·exact ⟨rfl,rfl,by omega⟩
  ·subst he;simp only [if_true,if_neg hf] at h;by_cases c1:i<0\/(n:Int)<=i
   ·rw [if_pos c1] at h; simp at h
   ·rw [if_neg c1] at h; simp at h; exact absurd h hf
 ·simp only [if_neg he] at h;exact absurd h he
theorem free_pr (l:List Pr):UD (l.map XG)=true:=DK XG l fun p=>by simp [XG,AV.free0]
theorem rev_ext {l cur:List Pr} {i:Nat} (hl:cur.length=l.length) (h:∀ x,x<l.length->cur[x]?=if x<i\/l.length - i<=x then l[l.length - 1 - x]? else l[x]?) (hi:l.length<=2 * i + 1) (si:2 * i<=l.length):cur=l.reverse:=by
 refine List.ext_getElem? fun x=>?_
 by_cases hx:x<l.length
 ·rw [h x hx,List.getElem?_reverse hx];split
  ·rfl
  ·rename_i hc;have:x=l.length - 1 - x:=by omega
   rw [<- this]
 ·rw [yY (by omega),yY (by simp; omega)]
theorem reverse_ev {r:RV} (l:List Pr) (hl:l.length<=1000000) {t n c:Nat} {a:An} (s0:aA) (hm:s0.mem t n=some (kA (l.map XG))) (k:wA->aA->Option RV)
  (hk:∀ y s',s'.mem t n=some (kA (l.reverse.map XG))->(∀ t' n',¬ (t'=t/\n'=n)->s'.mem t' n'=s0.mem t' n')->s'.gh=s0.gh->k y s'=some r) :
  evH jA tA 68 [⟨.ref t n 2 0 l.length c,a⟩] s0 k=some r:=by
 refine KT aE rfl rfl ?_;have hw0:IntKind.i64.wrap ((l.length:Int) - 1)=(l.length:Int) - 1:=IntWalk.i64_in _ (by omega);simp [aE,-J,-y4,-y3,y0,hw0];refine RA l.length (fun i s=>(s.env 0).v=.ref t n 2 0 l.length c/\(s.env 2).v=.int .i64 i/\(s.env 3).v=.int .i64 ((l.length:Int) - 1 - i)/\2 * i<=l.length/\(∀ t' n',¬ (t'=t/\n'=n)->s.mem t' n'=s0.mem t' n')/\s.gh=s0.gh/\∃ cur:List Pr,cur.length=l.length/\(∀ x,x<l.length->cur[x]?=if x<i\/l.length - i<=x then l[l.length - 1 - x]? else l[x]?)/\s.mem t n=some (kA (cur.map XG)))
  (fun e s=>e=.exit 0/\(∀ t' n',¬ (t'=t/\n'=n)->s.mem t' n'=s0.mem t' n')/\s.gh=s0.gh/\s.mem t n=some (kA (l.reverse.map XG))) (fun i hi s k h ih hk=>?_) _ _ ?_ (fun e s h=>?_)
 ·obtain ⟨e0,e2,e3,h2,ly,hg,cur,fc,hcx,hm⟩:=h;refine iA ?_;obtain ⟨z,hz⟩:∃ z:Int,z=(l.length:Int) - 1 - i:=⟨_,rfl⟩;rw [<- hz] at e3;by_cases fa:(i:Int)<z
  ·have hj:z.toNat=l.length - 1 - i:=by omega
   have ic:0<=z:=by omega
   have ki:z.toNat<cur.length:=by omega
   have hzl':z<(l.length:Int):=by omega
   have wd:i<cur.length:=by omega
   have hzt:z.toNat<l.length:=by omega
   have xf:i<l.length:=by omega
   have hil':(i:Int)<(l.length:Int):=by omega
   obtain ⟨p,hp⟩:∃ p,cur[i]?=some p:=⟨_,y5 wd⟩;obtain ⟨q,hq⟩:∃ q,cur[z.toNat]?=some q:=⟨_,y5 ki⟩;have br:IntKind.i64.wrap (z - 1)=(l.length:Int) - 1 - ((i + 1:Nat):Int):=by rw [IntWalk.i64_in _ (by omega)]; omega
   have jl:=WB (i:=i);have l1:RB true 2 (i * 2) (kA (cur.map XG))=some ⟨.agg [.int .i64 p.1,.int .i64 p.2],.no⟩:=AY (bP cur) (by rw [yc,hp]; rfl);have l2:RB true 2 (z.toNat * 2) (kA (cur.map XG))=some ⟨.agg [.int .i64 q.1,.int .i64 q.2],.no⟩:=AY (bP cur) (by rw [yc,hq]; rfl);have s1:UA true 2 (i * 2) (kA (cur.map XG)) (.agg [.int .i64 q.1,.int .i64 q.2]) .no=some (kA ((cur.set i q).map XG)):=by
    rw [GV (bP cur) (by simpa using wd) rfl,List.map_set]; rfl
   have s2:UA true 2 (z.toNat * 2) (kA ((cur.set i q).map XG)) (.agg [.int .i64 p.1,.int .i64 p.2]) .no=some (kA (((cur.set i q).set z.toNat p).map XG)):=by
    rw [GV (bP _) (by simpa using ki) rfl]; simp only [List.map_set]; rfl
   have nf:∀ x,x<l.length->((cur.set i q).set z.toNat p)[x]?=if x<i + 1\/l.length - (i + 1)<=x then l[l.length - 1 - x]? else l[x]?:=fun x hx=>by
    rw [List.getElem?_set];by_cases c1:z.toNat=x
    ·rw [if_pos c1,if_pos (by simp; omega),if_pos (.inr (by omega)),<- hp,hcx i (by omega),if_neg (by omega),show l.length - 1 - x=i from by omega]
    ·rw [if_neg c1,List.getElem?_set];by_cases c2:i=x
     ·rw [if_pos c2,if_pos wd,if_pos (.inl (by omega)),<- hq,hcx _ (by omega),if_neg (by omega),show l.length - 1 - x=z.toNat from by omega]
     ·rw [if_neg c2,hcx x hx];by_cases c3:x<i\/l.length - i<=x
      ·rw [if_pos c3,if_pos (by omega)]
      ·rw [if_neg c3,if_neg (by omega)]
   generalize kA (cur.map XG)=R0 at *
   have tt:((cur.set i q).set z.toNat p).length=l.length:=by simp [fc]
   generalize kA ((cur.set i q).map XG)=R1 at *
   generalize (cur.set i q).set z.toNat p=cur2 at *
   simp [LE,-J,-y4,-y3,y0,-RB,-UA,qC,jC,fB,gB,e0,e2,e3,fa,ic,hzl',hil',hzt,xf,hm,l1,l2,s1,s2,br,jl];refine ih (by omega) _ ⟨?_,?_,?_,by omega,?_,?_,cur2,tt,nf,?_⟩
   ·simp [e0]
   ·simp
   ·simp
   ·intro t' n' ma;simp [ma];exact ly t' n' ma
   ·exact hg
   ·simp
  ·simp [LE,-J,-y4,-y3,y0,e2,e3,fa];refine hk _ _ ⟨rfl,ly,hg,?_⟩;rw [<- rev_ext fc hcx (by omega) h2];exact hm
 ·refine ⟨?_,?_,?_,by omega,fun _ _ _=>rfl,rfl,l,rfl,?_,hm⟩
  ·simp
  ·simp
  ·simp
  ·intro x hx;rw [if_neg (by omega)]
 ·obtain ⟨rfl,h1,h2,h3⟩:=h;simp [-J,-y4,-y3,y0,mP,EY,DV];exact hk _ _ h3 h1 h2
def blm (nx:Pr->List Pr) (rs:Pr->Int) (p:Pr):Option pR:=(CO nx p).find? fun e=>!decide (rs e.1=0)
def blmA (rs:Pr->Int):Option pR->AV
 | some e=>.tup [.sl false (e.2.1.map XG),.int .i64 (rs e.1),.int .i64 0]
 | none=>.tup [.sl true [],.int .i64 0,.int .i64 15]
theorem find_at {α:Type} (p:α->Bool):∀ {l:List α} {i:Nat} {x:α},l[i]?=some x->p x=true->(l.take i).any p=false->l.find? p=some x
 | [],i,x,h,_,_=>by simp at h
 | a :: r,0,x,h,hp,_=>by
  simp at h;subst h;simp [List.find?,hp]
 | a :: r,i + 1,x,h,hp,hn=>by
  simp only [List.take_succ_cons,List.any_cons,Bool.or_eq_false_iff] at hn;rw [List.find?_cons,hn.1];exact find_at p (by simpa using h) hp hn.2
theorem find_no {α:Type} (p:α->Bool) {l:List α} (h:l.any p=false):l.find? p=none:=by
 rw [List.find?_eq_none];intro x hx hp;rw [List.any_eq_false] at h;exact h x hx hp
theorem way_len {nx:Pr->List Pr} {p:Pr} {E:List pR} (hE:∀ k e,E[k]?=some e->LR nx p E k e):∀ k e,E[k]?=some e->e.2.1.length<=k + 1:=by
 intro k
 induction k using Nat.strongRecOn with
 | ind k ih =>
  intro e he;rcases (hE k e he).bef with ⟨_,rfl⟩ | ⟨j,h1,_,e',h3,h4,_⟩
  ·simp
  ·have:=ih j h1 e' h3;rw [h4];simp;omega
def pathA (P:List Pr) (x:wA) (s:aA):Prop:=(P=[]/\x.v=.sl true [])\/∃ N,P≠[]/\x.v=.ref 56 N 2 0 P.length P.length/\s.mem 56 N=some (kA (P.map XG))
theorem walk_lp {rv:RV} {nx:Pr->List Pr} {p:Pr} (E:List pR) (hE:∀ k e,E[k]?=some e->LR nx p E k e) (hl:E.length<=1024) {j0:Nat} {e0:pR} (h0:E[j0]?=some e0) (mc:Int) (s:aA)
  (h8:(s.env 8).v=.sl false ((FJ E).map XG)) (h9:(s.env 9).v=.sl false (E.map kZ)) (dt:(s.env 10).v=.int .i64 j0) (ro:(s.env 12).v=.int .i64 mc) (nq:(s.env 13).v=.sl true []) (k:Ex->aA->Option RV)
  (hk:∀ s',(s'.env 12).v=.int .i64 mc->pathA e0.2.1.reverse (s'.env 13) s'->k (.exit 2) s'=some rv):WI jA tA nE s k=some rv:=by
 have hj0:j0<E.length:=(y9.1 h0).1;refine RA (j0 + 1) (fun i s=>(s.env 8).v=.sl false ((FJ E).map XG)/\(s.env 9).v=.sl false (E.map kZ)/\(s.env 12).v=.int .i64 mc/\∃ (z:Int) (P:List Pr),(s.env 10).v=.int .i64 z/\P.length<=i/\pathA P (s.env 13) s/\((z=-1/\P=e0.2.1.reverse)\/∃ (j:Nat) (e:pR),z=(j:Int)/\j + i<=j0/\E[j]?=some e/\P++e.2.1.reverse=e0.2.1.reverse))
  (fun e s=>e=.exit 2/\(s.env 12).v=.int .i64 mc/\pathA e0.2.1.reverse (s.env 13) s) (fun i hi s k h ih hk=>?_) _ _ ⟨h8,h9,ro,_,[],dt,yj _,.inl ⟨rfl,nq⟩,.inr ⟨j0,e0,rfl,by omega,h0,rfl⟩⟩ (fun e s h=>by obtain ⟨rfl,h1,h2⟩:=h; exact hk _ h1 h2)
 obtain ⟨e8,e9,e12,z,P,e10,hPl,hP,hz⟩:=h;refine iA ?_;rcases hz with ⟨rfl,rfl⟩ | ⟨j,e,rfl,hji,hj,hw⟩
 ·simp [nE,-J,-y4,-y3,y0,e10];refine hk _ _ ⟨rfl,by simp [e12],?_⟩;rcases hP with ⟨h1,h2⟩ | ⟨N,h1,h2,h3⟩
  ·exact .inl ⟨h1,by simp [h2]⟩
  ·exact .inr ⟨N,h1,by simp [h2],by simp [h3]⟩
 ·have bi:=(y9.1 hj).1;have g1:((FJ E).map XG)[j]?=some [.int .i64 e.1.1,.int .i64 e.1.2]:=by simp [FJ,hj,XG]
  have g2:(E.map kZ)[j]?=some [.int .i64 e.2.2]:=by simp [hj,kZ]
  have q:=bP P;have qf:=free_pr P;have oa:ZA 16 (P.length + 1)=true:=by rw [xA]; omega
  have bj:zE (kA (P.map XG)) 2 0 P.length=some (P.map XG):=by
   have:=mH q qf;simpa using this
  have ak:(e.2.2=-1/\P++[e.1]=e0.2.1.reverse)\/∃ j' e',e.2.2=((j':Nat):Int)/\j' + (i + 1)<=j0/\E[j']?=some e'/\(P++[e.1])++e'.2.1.reverse=e0.2.1.reverse:=by
   rcases (hE j e hj).bef with ⟨_,rfl⟩ | ⟨j',h1,h2,e',h3,h4,_⟩
   ·exact .inl ⟨rfl,hw⟩
   ·refine .inr ⟨j',e',h2,by omega,h3,?_⟩;rw [h4,List.reverse_append] at hw;simpa using hw
  rcases hP with ⟨rfl,nq⟩ | ⟨N,ma,nq,hm⟩
  ·simp [nE,-J,-y4,-y3,y0,e8,e9,e10,nq,g1,g2,LF];refine ih (by omega) _ ⟨?_,?_,?_,e.2.2,[e.1],?_,?_,.inr ⟨s.next + 1,by simp,?_,?_⟩,ak⟩
   ·simp [e8]
   ·simp [e9]
   ·simp [e12]
   ·simp
   ·simp
   ·simp
   ·simp [kA,XG]
  ·have na:∀ b,kA (P.map XG++[[AV.int .i64 e.1.1,AV.int .i64 e.1.2]])=kA ((P++[e.1]).map XG)\/b:=fun b=>.inl (by simp [XG])
   generalize hR:kA (P.map XG)=R0 at *
   simp [nE,-J,-y4,-y3,y0,e8,e9,e10,nq,g1,g2,oa,hm,bj,Cl.okMem];refine ih (by omega) _ ⟨?_,?_,?_,e.2.2,P++[e.1],?_,?_,.inr ⟨s.next + 1,by simp,?_,?_⟩,ak⟩
   ·simp [e8]
   ·simp [e9]
   ·simp [e12]
   ·simp
   ·simp; omega
   ·simp
   ·simp [XG]
theorem sblame_ev {w r:FI} {e f i k:Int} (hw:K3 w e) (hr:K3 r f) {nx:Pr->List Pr} {rs:Pr->Int} (hF:mQ e f w.types.length r.types.length i k=0->SimF w r nx rs):gA 34 [.agg (JG w i),.agg (JG r k)] (if mQ e f w.types.length r.types.length i k=0 then blmA rs (blm nx rs (i,k)) else .tup [.sl true [],.int .i64 0,.int .i64 (mQ e f w.types.length r.types.length i k)]):=by
 have h1:=both_ev hw hr i k;refine rA (c:=SF) rfl rfl ?_;simp only [gA,JG] at h1;by_cases c:mQ e f w.types.length r.types.length i k=0
 case neg =>
  rw [if_neg c];simp [SF,-J,-y4,-y3,y0,JG,h1,c]
 rw [if_pos c];have hF:=hF c;obtain ⟨he,hf,hp⟩:=botE_in c;have h2:=reached_ev hF hp;have hfull:=M5 hp hF.rng hF.wl hF.rl;have zy:∀ q∈FJ (CO nx (i,k)),rP w.types.length r.types.length q:=ZN hp hF.rng 1024;have sa:=l9 nx (i,k) 1024;rw [c] at h1;unfold blm;change ∀ k_1 e,(CO nx (i,k))[k_1]?=some e->LR nx (i,k) (CO nx (i,k)) k_1 e at sa;generalize CO nx (i,k)=E at *
 have ti:(FJ E).length=E.length:=by simp [FJ]
 simp only [gA,JG] at h2;simp [SF,-J,-y4,-y3,y0,JG,h1,h2,ti];refine RA E.length (fun j s=>(s.env 2).v=.ptr 2 1 0/\(s.env 3).v=.ptr 3 1 0/\s.mem 2 1=some (KG w i)/\s.mem 3 1=some (KG r k)/\(s.env 8).v=.sl false ((FJ E).map XG)/\(s.env 9).v=.sl false (E.map kZ)/\(s.env 26).v=.sl false ((FJ E).map XG)/\(s.env 27).v=.int .i64 E.length/\(s.env 28).v=.int .i64 j/\(E.take j).any (fun e=>!decide (rs e.1=0))=false)
  (fun e s=>(e=.exit 0/\E.find? (fun e=>!decide (rs e.1=0))=none)\/(e=.ret/\∃ (e0:pR) (N:Nat),E.find? (fun e=>!decide (rs e.1=0))=some e0/\(s.env 4).v=.ref 56 N 2 0 e0.2.1.reverse.length e0.2.1.reverse.length/\s.mem 56 N=some (kA (e0.2.1.map XG))/\(s.env 5).v=.int .i64 (rs e0.1)/\(s.env 6).v=.int .i64 0)) (fun j hj s k' h ih hk=>?_) _ _ ?_ (fun e s h=>?_)
 ·obtain ⟨e2,e3,m2,m3,e8,e9,ey,e27,e28,ul⟩:=h;refine iA ?_;simp only [KG] at m2 m3;by_cases fa:j<E.length
  ·have ga:(j:Int)<E.length:=by omega
   obtain ⟨e0,sf⟩:∃ e0,E[j]?=some e0:=⟨_,y5 fa⟩;have g1:((FJ E).map XG)[j]?=some [.int .i64 e0.1.1,.int .i64 e0.1.2]:=by simp [FJ,sf,XG]
   have jw:=hF.rsn e0.1 (zy _ (Y00 (yh sf)));have ez:=WB (i:=j);simp only [gA,GA] at jw;by_cases c0:rs e0.1=0
   ·rw [c0] at jw;simp [RF,-J,-y4,-y3,y0,e2,e3,m2,m3,ey,e27,e28,ga,g1,jw,ez];refine ih fa _ ⟨?_,?_,?_,?_,?_,?_,?_,?_,?_,?_⟩
    ·simp [e2]
    ·simp [e3]
    ·simp [m2,KG]
    ·simp [m3,KG]
    ·simp [e8]
    ·simp [e9]
    ·simp [ey]
    ·simp [e27]
    ·simp
    ·rw [D0 _ E fa,ul];obtain ⟨_,hh⟩:=y9.1 sf;rw [hh];simp [c0]
   ·have hfd:=find_at (fun e:pR=>!decide (rs e.1=0)) sf (by simp [c0]) ul;simp [RF,-J,-y4,-y3,y0,e2,e3,m2,m3,e8,ey,e27,e28,ga,g1,jw,c0,ez];refine walk_lp E sa hfull sf (rs e0.1) _ ?_ ?_ ?_ ?_ ?_ _ (fun s' f12 f13=>?_)
    ·simp [e8]
    ·simp [e9]
    ·simp
    ·simp
    ·simp
    ·have ma:e0.2.1.reverse≠[]:=by
      rcases (sa j e0 sf).bef with ⟨_,rfl⟩ | ⟨_,_,_,e',_,h4,_⟩
      ·simp
      ·rw [h4]; simp
     rcases f13 with ⟨h,_⟩ | ⟨N,_,f13,fm⟩
     ·exact absurd h ma
     have fh:e0.2.1.reverse.length<=1000000:=by
      have:=way_len sa j e0 sf;simp;omega
     simp [-J,-y4,-y3,y0,f13];have hlr:e0.2.1.length=e0.2.1.reverse.length:=by simp
     rw [hlr];refine reverse_ev e0.2.1.reverse fh _ ?_ _ (fun y s2 bq _ hg2=>?_)
     ·simp [fm]
     ·have g12:(s2.gh 12).v=.int .i64 (rs e0.1):=by rw [hg2]; simp [f12]
      have g13:(s2.gh 13).v=.ref 56 N 2 0 e0.2.1.reverse.length e0.2.1.reverse.length:=by rw [hg2]; simp [f13]
      rw [List.reverse_reverse] at bq;simp [-J,-y4,-y3,y0,g12,g13];refine hk _ _ (.inr ⟨rfl,e0,N,hfd,?_,?_,?_,?_⟩)
      ·simp
      ·simp [bq]
      ·simp
      ·simp
  ·have ga:¬ (j:Int)<E.length:=by omega
   simp [RF,-J,-y4,-y3,y0,e27,e28,ga];rw [yB (by omega)] at ul;exact hk _ _ (.inl ⟨rfl,find_no _ ul⟩)
 ·refine ⟨?_,?_,?_,?_,?_,?_,?_,?_,?_,?_⟩ <;> simp [KG]
 ·rcases h with ⟨rfl,hn⟩ | ⟨rfl,e0,N,hs,e4,hm,e5,e6⟩
  ·rw [hn];simp [-J,-y4,-y3,y0,blmA]
  ·have bj:zE (kA (e0.2.1.map XG)) 2 0 e0.2.1.length=some (e0.2.1.map XG):=by
    have:=mH (bP e0.2.1) (free_pr e0.2.1);simpa using this
   simp at e4;rw [hs];simp [-J,-y4,-y3,y0,blmA,e4,e5,e6,hm,bj]
theorem l6 (nx:Pr->List Pr) (rs:Pr->Int) (p:Pr):(blm nx rs p=none ↔ SK nx rs p=true):=by
 unfold blm SK FJ;rw [List.find?_eq_none,List.all_map,y6];constructor
 ·intro h x hx;have:=h x hx;simpa using this
 ·intro h x hx;have:=h x hx;simpa using this
theorem scompat_ev {w r:FI} {e f i k:Int} (hw:K3 w e) (hr:K3 r f) {nx:Pr->List Pr} {rs:Pr->Int} (hF:mQ e f w.types.length r.types.length i k=0->SimF w r nx rs) (h15:mQ e f w.types.length r.types.length i k≠15):gA 27 [.agg (JG w i),.agg (JG r k)] (.tup [.bool (decide (mQ e f w.types.length r.types.length i k=0)&&SK nx rs (i,k)),.int .i64 (mQ e f w.types.length r.types.length i k)]):=by
 have h1:=sblame_ev hw hr hF;refine rA (c:=CC) rfl rfl ?_;simp only [gA,JG] at h1;by_cases c:mQ e f w.types.length r.types.length i k=0
 ·rw [if_pos c] at h1;cases hb:blm nx rs (i,k) with
  | none =>
   have hf:=(l6 nx rs (i,k)).1 hb;rw [hb] at h1;simp only [blmA] at h1;simp [CC,-J,-y4,-y3,y0,JG,h1,c,hf]
  | some e0 =>
   have hf:SK nx rs (i,k)=false:=by
    cases hq:SK nx rs (i,k) with
    | false=>rfl
    | true=>rw [(l6 nx rs (i,k)).2 hq] at hb; cases hb
   rw [hb] at h1;simp only [blmA] at h1;simp [CC,-J,-y4,-y3,y0,JG,h1,c,hf]
 ·rw [if_neg c] at h1;simp [CC,-J,-y4,-y3,y0,JG,h1,c,h15]
theorem wS {P:Pr->Prop} {nx:Pr->List Pr} {p:Pr} (hp:P p) (hr:∀ p,P p->∀ q∈nx p,P q):∀ i,∀ x∈FJ (jI nx p i),P x
 | 0=>by simp [jI,FJ]; exact hp
 | i + 1=>fun x hx=>by
  rw [jI] at hx;split at hx
  ·rename_i e he;rw [IL,OL] at hx;have hi:e.1∈FJ (jI nx p i):=Y00 (yh he);rcases hx with hx | hx
   ·exact wS hp hr i x hx
   ·exact hr _ (wS hp hr i _ hi) x hx
  ·exact wS hp hr i x hx
theorem fine_suc {n m:Nat} {nx:Pr->List Pr} {rs:Pr->Int} {p:Pr} (hp:rP n m p) (hr:∀ p,rP n m p->∀ q∈nx p,rP n m q) (hn:n<=32) (hm:m<=32) (h:SK nx rs p=true) {q:Pr} (hq:q∈nx p):SK nx rs q=true:=by
 unfold SK at h ⊢;rw [y6] at h ⊢;have hroot:p∈FJ (CO nx p):=Y00 (yh (J0 nx p));have za:=wS (P:=fun x=>x∈FJ (CO nx p)) (p:=q) (gP hp hr hn hm hroot q hq) (fun x hx y hy=>gP hp hr hn hm hx y hy) 1024;exact fun x hx=>h x (za x hx)
def setT (g:Nat->Nat->Bool) (i k:Nat):Nat->Nat->Bool:=fun a b=>if a=i/\b=k then false else g a b
structure TabG (nx:Pr->List Pr) (rs:Pr->Int) (N M:Nat) (g:Nat->Nat->Bool):Prop where
 sub:∀ i k,i<N->k<M->g i k=true->rs ((i:Int),(k:Int))=0
 sup:∀ i k,i<N->k<M->SK nx rs ((i:Int),(k:Int))=true->g i k=true
def outOf (g:Nat->Nat->Bool) (q:Pr):Bool:=!g q.1.toNat q.2.toNat
theorem inP_nat {N M i k:Nat} (hi:i<N) (hk:k<M):rP N M ((i:Int),(k:Int)):=⟨by simp,by simp; omega,by simp,by simp; omega⟩
section
variable {nx:Pr->List Pr} {rs:Pr->Int} {N M:Nat} {g:Nat->Nat->Bool} (h:TabG nx rs N M g) (hr:∀ p,rP N M p->∀ q∈nx p,rP N M q)
include nx rs N M g h hr
theorem TabG.set (hn:N<=32) (hm:M<=32) {i k:Nat} (hi:i<N) (hk:k<M) (hq:(nx ((i:Int),(k:Int))).any (outOf g)=true):TabG nx rs N M (setT g i k):=by
 refine ⟨fun a b ha hb hg=>?_,fun a b ha hb hf=>?_⟩
 ·unfold setT at hg;split at hg
  ·cases hg
  ·exact h.sub a b ha hb hg
 ·unfold setT;split
  ·rename_i e;obtain ⟨rfl,rfl⟩:=e;obtain ⟨q,hq,ho⟩:=List.any_eq_true.1 hq;have hp:=inP_nat ha hb;have pe:=hr _ hp q hq;obtain ⟨h1,h2,h3,h4⟩:=pe;have:=h.sup q.1.toNat q.2.toNat (by omega) (by omega) (by
    rw [Int.toNat_of_nonneg h1,Int.toNat_of_nonneg h3];exact fine_suc hp hr hn hm hf hq)
   simp [outOf,this] at ho
  ·exact h.sup a b ha hb hf
theorem TabG.eq (hc:∀ i k,i<N->k<M->g i k=true->(nx ((i:Int),(k:Int))).any (outOf g)=false) {i k:Nat} (hi:i<N) (hk:k<M):g i k=SK nx rs ((i:Int),(k:Int)):=by
 cases hg:g i k with
 | false =>
  cases hf:SK nx rs ((i:Int),(k:Int)) with
  | false=>rfl
  | true=>rw [h.sup i k hi hk hf] at hg; cases hg
 | true =>
  symm
  unfold SK;rw [y6];have za:=wS (P:=fun x=>rP N M x/\g x.1.toNat x.2.toNat=true) (nx:=nx) (p:=((i:Int),(k:Int))) ⟨inP_nat hi hk,by simpa using hg⟩ (fun x hx y hy=>by
   obtain ⟨h0,h1⟩:=hx;have tv:=hr x h0 y hy;refine ⟨tv,?_⟩;obtain ⟨a1,a2,a3,a4⟩:=h0;have:=hc x.1.toNat x.2.toNat (by omega) (by omega) h1;rw [Int.toNat_of_nonneg a1,Int.toNat_of_nonneg a3,List.any_eq_false] at this;simpa [outOf] using this y hy) 1024
  intro x hx;obtain ⟨⟨a1,a2,a3,a4⟩,h1⟩:=za x hx;have:=h.sub x.1.toNat x.2.toNat (by omega) (by omega) h1;rw [Int.toNat_of_nonneg a1,Int.toNat_of_nonneg a3] at this;exact decide_eq_true this
end
theorem botE_zero {n m:Nat} {i k:Int} (hi:0<=i/\i<n) (hk:0<=k/\k<m):mQ 0 0 n m i k=0:=by
 have h1:jY 0 n i=0:=by unfold jY; simp; omega
 have h2:jY 0 m k=0:=by unfold jY; simp; omega
 unfold mQ;rw [if_pos h1,h2]
end Go.Proofs.YtbhbeakhognieaaGreat
