/- A part of the proof. -/
import Derived.Test.YthnefkpplcmjdaaGreatWp
set_option linter.all false
set_option maxRecDepth 100000
set_option maxHeartbeats 8000000
open Option renaming bind_some → J
open List renaming range_succ → y0, map_map → y3, getElem?_eq_getElem → y7, getElem_mem → y8, getElem?_map → yb, drop_eq_getElem_cons → yc, replicate → yj, cons_append → yv, take_append_getElem → yx, take_of_length_le → yB, nil_append → yF, take_append_drop → yR
open Int renaming toNat_lt → y4
open Bool renaming and_eq_true → y9
open Nat renaming le_trans → yt
namespace Go.Proofs.YthnefkpplcmjdaaGreat
open Go
section
theorem r8:LF .tC=[.bool true,.bool true,.str ⟨#[]⟩,.int .i64 0,.bool false,.int .i64 0,.str ⟨#[]⟩,.int .i64 0,.sl true [],.sl true [],.sl true []]:=rfl
theorem IU:LF .unk=[.bool false,.bool false,.str ⟨#[]⟩,.int .i64 0,.bool false,.int .i64 0,.str ⟨#[]⟩,.int .i64 0,.sl true [],.sl true [],.sl true []]:=rfl
theorem zH.fine {S:List BC}(h:zH S)(sn:Bool):(⟨sn,S⟩:dR).fine:=⟨by have:=h.len;show S.length<=_;omega,fun t ht=>(h.good t ht).2⟩
section
variable (sn:Bool) {S:List BC} (hS:zH S) (xb:∀ x∈S,x.qA.length<=12) {i:Nat} (hi:i<S.length) {v:Vl} (hp:tH S i v=true) (ho:v.ok) (ub:v.i64)
include hS hi
theorem Af:IC 119 [MD sn S,.int .i64 i] (.int .i64 0):=by
 have hv:=W1 ⟨sn,S⟩ (hS.fine sn);have h1:¬(i:Int)<0:=by omega
 have h2:¬(S.length:Int)<=i:=by omega
 rw[show mH (⟨sn,S⟩:dR).types=0 from hS.val]at hv;simp only[IC,pD]at hv;refine mC (c:=nJ) rfl rfl ?_;simp[nJ,-J,-y4,-y3,y0,hv,h1,h2,hi]
include hp ho ub
theorem EY:IC 67 [MD sn S,.int .i64 i,.agg (TC v)] (.int .i64 0):=by
 have h1:=Af sn hS hi;have h2:=Hf sn S hS.good (SizeOf.sizeOf v+1) i v hp ho ub;have h3:IC 120 [MD sn S,.int .i64 i,.agg (TC v)] (.bool true):=by
  simp only[IC,nC]at h2;refine mC (c:=QN) rfl rfl ?_;rw[nC];simp[QN,-J,-y4,-y3,y0,h2]
 simp only[IC,nC]at h1 h3;refine mC (c:=bJ) rfl rfl ?_;rw[nC];simp[bJ,-J,-y4,-y3,y0,h1,h3]
include xb
theorem Tt (ra:(hJ S i v).size<=1000000):HK sn S i v (hJ S i v) (LM S i v)/\JK sn S i v (hJ S i v):=by
 have h:=Xn sn S hS.good xb (SizeOf.sizeOf v+1) i v hp ho ub (by
  have:(ZJ S (SizeOf.sizeOf v+1) i v)=hJ S i v:=rfl;rw[this];omega)
 exact h
theorem Sf (ra:(hJ S i v).size<=1000000)(hd:LM S i v<=200):IC 29 [MD sn S,.int .i64 i,.agg (TC v)] (.sA [.int .i64 (hJ S i v).size,.int .i64 0]):=by
 have h1:=EY sn hS hi hp ho ub;have h2:=(Tt sn hS xb hi hp ho ub ra).1 1 0 (by omega) (by omega);simp only[IC,nC,mV]at h1 h2;refine mC (c:=kM) rfl rfl ?_;rw[nC];simp[kM,-J,-y4,-y3,y0,JD,AF,SE,eH,lD,h1,h2]
theorem Su (ra:(hJ S i v).size<=4096)(hd:LM S i v<=200):IC 30 [MD sn S,.int .i64 i,.agg (TC v)] (.sA [.str (hJ S i v),.int .i64 0]):=by
 have h1:=EY sn hS hi hp ho ub;have h2:=(Tt sn hS xb hi hp ho ub (by omega)).1 1 0 (by omega) (by omega);have h3:¬(4096:Int)<(hJ S i v).size:=by omega
 obtain⟨z,hz⟩:∃z:Int,z=max 0 (1+((LM S i v:Nat):Int)-1):=⟨_,rfl⟩;rw[<- hz]at h2;have h4:¬(200:Int)<z:=by omega
 simp only[IC,nC,mV]at h1 h2;refine mC (c:=pK) rfl rfl ?_;rw[nC];simp[pK,-J,-y4,-y3,y0,JD,AF,SE,eH,lD,h1,h2,h3,h4]
theorem Ov (ra:(hJ S i v).size<=4096)(hd:LM S i v<=200):IC 252 [MD sn S,.int .i64 i,.agg (TC v)] (.str (hJ S i v)):=by
 have h1:=Su sn hS xb hi hp ho ub ra hd;simp only[IC,nC]at h1;refine mC (c:=FI) rfl rfl ?_;rw[nC];simp[FI,-J,-y4,-y3,y0,h1]
theorem DV (ra:(hJ S i v).size<=1000000)(hd:LM S i v<=200):IC 228 [MD sn S,.int .i64 i,.agg (TC v)] (.agg (LF (TN S i v))):=by
 have h1:=Sf sn hS xb hi hp ho ub ra hd;by_cases c:4096<(hJ S i v).size
 ·have c':(4096:Int)<(hJ S i v).size:=by omega
  have hf:TN S i v=.tC:=by unfold TN;rw[if_pos c]
  rw[hf,r8];simp only[IC,nC]at h1;refine mC (c:=PG) rfl rfl ?_;rw[nC];simp[PG,-J,-y4,-y3,y0,h1,c']
 ·have c':¬ (4096:Int)<(hJ S i v).size:=by omega
  have h2:=Ov sn hS xb hi hp ho ub (by omega) hd;have hf:TN S i v=⟨true,false,hJ S i v,v,LM S i v⟩:=by unfold TN;rw[if_neg c]
  rw[hf];simp only[IC,nC]at h1 h2;refine mC (c:=PG) rfl rfl ?_;rw[nC];simp[PG,-J,-y4,-y3,y0,h1,h2,c',LF]
end
theorem l3 (a b:LT):IC 164 [.agg (LF a),.agg (LF b)] (.bool (nF a b)):=by
 refine mC (c:=lE) rfl rfl ?_;unfold LF nF ZH;cases h1:a.known
 ·cases h2:b.known<;>simp[lE,-J,-y4,-y3,y0]
 cases h2:b.known
 ·simp[lE,-J,-y4,-y3,y0]
 cases h3:a.long
 ·cases h4:b.long
  ·by_cases c1:a.p.size<b.p.size
   ·have uf:(a.p.size:Int)<b.p.size:=by omega
    simp[lE,-J,-y4,-y3,y0,c1,uf]
   ·have uf:¬ (a.p.size:Int)<b.p.size:=by omega
    by_cases c2:a.p.size=b.p.size
    ·have bo:(a.p.size:Int)=b.p.size:=by omega
     simp[lE,-J,-y4,-y3,y0,c1,uf,c2,bo,fO]
    ·have bo:¬ (a.p.size:Int)=b.p.size:=by omega
     simp[lE,-J,-y4,-y3,y0,c1,uf,c2,bo]
  ·simp[lE,-J,-y4,-y3,y0]
 ·cases h4:b.long<;>simp[lE,-J,-y4,-y3,y0]
theorem Sq (low high:Int):IC 227 [.int .i64 low,.int .i64 high] (.int .i64 (j8 low high)):=by
 refine mC (c:=jH) rfl rfl ?_;unfold j8;by_cases c1:0<low
 ·simp[jH,-J,-y4,-y3,y0,c1]
 ·by_cases c2:high<0<;>simp[jH,-J,-y4,-y3,y0,c1,c2]
end
section
def LK (N:Nat)(l:TS):List (List AV):=(List.range N).map fun j=>LF (l j)
theorem dY {N:Nat}(l:TS){j:Nat}(h:j<N):(LK N l)[j]?=some (LF (l j)):=by simp[LK,h]
theorem b5 (N:Nat)(l:TS):PD 11 (LK N l)=true:=rG _ _ _ fun _=>rfl
theorem Jg (N:Nat)(l:TS):WM (LK N l)=true:=qP _ _ fun _=>rfl
theorem Bt (N:Nat)(l:TS):(LK N l).length=N:=by simp[LK]
theorem Jl (k id:Int)(u:Vl):TC (kR k id u)=[.int .i64 k,.bool false,.int .i64 0,.str ⟨#[]⟩,.int .i64 id,.sl true [],.sl false [TC u],.sl true []]:=by rw[nC];rfl
theorem Kl (k:Int)(us:List Vl):TC (NR k us)=[.int .i64 k,.bool false,.int .i64 0,.str ⟨#[]⟩,.int .i64 0,.sl true [],.sl us.isEmpty (us.map TC),.sl true []]:=by rw[nC];rfl
theorem Kp (x:BC):TC (wP x)=[.int .i64 x.kind,.bool false,.int .i64 (if x.kind=2 then j8 x.low x.high else 0),.str ⟨#[]⟩,.int .i64 (if x.kind=2 then 0 else if x.kind=4 then(match x.tA with|m::_=>m.id | []=>0)else 0),.sl true [],.sl true [],.sl true []]:=by
 unfold wP;by_cases h2:x.kind=2
 ·simp[h2,A6,eB]
 ·by_cases h4:x.kind=4
  ·simp[h2,h4,A6,eB];rfl
  ·simp[h2,h4,A6,eB]
def CP:List WC:=[⟨.bool false,.no⟩,⟨.bool false,.no⟩,⟨.str ⟨#[]⟩,.no⟩,⟨.int .i64 0,.no⟩,⟨.bool false,.no⟩,⟨.int .i64 0,.no⟩,⟨.str ⟨#[]⟩,.no⟩,⟨.int .i64 0,.no⟩,⟨.sl true [],.ex⟩,⟨.sl true [],.ex⟩,⟨.sl true [],.ex⟩]
section
variable (sn:Bool) {S:List BC} {i:Nat} {x:BC} {l:TS}
structure H6 (sn:Bool)(S:List BC)(i:Nat)(x:BC)(l:TS)(s:OC):Prop where
 e1:(s.env 1).v=.int .i64 i
 e3:(s.env 3).v=.bl (LK S.length l)
 e4:(s.env 4).v=.ptr 4 1 0
 m4:s.mem 4 1=some [⟨.sl sn (S.map QC),.no⟩]
 e8:(s.env 8).v=.ptr 8 1 0
 m8:s.mem 8 1=some CP
def Fz (ws:List Vl)(r:List WC):Prop:=(ws=[]/\∃a,r=[⟨.int .i64 5,.no⟩,⟨.bool false,.no⟩,⟨.int .i64 0,.no⟩,⟨.str ⟨#[]⟩,.no⟩,⟨.int .i64 0,.no⟩,⟨.sl true [],.no⟩,⟨.sl true [],a⟩,⟨.sl true [],.no⟩]) ∨
 (ws≠[]/\r=[⟨.int .i64 5,.no⟩,⟨.bool false,.no⟩,⟨.int .i64 0,.no⟩,⟨.str ⟨#[]⟩,.no⟩,⟨.int .i64 0,.no⟩,⟨.sl true [],.no⟩,⟨.sl false (ws.map TC),.own 72 39⟩,⟨.sl true [],.no⟩])
theorem Pv {rv:RV}(hS:zH S)(g:S[i]?=some x)(s:OC)(h:H6 sn S i x l s)(e10:(s.env 10).v=.bool false)(e9:(s.env 9).v=.ptr 9 2 0)(m9:∃r,s.mem 9 2=some r/\Fz [] r)(xf:(s.env 42).v=.sl x.mn (x.qA.map uD))(mf:(s.env 43).v=.int .i64 x.qA.length)(dk:(s.env 44).v=.int .i64 0)(k:Ex->OC->Option RV)
  (hk:∀s' lg ws r,DJ l x.qA false []=some (lg,ws)->H6 sn S i x l s'->(s'.env 10).v=.bool lg->(s'.env 9).v=.ptr 9 2 0->s'.mem 9 2=some r->Fz ws r->k (.exit 1) s'=some rv)
  (hr:∀s':OC,DJ l x.qA false []=none->(s'.env 8).v=.ptr 8 1 0->s'.mem 8 1=some ((LF .unk).map (⟨·,.no⟩))->k .ret s'=some rv):OL dD PC NC s k=some rv:=by
 have hw16:x.qA.length<=16:=(hS.win x (zH.mem hS g)).few;refine ZC x.qA.length (fun j s=>H6 sn S i x l s/\∃lg ws r,DJ l (x.qA.take j) false []=some (lg,ws)/\ws.length=j/\(s.env 10).v=.bool lg/\(s.env 9).v=.ptr 9 2 0/\s.mem 9 2=some r/\Fz ws r/\(s.env 42).v=.sl x.mn (x.qA.map uD)/\(s.env 43).v=.int .i64 x.qA.length/\(s.env 44).v=.int .i64 j)
  (fun e s=>(e=.exit 1/\∃lg ws r,DJ l x.qA false []=some (lg,ws)/\H6 sn S i x l s/\(s.env 10).v=.bool lg/\(s.env 9).v=.ptr 9 2 0/\s.mem 9 2=some r/\Fz ws r)\/(e=.ret/\DJ l x.qA false []=none/\(s.env 8).v=.ptr 8 1 0/\s.mem 8 1=some ((LF .unk).map (⟨·,.no⟩)))) (fun j hj s kk h ih wb=>?_) _ _ ?_ (fun e s h=>?_)
 ·obtain ⟨⟨e1,e3,e4,m4,e8,m8⟩,lg,ws,r,xg,zg,e10,e9,m9,ha,xf,mf,dk⟩:=h;refine EC ?_;by_cases fa:j<x.qA.length
  ·have ga:(j:Int)<x.qA.length:=by omega
   have p1:x.qA[j]?=some x.qA[j]:=y7 fa;have t1:x.qA.take (j+1)=x.qA.take j++[x.qA[j]]:=(yx fa).symm;have t2:x.qA=x.qA.take j++x.qA[j]::x.qA.drop (j+1):=by rw[<- yc fa,yR]
   have hw:=cD (i:=j);have wm:0<=x.qA[j].ty/\x.qA[j].ty<S.length:=(hS.win x (zH.mem hS g)).qA _ (y8 fa);generalize x.qA[j]=m at *
   have g1:(x.qA.map uD)[j]?=some (uD m):=by rw[yb,p1];rfl
   have g2:=dY l (N:=S.length) (j:=m.ty.toNat) (by omega);have oc:=wm.1;have hra:DJ l (x.qA.take (j+1)) false []=DJ l [m] lg ws:=by rw[t1,sV,xg];rfl
   have ta:aE 120 (ws.length+1)=true:=by rw[UD];omega
   have r1:aE 120 1=true:=by decide
   have q:=NO ws;simp only[CP]at m8;simp only[uD]at g1;cases hh:m.has with
   |true =>
    have od:DJ l (x.qA.take (j+1)) false []=some (lg,ws++[m.dflt]):=by rw[hra,DJ,hh,if_pos rfl,DJ]
    rcases ha with⟨ss,a,rfl⟩|⟨ss,rfl⟩
    ·have hj0:j=0:=by rw [<- zg,ss]; rfl
     subst ss;cases lg
     ·skip
      simp[NC,-J,-y4,-y3,y0,e3,e8,e9,m9,e10,xf,mf,dk,ga,g1,g2,oc,hh,hw,LF,r1,ta,q];refine ih fa _ ⟨⟨by simp[e1],by simp[e3],by simp[e4],by simp[m4],by simp[e8],by simp[m8,CP]⟩,false,_,_,od,by simp[<- zg],?_,?_,by simp;rfl,.inr ⟨by simp,by simp[nC]⟩,?_,?_,?_⟩<;>simp[e10,e9,xf,mf]
     ·skip
      simp[NC,-J,-y4,-y3,y0,e3,e8,e9,m9,e10,xf,mf,dk,ga,g1,g2,oc,hh,hw,LF,r1,ta,q];refine ih fa _ ⟨⟨by simp[e1],by simp[e3],by simp[e4],by simp[m4],by simp[e8],by simp[m8,CP]⟩,true,_,_,od,by simp[<- zg],?_,?_,by simp;rfl,.inr ⟨by simp,by simp[nC]⟩,?_,?_,?_⟩<;>simp[e10,e9,xf,mf]
    ·skip
     cases lg
     ·skip
      simp[NC,-J,-y4,-y3,y0,e3,e8,e9,m9,e10,xf,mf,dk,ga,g1,g2,oc,hh,hw,LF,r1,ta,q];refine ih fa _ ⟨⟨by simp[e1],by simp[e3],by simp[e4],by simp[m4],by simp[e8],by simp[m8,CP]⟩,false,_,_,od,by simp[<- zg],?_,?_,by simp;rfl,.inr ⟨by simp,by simp[nC]⟩,?_,?_,?_⟩<;>simp[e10,e9,xf,mf]
     ·skip
      simp[NC,-J,-y4,-y3,y0,e3,e8,e9,m9,e10,xf,mf,dk,ga,g1,g2,oc,hh,hw,LF,r1,ta,q];refine ih fa _ ⟨⟨by simp[e1],by simp[e3],by simp[e4],by simp[m4],by simp[e8],by simp[m8,CP]⟩,true,_,_,od,by simp[<- zg],?_,?_,by simp;rfl,.inr ⟨by simp,by simp[nC]⟩,?_,?_,?_⟩<;>simp[e10,e9,xf,mf]
   |false =>
    cases zd:(l m.ty.toNat).known with
    |false =>
     have zc:DJ l x.qA false []=none:=by
      rw[t2,sV,xg];simp[DJ,hh,zd]
     rcases ha with⟨ss,a,rfl⟩|⟨ss,rfl⟩
     ·simp[NC,-J,-y4,-y3,y0,e3,e8,m8,e9,m9,e10,xf,mf,dk,ga,g1,g2,oc,hh,zd,LF];exact wb _ _ (.inr ⟨rfl,zc,by simp[e8],by simp[IU]⟩)
     ·simp[NC,-J,-y4,-y3,y0,e3,e8,m8,e9,m9,e10,xf,mf,dk,ga,g1,g2,oc,hh,zd,LF];exact wb _ _ (.inr ⟨rfl,zc,by simp[e8],by simp[IU]⟩)
    |true =>
     have od:DJ l (x.qA.take (j+1)) false []=some (lg||(l m.ty.toNat).long,ws++[(l m.ty.toNat).v]):=by
      rw[hra,DJ,hh,zd];simp[DJ]
     generalize l m.ty.toNat=e at *
     rcases ha with⟨ss,a,rfl⟩|⟨ss,rfl⟩
     ·have hj0:j=0:=by rw [<- zg,ss]; rfl
      subst ss;cases lg
      ·cases xc:e.long with
       |false =>
        rw[xc]at od;simp[NC,-J,-y4,-y3,y0,e3,e8,e9,m9,e10,xf,mf,dk,ga,g1,g2,oc,hh,hw,LF,r1,ta,q,zd,xc];refine ih fa _ ⟨⟨by simp[e1],by simp[e3],by simp[e4],by simp[m4],by simp[e8],by simp[m8,CP]⟩,false,_,_,od,by simp[<- zg],?_,?_,by simp;rfl,.inr ⟨by simp,by simp[nC]⟩,?_,?_,?_⟩<;>simp[e10,e9,xf,mf]
       |true =>
        rw[xc]at od;simp[NC,-J,-y4,-y3,y0,e3,e8,e9,m9,e10,xf,mf,dk,ga,g1,g2,oc,hh,hw,LF,r1,ta,q,zd,xc];refine ih fa _ ⟨⟨by simp[e1],by simp[e3],by simp[e4],by simp[m4],by simp[e8],by simp[m8,CP]⟩,true,_,_,od,by simp[<- zg],?_,?_,by simp;rfl,.inr ⟨by simp,by simp[nC]⟩,?_,?_,?_⟩<;>simp[e10,e9,xf,mf]
      ·cases xc:e.long with
       |false =>
        rw[xc]at od;simp[NC,-J,-y4,-y3,y0,e3,e8,e9,m9,e10,xf,mf,dk,ga,g1,g2,oc,hh,hw,LF,r1,ta,q,zd,xc];refine ih fa _ ⟨⟨by simp[e1],by simp[e3],by simp[e4],by simp[m4],by simp[e8],by simp[m8,CP]⟩,true,_,_,od,by simp[<- zg],?_,?_,by simp;rfl,.inr ⟨by simp,by simp[nC]⟩,?_,?_,?_⟩<;>simp[e10,e9,xf,mf]
       |true =>
        rw[xc]at od;simp[NC,-J,-y4,-y3,y0,e3,e8,e9,m9,e10,xf,mf,dk,ga,g1,g2,oc,hh,hw,LF,r1,ta,q,zd,xc];refine ih fa _ ⟨⟨by simp[e1],by simp[e3],by simp[e4],by simp[m4],by simp[e8],by simp[m8,CP]⟩,true,_,_,od,by simp[<- zg],?_,?_,by simp;rfl,.inr ⟨by simp,by simp[nC]⟩,?_,?_,?_⟩<;>simp[e10,e9,xf,mf]
     ·skip
      cases lg
      ·cases xc:e.long with
       |false =>
        rw[xc]at od;simp[NC,-J,-y4,-y3,y0,e3,e8,e9,m9,e10,xf,mf,dk,ga,g1,g2,oc,hh,hw,LF,r1,ta,q,zd,xc];refine ih fa _ ⟨⟨by simp[e1],by simp[e3],by simp[e4],by simp[m4],by simp[e8],by simp[m8,CP]⟩,false,_,_,od,by simp[<- zg],?_,?_,by simp;rfl,.inr ⟨by simp,by simp[nC]⟩,?_,?_,?_⟩<;>simp[e10,e9,xf,mf]
       |true =>
        rw[xc]at od;simp[NC,-J,-y4,-y3,y0,e3,e8,e9,m9,e10,xf,mf,dk,ga,g1,g2,oc,hh,hw,LF,r1,ta,q,zd,xc];refine ih fa _ ⟨⟨by simp[e1],by simp[e3],by simp[e4],by simp[m4],by simp[e8],by simp[m8,CP]⟩,true,_,_,od,by simp[<- zg],?_,?_,by simp;rfl,.inr ⟨by simp,by simp[nC]⟩,?_,?_,?_⟩<;>simp[e10,e9,xf,mf]
      ·cases xc:e.long with
       |false =>
        rw[xc]at od;simp[NC,-J,-y4,-y3,y0,e3,e8,e9,m9,e10,xf,mf,dk,ga,g1,g2,oc,hh,hw,LF,r1,ta,q,zd,xc];refine ih fa _ ⟨⟨by simp[e1],by simp[e3],by simp[e4],by simp[m4],by simp[e8],by simp[m8,CP]⟩,true,_,_,od,by simp[<- zg],?_,?_,by simp;rfl,.inr ⟨by simp,by simp[nC]⟩,?_,?_,?_⟩<;>simp[e10,e9,xf,mf]
       |true =>
        rw[xc]at od;simp[NC,-J,-y4,-y3,y0,e3,e8,e9,m9,e10,xf,mf,dk,ga,g1,g2,oc,hh,hw,LF,r1,ta,q,zd,xc];refine ih fa _ ⟨⟨by simp[e1],by simp[e3],by simp[e4],by simp[m4],by simp[e8],by simp[m8,CP]⟩,true,_,_,od,by simp[<- zg],?_,?_,by simp;rfl,.inr ⟨by simp,by simp[nC]⟩,?_,?_,?_⟩<;>simp[e10,e9,xf,mf]
  ·have ga:¬ (j:Int)<x.qA.length:=by omega
   rw[yB (by omega)]at xg;simp[NC,-J,-y4,-y3,y0,mf,dk,ga];exact wb _ _ (.inl ⟨rfl,lg,ws,_,xg,⟨by simp[e1],by simp[e3],by simp[e4],by simp[m4],by simp[e8],by simp[m8]⟩,by simp[e10],by simp[e9],m9,ha⟩)
 ·obtain⟨r,h1,h2⟩:=m9;exact⟨h,false,[],r,rfl,rfl,e10,e9,h1,h2,xf,mf,dk⟩
 ·rcases h with ⟨rfl,lg,ws,r,q1,q2,q3,q4,q5,q6⟩ | ⟨rfl,q1,q2,q3⟩
  ·exact hk s lg ws r q1 q2 q3 q4 q5 q6
  ·exact hr s q1 q2 q3
end
end
section
theorem bY (S:List BC)(t k:Int)(l:TS):∀(a:List RE)(m:RE)(b:LT),FJ S t k l (a++[m]) b=if nF (II S t k m (l m.ty.toNat)) (FJ S t k l a b)then II S t k m (l m.ty.toNat)else FJ S t k l a b
 | [],m,b=>rfl
 |m'::r,m,b=>by rw[yv,FJ,FJ,bY S t k l r m]
def qR (b:LT)(r:List WC):Prop:=r.length=11/\r.map (·.v)=LF b
theorem qR.load {b:LT}{r:List WC}(h:qR b r):kD true 11 0 r=some ⟨.agg (LF b),.no⟩:=by
 obtain⟨h1,h2⟩:=h;unfold kD;rw[if_pos rfl,if_pos (by omega),List.drop_zero,yB (by omega),h2]
theorem qR.store {b:LT}{r:List WC}(h:qR b r)(cs:List AV)(hc:cs.length=11)(a:An):MC true 11 0 r (.agg cs) a=some (cs.map (⟨·,.no⟩)):=by
 obtain⟨h1,_⟩:=h;unfold MC;simp[hc,h1]
theorem qR.mk (b:LT):qR b ((LF b).map (⟨·,.no⟩)):=⟨rfl,by rw[y3];simp[Function.comp_def]⟩
theorem qR.zero:qR .unk CP:=⟨rfl,rfl⟩
section
variable (sn:Bool) {S:List BC} {i:Nat} {x:BC} {l:TS}
theorem Ca (hS:zH S)(g:S[i]?=some x)(hl:CK S l)(h6:x.kind=6){m:RE}(hm:m∈x.qA)(hk:(l m.ty.toNat).known=true/\(l m.ty.toNat).long=false):(hJ S i (kR 6 m.id (l m.ty.toNat).v)).size<=1000000:=by
 rw[(dS hS g hl h6 hm _).1,ByteArray.size_append];obtain⟨e1,_,_,_,_,e2⟩:=(xL hS g hl hm).v hk.1 hk.2;rw[<- e1];have:=DK m.id;omega
theorem Lz (hS:zH S)(xb:∀x∈S,x.qA.length<=12)(g:S[i]?=some x)(hl:CK S l)(hd:∀u,u<S.length->(l u).d<=S.length)(h6:x.kind=6){m:RE}(hm:m∈x.qA)(hk:(l m.ty.toNat).known=true/\(l m.ty.toNat).long=false):IC 228 [MD sn S,.int .i64 i,.agg (TC (kR 6 m.id (l m.ty.toNat).v))] (.agg (LF (TN S i (kR 6 m.id (l m.ty.toNat).v)))):=by
 obtain⟨q1,q2,q3⟩:=Xa hS g hl h6 hm hk;obtain⟨_,e2,_⟩:=(xL hS g hl hm).v hk.1 hk.2;have hdd:=hd _ (s9 hS g hl hm).2.2.1;have ja:=hS.len;have ra:=Ca hS g hl h6 hm hk;exact DV sn hS xb (zH.lt hS g) q1 q2 q3 ra (by rw[(dS hS g hl h6 hm _).2];omega)
theorem Fv {rv:RV}(hS:zH S)(xb:∀x∈S,x.qA.length<=12)(g:S[i]?=some x)(hl:CK S l)(hd:∀u,u<S.length->(l u).d<=S.length)(h6:x.kind=6)(kj:Nat)(s:OC)(h:H6 sn S i x l s)(e6:(s.env 6).v=.ptr 6 1 0)(m6:s.mem 6 1=some (ID x))(mc:(s.env 14).v=.ptr 14 kj 0)(bq:∃r,s.mem 14 kj=some r/\qR .unk r)(lm:(s.env 80).v=.sl x.mn (x.qA.map uD))(fl:(s.env 81).v=.int .i64 x.qA.length)(zt:(s.env 82).v=.int .i64 0)(k:Ex->OC->Option RV)
  (hk:∀s' r,H6 sn S i x l s'->(s'.env 14).v=.ptr 14 kj 0->s'.mem 14 kj=some r->qR (FJ S i 6 l x.qA .unk) r->k (.exit 3) s'=some rv):OL dD PC RD s k=some rv:=by
 have hw16:x.qA.length<=16:=(hS.win x (zH.mem hS g)).few;refine ZC x.qA.length (fun j s=>H6 sn S i x l s/\(s.env 6).v=.ptr 6 1 0/\s.mem 6 1=some (ID x)/\(s.env 14).v=.ptr 14 kj 0/\(∃r,s.mem 14 kj=some r/\qR (FJ S i 6 l (x.qA.take j) .unk) r)/\(s.env 80).v=.sl x.mn (x.qA.map uD)/\(s.env 81).v=.int .i64 x.qA.length/\(s.env 82).v=.int .i64 j)
  (fun e s=>e=.exit 3/\H6 sn S i x l s/\(s.env 14).v=.ptr 14 kj 0/\∃r,s.mem 14 kj=some r/\qR (FJ S i 6 l x.qA .unk) r) (fun j hj s kk h ih wb=>?_) _ _ ⟨h,e6,m6,mc,bq,lm,fl,zt⟩ (fun e s h=>by obtain⟨rfl,h1,h2,r,h3,h4⟩:=h;exact hk s r h1 h2 h3 h4)
 obtain⟨⟨e1,e3,e4,m4,e8,m8⟩,e6,m6,mc,⟨r,bq,hr⟩,lm,fl,zt⟩:=h;refine EC ?_;by_cases fa:j<x.qA.length
 ·have ga:(j:Int)<x.qA.length:=by omega
  have p1:x.qA[j]?=some x.qA[j]:=y7 fa;have t1:x.qA.take (j+1)=x.qA.take j++[x.qA[j]]:=(yx fa).symm;have hw:=cD (i:=j);have gv:x.qA[j]∈x.qA:=y8 fa;have wm:0<=x.qA[j].ty/\x.qA[j].ty<S.length:=(hS.win x (zH.mem hS g)).qA _ gv;generalize x.qA[j]=m at *
  have g1:(x.qA.map uD)[j]?=some (uD m):=by rw[yb,p1];rfl
  have g2:=dY l (N:=S.length) (j:=m.ty.toNat) (by omega);have oc:=wm.1;have ud:=fun hk=>(Lz sn hS xb g hl hd h6 gv hk)
  have mo:=bY S i 6 l (x.qA.take j) m .unk;rw[<- t1]at mo;rw[mo]at ih;generalize FJ S i 6 l (x.qA.take j) .unk=b at *
  have af:=hr.load;have tb:=hr.store;have ae:=l3 (II S i 6 m (l m.ty.toNat)) b;simp only[ID,h6]at m6;simp only[uD]at g1;have dB:∀(s':OC)(r':List WC),(s'.env 1).v=.int .i64 i->(s'.env 3).v=.bl (LK S.length l)->(s'.env 4).v=.ptr 4 1 0->s'.mem 4 1=s.mem 4 1->(s'.env 8).v=.ptr 8 1 0->s'.mem 8 1=s.mem 8 1->(s'.env 6).v=.ptr 6 1 0->s'.mem 6 1=s.mem 6 1->(s'.env 14).v=.ptr 14 kj 0->s'.mem 14 kj=some r'->qR (if nF (II S i 6 m (l m.ty.toNat)) b then II S i 6 m (l m.ty.toNat)else b) r'->(s'.env 80).v=.sl x.mn (x.qA.map uD)->(s'.env 81).v=.int .i64 x.qA.length->(s'.env 82).v=.int .i64 ((j+1:Nat):Int)->OL dD PC RD s' kk=some rv:=fun s' r' q1 q2 q3 q4 q5 q6 q7 q8 q9 q10 q11 q12 q13 q14=>ih fa s' ⟨⟨q1,q2,q3,by rw[q4,m4],q5,by rw[q6,m8]⟩,q7,by rw[q8,m6];simp[ID,h6],q9,⟨r',q10,q11⟩,q12,q13,q14⟩
  cases zd:(l m.ty.toNat).known with
  |false =>
   have ha:II S i 6 m (l m.ty.toNat)=l m.ty.toNat:=by simp[II,zd]
   rw[ha]at ae dB;generalize l m.ty.toNat=e at *
   simp only[IC,LF,zd]at ae;simp only[LF]at af;cases hb:nF e b with
   |true =>
    rw[hb]at ae dB;simp[RD,-J,-y4,-y3,y0,-kD,-MC,zD,xD,wD,eD,e3,mc,bq,lm,fl,zt,ga,g1,g2,oc,zd,hw,LF,af,tb,ae];refine dB _ _ ?_ ?_ ?_ ?_ ?_ ?_ ?_ ?_ ?_ (by simp;rfl) (by simpa [LF,zd]using qR.mk e) ?_ ?_ ?_<;>simp[e1,e3,e4,e8,e6,mc,lm,fl]
   |false =>
    rw[hb]at ae dB;simp[RD,-J,-y4,-y3,y0,-kD,-MC,zD,xD,wD,eD,e3,mc,bq,lm,fl,zt,ga,g1,g2,oc,zd,hw,LF,af,tb,ae];refine dB _ r ?_ ?_ ?_ ?_ ?_ ?_ ?_ ?_ ?_ (by simp[bq]) (by simpa using hr) ?_ ?_ ?_<;>simp[e1,e3,e4,e8,e6,mc,lm,fl]
  |true =>
   cases xc:(l m.ty.toNat).long with
   |true =>
    have ha:II S i 6 m (l m.ty.toNat)=l m.ty.toNat:=by simp[II,xc]
    rw[ha]at ae dB;generalize l m.ty.toNat=e at *
    simp only[IC,LF,zd,xc]at ae;simp only[LF]at af;cases hb:nF e b with
    |true =>
     rw[hb]at ae dB;simp[RD,-J,-y4,-y3,y0,-kD,-MC,zD,xD,wD,eD,e3,mc,bq,lm,fl,zt,ga,g1,g2,oc,zd,xc,hw,LF,af,tb,ae];refine dB _ _ ?_ ?_ ?_ ?_ ?_ ?_ ?_ ?_ ?_ (by simp;rfl) (by simpa [LF,zd,xc]using qR.mk e) ?_ ?_ ?_<;>simp[e1,e3,e4,e8,e6,mc,lm,fl]
    |false =>
     rw[hb]at ae dB;simp[RD,-J,-y4,-y3,y0,-kD,-MC,zD,xD,wD,eD,e3,mc,bq,lm,fl,zt,ga,g1,g2,oc,zd,xc,hw,LF,af,tb,ae];refine dB _ r ?_ ?_ ?_ ?_ ?_ ?_ ?_ ?_ ?_ (by simp[bq]) (by simpa using hr) ?_ ?_ ?_<;>simp[e1,e3,e4,e8,e6,mc,lm,fl]
   |false =>
    have ha:II S i 6 m (l m.ty.toNat)=TN S i (kR 6 m.id (l m.ty.toNat).v):=by simp[II,zd,xc]
    rw[ha]at ae dB;have hf:=ud ⟨zd,xc⟩;rw[Jl]at hf;generalize TN S i (kR 6 m.id (l m.ty.toNat).v)=c at *
    generalize l m.ty.toNat=e at *
    simp only[IC,LF,nC]at ae hf;simp only[LF]at af;cases hb:nF c b with
    |true =>
     rw[hb]at ae dB;simp[RD,-J,-y4,-y3,y0,-kD,-MC,zD,xD,wD,eD,e1,e3,e4,m4,e6,m6,mc,bq,lm,fl,zt,ga,g1,g2,oc,zd,xc,hw,LF,af,tb,ae,hf];refine dB _ _ ?_ ?_ ?_ ?_ ?_ ?_ ?_ ?_ ?_ (by simp;rfl) (by simpa [LF]using qR.mk c) ?_ ?_ ?_<;>simp[e1,e3,e4,e8,e6,mc,lm,fl]
    |false =>
     rw[hb]at ae dB;simp[RD,-J,-y4,-y3,y0,-kD,-MC,zD,xD,wD,eD,e1,e3,e4,m4,e6,m6,mc,bq,lm,fl,zt,ga,g1,g2,oc,zd,xc,hw,LF,af,tb,ae,hf];refine dB _ r ?_ ?_ ?_ ?_ ?_ ?_ ?_ ?_ ?_ (by simp[bq]) (by simpa using hr) ?_ ?_ ?_<;>simp[e1,e3,e4,e8,e6,mc,lm,fl]
 ·have ga:¬ (j:Int)<x.qA.length:=by omega
  rw[yB (by omega)]at hr;simp[RD,-J,-y4,-y3,y0,fl,zt,ga];exact wb _ _ ⟨rfl,⟨by simp[e1],by simp[e3],by simp[e4],by simp[m4],by simp[e8],by simp[m8]⟩,by simp[mc],r,bq,hr⟩
end
end
section
theorem Bq {S:List BC}{i:Nat}{x:BC}{l:TS}(hS:zH S)(g:S[i]?=some x)(hl:CK S l)(hd:∀u,u<S.length->(l u).d<=S.length)(h5:x.kind=5)(hk:∀m∈x.qA,m.has=false->(l m.ty.toNat).known=true/\(l m.ty.toNat).long=false):LM S i (NR 5 (x.qA.map (MH l)))<=200:=by
 rw[Ft hS g hl h5];have ja:=hS.len;rcases aV (LM S) x.qA (x.qA.map (MH l)) 0 with h|⟨j,m,v,q1,q2,q3,q4⟩
 ·omega
 ·obtain⟨hm,hh,rfl⟩:=xZ hS g hl q1 q2 q3;obtain⟨_,e2,_⟩:=(xL hS g hl hm).v (hk m hm hh).1 (hk m hm hh).2;have:=hd _ (s9 hS g hl hm).2.2.1;omega
section
variable (sn:Bool) {S:List BC} {i:Nat} {x:BC} {l:TS} (hS:zH S) (xb:∀ x∈S,x.qA.length<=12) (g:S[i]?=some x) (hl:CK S l) (hd:∀ u,u<S.length->(l u).d<=S.length)
include hS xb g hl hd
theorem Bg (h5:x.kind≠5)(h6:x.kind≠6):IC 228 [MD sn S,.int .i64 i,.agg (TC (wP x))] (.agg (LF (BF S i l))):=by
 have hi:BF S i l=TN S i (wP x):=by simp only[BF,g];rw[wR,if_neg h5,if_neg h6]
 obtain⟨q1,q2,q3⟩:=F7 hS g h5 h6;have wl:=dH (hS.good x (zH.mem hS g)).1;have hdep:LM S i (wP x)=1:=by
  rw[l5 hS g];unfold OJ wP;rw[if_neg h5,if_neg h6];by_cases k2:x.kind=2
  ·simp[k2]
  by_cases k4:x.kind=4
  ·simp[k4]
  by_cases k9:x.kind=9
  ·simp[k9,Vl.of,Vl.items,R8]
  by_cases k7:x.kind=7
  ·simp[k7,Vl.of,Vl.items,nH]
  by_cases k8:x.kind=8
  ·simp[k8,Vl.of,Vl.items,Vl.keys,gJ]
  ·simp[k9,k7,k8]
 have ra:(hJ S i (wP x)).size<=1000000:=by
  have e0:(ByteArray.mk #[]).size=0:=rfl;rw[Hq hS g];unfold tF wP;rw[if_neg h5,if_neg h6];by_cases k1:x.kind=1
  ·simp[k1,Vl.of,Vl.b,eB,e0]
  rw[if_neg k1];by_cases k2:x.kind=2
  ·rw[if_pos k2];have:=b3 (E1 (Vl.of 2 false (j8 x.low x.high) eB 0).i);simp[k2];omega
  rw[if_neg k2];by_cases k3:x.kind=3
  ·simp[k3,Vl.of,Vl.s,eB,e0]
  rw[if_neg k3];by_cases k4:x.kind=4
  ·rw[if_pos k4];exact yt (b3 _) (by omega)
  rw[if_neg k4];by_cases k9:x.kind=9
  ·simp[k9,Vl.of,Vl.items,NX,eB,e0]
  rw[if_neg k9];by_cases k7:x.kind=7
  ·simp[k7,Vl.of,Vl.items,xF,eB,e0]
  ·rw[if_neg k7];simp[k2,k4,Vl.of,Vl.items,Vl.keys,bG,eB,e0]
 rw[hi];exact DV sn hS xb (zH.lt hS g) q1 q2 q3 ra (by omega)
theorem Iv (h5:x.kind=5){ws:List Vl}(hr:DJ l x.qA false []=some (false,ws)):IC 228 [MD sn S,.int .i64 i,.agg (TC (NR 5 ws))] (.agg (LF (BF S i l))):=by
 have hi:BF S i l=TN S i (NR 5 ws):=by simp only[BF,g];rw[wR,if_pos h5,hr]
 obtain⟨h1,h2,h3⟩:=GN l _ _ _ _ _ hr;rw[yF]at h1;subst h1;have hk:∀m∈x.qA,m.has=false->(l m.ty.toNat).known=true/\(l m.ty.toNat).long=false:=fun m hm hh=>⟨h2 m hm hh,(h3.1 rfl).2 m hm hh⟩
 obtain⟨q1,q2,q3⟩:=Dt hS g hl h5 hk;have ra:=Nj hS g hl h5 hk;rw[hi];exact DV sn hS xb (zH.lt hS g) q1 q2 q3 ra (Bq hS g hl hd h5 hk)
theorem N9:IC 163 [MD sn S,.int .i64 i,.agg (QC x),.bl (LK S.length l)] (.agg (LF (BF S i l))):=by
 refine mC (c:=qF) rfl rfl ?_;have dh:=(hS.good x (zH.mem hS g)).1;by_cases h5:x.kind=5
 ·have hi:BF S i l=match DJ l x.qA false [] with | none=>.unk | some (true,_)=>.tC | some (false,vs)=>TN S i (NR 5 vs):=by simp only [BF,g]; rw [wR,if_pos h5]; rfl
  simp[qF,-J,-y4,-y3,y0,QC,h5];refine Pv sn (l:=l) hS g _ ⟨?_,?_,?_,?_,?_,?_⟩ ?_ ?_ ⟨_,?_,.inl ⟨rfl,.no,rfl⟩⟩ ?_ ?_ ?_ _ (fun s' lg ws r q1 q2 q3 q4 q5 q6=>?_) (fun s' q1 q2 q3=>?_)
  ·simp
  ·simp
  ·simp
  ·simp
  ·simp
  ·simp[CP,lD]
  ·simp
  ·simp
  ·simp
  ·simp
  ·simp
  ·simp
  ·obtain ⟨e1,e3,e4,m4,e8,m8⟩:=q2;simp only [CP] at m8;cases lg with
   |true =>
    rw[hi,q1];simp only[r8];simp[-J,-y4,-y3,y0,q3,e8,m8]
   |false =>
    have hf:=(Iv sn hS xb g hl hd h5 q1);rw[Kl]at hf;generalize BF S i l=c at *
    simp only[IC,LF]at hf ⊢;rcases q6 with⟨rfl,a,rfl⟩|⟨ss,rfl⟩
    ·simp at hf;simp[-J,-y4,-y3,y0,q3,q4,q5,e1,e4,m4,e8,m8,hf]
    ·have ua:ws.isEmpty=false:=by cases ws with | nil=>exact absurd rfl ss | cons _ _=>rfl
     rw[ua]at hf;simp[-J,-y4,-y3,y0,q3,q4,q5,e1,e4,m4,e8,m8,hf]
  ·rw[hi,q1];simp only[IU]at q3 ⊢;simp[-J,-y4,-y3,y0,q2,q3]
 ·by_cases h6:x.kind=6
  ·have hi:BF S i l=FJ S i 6 l x.qA .unk:=by simp only [BF,g]; rw [wR,if_neg h5,if_pos h6]
   simp[qF,-J,-y4,-y3,y0,QC,h6];refine Fv sn hS xb g hl hd h6 8 _ ⟨?_,?_,?_,?_,?_,?_⟩ ?_ ?_ ?_ ⟨CP,?_,qR.zero⟩ ?_ ?_ ?_ _ (fun s' r q1 q2 q3 q4=>?_)
   ·simp
   ·simp
   ·simp
   ·simp
   ·simp
   ·simp[CP,lD]
   ·simp
   ·simp[h6]
   ·simp
   ·simp[CP,lD]
   ·simp
   ·simp
   ·simp
   ·obtain ⟨e1,e3,e4,m4,e8,m8⟩:=q1;have af:=q4.load;have tb:=qR.zero.store (LF (FJ S i 6 l x.qA .unk)) rfl;rw [hi];generalize FJ S i 6 l x.qA .unk=c at *
    simp only[LF]at af tb ⊢;simp[-J,-y4,-y3,y0,-kD,-MC,zD,xD,wD,eD,q2,q3,af,e8,m8,tb]
  ·have hf:=(Bg sn hS xb g hl hd h5 h6);rw [Kp] at hf;generalize BF S i l=c at *
   simp only[IC,LF]at hf ⊢;by_cases k2:x.kind=2
   ·have hn:=Sq x.low x.high;simp[k2]at hf;simp only[IC]at hn;simp[qF,-J,-y4,-y3,y0,QC,k2,hn,hf]
   ·by_cases k4:x.kind=4
    ·simp [k4] at hf;have uu:=dh;unfold IE at uu;rw [y9,y9] at uu;obtain ⟨_,h1,_⟩:=uu;simp [wN,k4] at h1;cases ut:x.tA with
     |nil=>simp[jP,ut]at h1
     |cons m r =>
      rw[ut]at hf;simp at hf;simp[qF,-J,-y4,-y3,y0,QC,k4,ut,TG,hf]
    ·simp[k2,k4]at hf;simp[qF,-J,-y4,-y3,y0,QC,k2,k4,h5,h6,hf]
end
end
section
section
variable {S:List BC} {i:Nat} {x:BC} {l:TS}
end
end
section
section
variable (sn:Bool) {S:List BC} {i:Nat} {x:BC} {l:TS}
end
end
section
theorem Lm {N:Nat}(l l':TS){i:Nat}(h:∀j,j≠i->l' j=l j):(LK N l).set i (LF (l' i))=LK N l':=by
 apply List.ext_getElem?;intro j;by_cases e:j=i
 ·subst e;by_cases hj:j<N
  ·simp[LK,hj]
  ·simp[LK,hj]
 ·rw [List.getElem?_set_ne (fun e'=>e e'.symm)];by_cases hj:j<N
  ·simp[LK,hj,h j e]
  ·simp[LK,hj]
theorem Pl (N:Nat):LK N (fun _=>.unk)=yj N (LF .unk):=by
 unfold LK;rw[List.map_const',List.length_range]
theorem Ct (N:Nat)(l:TS):bH (HC (LK N l)) 11 0 N=some (LK N l):=by
 have:=WS (b5 N l) (Jg N l)
 rwa [Bt]at this
abbrev tab0:TS:=fun _=>.unk
noncomputable abbrev MR (S:List BC)(k:Nat):TS:=MX nF (BF S) S.length tab0 k
noncomputable abbrev R6 (S:List BC)(k i:Nat):TS:=E6 nF (BF S) (MR S k) i
section
variable (sn:Bool) {S:List BC} (hS:zH S) (xb:∀ x∈S,x.qA.length<=12)
include hS
theorem i9 (k i:Nat)(hi:i<=S.length):CK S (R6 S k i)/\∀t,t<S.length->(R6 S k i t).d<=S.length :=
 H8 MF (WU hS) (O7 S) (fun _ _=>rfl) k i hi
include xb
theorem lin_lp {rv:RV}(k:Nat)(s:OC)(e1:(s.env 1).v=.ptr 1 1 0)(m1:s.mem 1 1=some [⟨.sl sn (S.map QC),.no⟩])(e3:(s.env 3).v=.ref 10 2 11 0 S.length S.length)(m3:s.mem 10 2=some (HC (LK S.length (R6 S k 0))))(mc:(s.env 14).v=.int .i64 (S.length+2:Nat))(jd:(s.env 15).v=.int .i64 k)(e18:(s.env 18).v=.sl sn (S.map QC))(e19:(s.env 19).v=.int .i64 S.length)(e20:(s.env 20).v=.int .i64 0)(kk:Ex->OC->Option RV)
  (hk:∀s',(s'.env 1).v=.ptr 1 1 0->s'.mem 1 1=some [⟨.sl sn (S.map QC),.no⟩]->(s'.env 3).v=.ref 10 2 11 0 S.length S.length->s'.mem 10 2=some (HC (LK S.length (R6 S k S.length)))->(s'.env 14).v=.int .i64 (S.length+2:Nat)->(s'.env 15).v=.int .i64 k->kk (.exit 2) s'=some rv):OL dD PC DG s kk=some rv:=by
 have ja:=hS.len;refine ZC S.length (fun i s=>(s.env 1).v=.ptr 1 1 0/\s.mem 1 1=some [⟨.sl sn (S.map QC),.no⟩]/\(s.env 3).v=.ref 10 2 11 0 S.length S.length/\s.mem 10 2=some (HC (LK S.length (R6 S k i)))/\(s.env 14).v=.int .i64 (S.length+2:Nat)/\(s.env 15).v=.int .i64 k/\(s.env 18).v=.sl sn (S.map QC)/\(s.env 19).v=.int .i64 S.length/\(s.env 20).v=.int .i64 i)
  (fun e s=>e=.exit 2/\(s.env 1).v=.ptr 1 1 0/\s.mem 1 1=some [⟨.sl sn (S.map QC),.no⟩]/\(s.env 3).v=.ref 10 2 11 0 S.length S.length/\s.mem 10 2=some (HC (LK S.length (R6 S k S.length)))/\(s.env 14).v=.int .i64 (S.length+2:Nat)/\(s.env 15).v=.int .i64 k) (fun i hi s kk h ih wb=>?_) _ _ ⟨e1,m1,e3,m3,mc,jd,e18,e19,e20⟩ (fun e s h=>by obtain⟨rfl,h1,h2,h3,h4,h5,h6⟩:=h;exact hk s h1 h2 h3 h4 h5 h6)
 obtain⟨e1,m1,e3,m3,mc,jd,e18,e19,e20⟩:=h;refine EC ?_;by_cases fa:i<S.length
 ·have ga:(i:Int)<S.length:=by omega
  obtain⟨hg,hd⟩:=i9 hS k i hi;have gx:S[i]?=some S[i]:=y7 fa;have hw:=cD (i:=i);have tb:R6 S k (i+1)=zJ nF (BF S) (R6 S k i) i:=rfl;generalize S[i]=x at *
  have g1:(S.map QC)[i]?=some (QC x):=by rw[yb,gx];rfl
  have wx:=N9 sn hS xb gx hg hd;rw[tb]at ih;generalize R6 S k i=l at *
  have g2:=dY l fa;have am:=Ct S.length l;have af:=dM (b5 S.length l) g2;have ae:=l3 (BF S i l) (l i);have zy:=fun a=>wS (b5 S.length l) (k:=i) (by rw[Bt];exact fa) (c:=LF (BF S i l)) rfl a
  generalize hB:nF (BF S i l) (l i)=B at *
  have sv:B=true->(LK S.length l).set i (LF (BF S i l))=LK S.length (zJ nF (BF S) l i):=fun h=>by
   subst h;have:=Lm (N:=S.length) l (zJ nF (BF S) l i) (i:=i) fun j hj=>RM hj
   rwa [pS hB]at this
  have zc:B=false->zJ nF (BF S) l i=l:=fun h=>by subst h;exact P6 hB
  generalize zJ nF (BF S) l i=l2 at *
  generalize BF S i l=c at *
  generalize l i=o at *
  simp only[IC,MD,LF,QC]at g1 wx ae af zy sv;generalize S.map QC=ST at *
  cases B with
  |true =>
   rw[sv rfl]at zy;simp[DG,-J,-y4,-y3,y0,-kD,-MC,zD,xD,wD,eD,e1,m1,e3,m3,e18,e19,e20,fa,ga,g1,am,Cl.pA,wx,ae,af,zy,hw];refine ih fa _ ⟨?_,?_,?_,?_,?_,?_,?_,?_,?_⟩<;>simp[e1,m1,e3,mc,jd,e18,e19]
  |false =>
   rw[zc rfl]at ih;simp[DG,-J,-y4,-y3,y0,-kD,-MC,zD,xD,wD,eD,e1,m1,e3,m3,e18,e19,e20,fa,ga,g1,am,Cl.pA,wx,ae,af,hw];refine ih fa _ ⟨?_,?_,?_,?_,?_,?_,?_,?_,?_⟩<;>simp[e1,m1,e3,m3,mc,jd,e18,e19]
 ·have ga:¬ (i:Int)<S.length:=by omega
  have wu:i=S.length:=by omega
  subst wu;simp[DG,-J,-y4,-y3,y0,e19,e20];exact wb _ _ ⟨rfl,by simp[e1],m1,by simp[e3],m3,by simp[mc],by simp[jd]⟩
theorem Jh:IC 100 [MD sn S] (.sl false (LK S.length (MR S (S.length+2)))):=by
 have ja:=hS.len;have aq:IntKind.i64.wrap ((S.length:Int)+2)=(S.length+2:Nat):=by rw[IntWalk.i64_in _ (by omega)];omega
 refine mC (c:=aK) rfl rfl ?_;have hmul:S.length*144<=140737488355328:=by omega
 have ib:S.length<=140737488355328:=by omega
 simp[aK,-J,-y4,-y3,y0,aq,hmul,ib];refine ZC (S.length+2) (fun k s=>(s.env 1).v=.ptr 1 1 0/\s.mem 1 1=some [⟨.sl sn (S.map QC),.no⟩]/\(s.env 3).v=.ref 10 2 11 0 S.length S.length/\s.mem 10 2=some (HC (LK S.length (MR S k)))/\(s.env 14).v=.int .i64 (S.length+2:Nat)/\(s.env 15).v=.int .i64 k)
  (fun e s=>e=.exit 0/\(s.env 3).v=.ref 10 2 11 0 S.length S.length/\s.mem 10 2=some (HC (LK S.length (MR S (S.length+2))))) (fun k hk s kk h ih wb=>?_) _ _ ?_ (fun e s h=>?_)
 ·obtain ⟨e1,m1,e3,m3,mc,jd⟩:=h;refine EC ?_;by_cases fa:k<S.length + 2
  ·have ga:(k:Int)<(S.length + 2:Nat):=by omega
   have hw:=cD (i:=k);simp[-Int.natCast_add,mK,-J,-y4,-y3,y0,e1,m1,mc,jd,ga];refine lin_lp sn hS xb k _ ?_ ?_ ?_ ?_ ?_ ?_ ?_ ?_ ?_ _ (fun s' q1 q2 q3 q4 q5 q6=>?_)
   ·simp[e1]
   ·simp[m1]
   ·simp[e3]
   ·simp[m3,E6]
   ·simp[mc]
   ·simp[jd]
   ·simp
   ·simp
   ·simp
   ·simp[-Int.natCast_add,-J,-y4,-y3,y0,q6,hw];exact ih fa _ ⟨by simp[q1],by simp[q2],by simp[q3],by simp[q4,MX],by simp[q5],by simp⟩
  ·have ga:¬ (k:Int)<(S.length + 2:Nat):=by omega
   have hkk2:k=S.length+2:=by omega
   subst hkk2;simp[-Int.natCast_add,mK,-J,-y4,-y3,y0,mc,jd];exact wb _ _ ⟨rfl,by simp[e3],m3⟩
 ·refine ⟨?_,?_,?_,?_,?_,?_⟩
  ·simp
  ·simp
  ·simp
  ·rw[show MR S 0=tab0 from rfl,Pl];simp[HC,IU]
  ·simp
  ·simp
 ·obtain ⟨rfl,e3,m3⟩:=h;have am:=Ct S.length (MR S (S.length + 2));generalize LK S.length (MR S (S.length + 2))=T at *
  simp[-J,-y4,-y3,y0,-kD,-MC,zD,xD,wD,eD,e3,m3,am]
end
end
section
section
variable (sn:Bool) {S:List BC} (hS:zH S) (xb:∀ x∈S,x.qA.length<=12)
include hS xb
omit xb in
theorem Wu:MR S (S.length+2)=MR S (S.length+1):=D8 MF (WU hS) (O7 S) (fun _ _=>rfl) (S.length+1) (by omega)
end
end
end Go.Proofs.YthnefkpplcmjdaaGreat
