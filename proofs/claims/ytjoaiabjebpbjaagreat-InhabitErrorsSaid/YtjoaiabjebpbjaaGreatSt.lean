/- A part of the proof. -/
import Derived.Test.YtjoaiabjebpbjaaGreatSs
set_option linter.all false
set_option maxRecDepth 100000
set_option maxHeartbeats 8000000
open Option renaming bind_some → V
open List renaming range_succ → J, map_map → y0, getElem?_eq_getElem → y4, getElem_mem → y5, getElem?_map → y8, drop_eq_getElem_cons → y9, replicate → yj, take_append_getElem → yr, take_of_length_le → yv, cons_append → yx, nil_append → yK, take_append_drop → yR
open Int renaming toNat_lt → y3
open Bool renaming and_eq_true → y7
open Nat renaming le_trans → yw
namespace Go.Proofs.YtjoaiabjebpbjaaGreat
open Go
section
theorem tT:sB .lng=[.bool true,.bool true,.str ⟨#[]⟩,.int .i64 0,.bool false,.int .i64 0,.str ⟨#[]⟩,.int .i64 0,.sl true [],.sl true [],.sl true []]:=rfl
theorem lH:sB .unk=[.bool false,.bool false,.str ⟨#[]⟩,.int .i64 0,.bool false,.int .i64 0,.str ⟨#[]⟩,.int .i64 0,.sl true [],.sl true [],.sl true []]:=rfl
theorem PD.fine {S:List gA} (h:PD S) (sn:Bool):(⟨sn,S⟩:PM).fine:=⟨by have:=h.len; show S.length<=_; omega,fun t ht=>(h.good t ht).2⟩
section
variable (sn:Bool) {S:List gA} (hS:PD S) (pb:∀ x∈S,x.mems.length<=12) {i:Nat} (hi:i<S.length) {v:Vl} (hp:PE S i v=true) (ho:v.ok) (nb:v.i64)
include hS hi
theorem errOf_ev:sA 233 [WB sn S,.int .i64 i] (.int .i64 0):=by
 have hv:=XZ ⟨sn,S⟩ (hS.fine sn);have h1:¬ (i:Int)<0:=by omega
 have h2:¬ (S.length:Int)<=i:=by omega
 rw [show valid (⟨sn,S⟩:PM).types=0 from hS.val] at hv;simp only [sA,JA] at hv;refine wA (c:=TH) rfl rfl ?_;simp [TH,-V,-y3,-y0,J,hv,h1,h2,hi]
include hp ho nb
theorem TX:sA 217 [WB sn S,.int .i64 i,.agg (pA v)] (.int .i64 0):=by
 have h1:=errOf_ev sn hS hi;have h2:=fitsF_ev sn S hS.good (SizeOf.sizeOf v + 1) i v hp ho nb;have h3:sA 234 [WB sn S,.int .i64 i,.agg (pA v)] (.bool true):=by
  simp only [sA,qA] at h2;refine wA (c:=pM) rfl rfl ?_;rw [qA];simp [pM,-V,-y3,-y0,J,h2]
 simp only [sA,qA] at h1 h3;refine wA (c:=RH) rfl rfl ?_;rw [qA];simp [RH,-V,-y3,-y0,J,h1,h3]
include pb
theorem F5 (ma:(dG S i v).size<=1000000):jJ sn S i v (dG S i v) (WK S i v)/\uI sn S i v (dG S i v):=by
 have h:=pays_ev sn S hS.good pb (SizeOf.sizeOf v + 1) i v hp ho nb (by
  have:(tI S (SizeOf.sizeOf v + 1) i v)=dG S i v:=rfl;rw [this];omega)
 exact h
theorem esize_ev (ma:(dG S i v).size<=1000000) (hd:WK S i v<=200):sA 189 [WB sn S,.int .i64 i,.agg (pA v)] (.tup [.int .i64 (dG S i v).size,.int .i64 0]):=by
 have h1:=TX sn hS hi hp ho nb;have h2:=(F5 sn hS pb hi hp ho nb ma).1 1 0 (by omega) (by omega);simp only [sA,qA,rU] at h1 h2;refine wA (c:=XK) rfl rfl ?_;rw [qA];simp [XK,-V,-y3,-y0,J,eC,cE,pD,pG,rB,h1,h2]
theorem encode_ev (ma:(dG S i v).size<=4096) (hd:WK S i v<=200):sA 219 [WB sn S,.int .i64 i,.agg (pA v)] (.tup [.str (dG S i v),.int .i64 0]):=by
 have h1:=TX sn hS hi hp ho nb;have h2:=(F5 sn hS pb hi hp ho nb (by omega)).1 1 0 (by omega) (by omega);have h3:¬ (4096:Int)<(dG S i v).size:=by omega
 obtain ⟨z,hz⟩:∃ z:Int,z=max 0 (1 + ((WK S i v:Nat):Int) - 1):=⟨_,rfl⟩;rw [<- hz] at h2;have h4:¬ (200:Int)<z:=by omega
 simp only [sA,qA,rU] at h1 h2;refine wA (c:=bI) rfl rfl ?_;rw [qA];simp [bI,-V,-y3,-y0,J,eC,cE,pD,pG,rB,h1,h2,h3,h4]
theorem ipay_ev (ma:(dG S i v).size<=4096) (hd:WK S i v<=200):sA 190 [WB sn S,.int .i64 i,.agg (pA v)] (.str (dG S i v)):=by
 have h1:=encode_ev sn hS pb hi hp ho nb ma hd;simp only [sA,qA] at h1;refine wA (c:=BG) rfl rfl ?_;rw [qA];simp [BG,-V,-y3,-y0,J,h1]
theorem xU (ma:(dG S i v).size<=1000000) (hd:WK S i v<=200):sA 153 [WB sn S,.int .i64 i,.agg (pA v)] (.agg (sB (rI S i v))):=by
 have h1:=esize_ev sn hS pb hi hp ho nb ma hd;by_cases c:4096<(dG S i v).size
 ·have c':(4096:Int)<(dG S i v).size:=by omega
  have hf:rI S i v=.lng:=by unfold rI; rw [if_pos c]
  rw [hf,tT];simp only [sA,qA] at h1;refine wA (c:=GE) rfl rfl ?_;rw [qA];simp [GE,-V,-y3,-y0,J,h1,c']
 ·have c':¬ (4096:Int)<(dG S i v).size:=by omega
  have h2:=ipay_ev sn hS pb hi hp ho nb (by omega) hd;have hf:rI S i v=⟨true,false,dG S i v,v,WK S i v⟩:=by unfold rI; rw [if_neg c]
  rw [hf];simp only [sA,qA] at h1 h2;refine wA (c:=GE) rfl rfl ?_;rw [qA];simp [GE,-V,-y3,-y0,J,h1,h2,c',sB]
theorem HX (ma:(dG S i v).size<=1000000):sA 193 [WB sn S,.int .i64 i,.agg (pA v)] (.agg (sB (rI S i v))):=by
 have h1:=(F5 sn hS pb hi hp ho nb ma).2;by_cases c:4096<(dG S i v).size
 ·have c':(4096:Int)<(dG S i v).size:=by omega
  have hf:rI S i v=.lng:=by unfold rI; rw [if_pos c]
  rw [hf,tT];simp only [uI,sA,qA] at h1;refine wA (c:=KG) rfl rfl ?_;rw [qA];simp [KG,-V,-y3,-y0,J,h1,c']
 ·have c':¬ (4096:Int)<(dG S i v).size:=by omega
  have hf:rI S i v=⟨true,false,dG S i v,v,WK S i v⟩:=by unfold rI; rw [if_neg c]
  rw [hf];simp only [uI,sA,qA] at h1;refine wA (c:=KG) rfl rfl ?_;rw [qA];simp [KG,-V,-y3,-y0,J,h1,c',sB]
end
theorem B1 (a b:bO):sA 113 [.agg (sB a),.agg (sB b)] (.bool (NB a b)):=by
 refine wA (c:=jC) rfl rfl ?_;unfold sB NB AE;cases h1:a.known
 ·cases h2:b.known <;> simp [jC,-V,-y3,-y0,J]
 cases h2:b.known
 ·simp [jC,-V,-y3,-y0,J]
 cases h3:a.long
 ·cases h4:b.long
  ·by_cases c1:a.p.size<b.p.size
   ·have gf:(a.p.size:Int)<b.p.size:=by omega
    simp [jC,-V,-y3,-y0,J,c1,gf]
   ·have gf:¬ (a.p.size:Int)<b.p.size:=by omega
    by_cases c2:a.p.size=b.p.size
    ·have ol:(a.p.size:Int)=b.p.size:=by omega
     simp [jC,-V,-y3,-y0,J,c1,gf,c2,ol,BL]
    ·have ol:¬ (a.p.size:Int)=b.p.size:=by omega
     simp [jC,-V,-y3,-y0,J,c1,gf,c2,ol]
  ·simp [jC,-V,-y3,-y0,J]
 ·cases h4:b.long <;> simp [jC,-V,-y3,-y0,J]
theorem short_ev (p q:ByteArray):sA 191 [.str p,.str q] (.bool (AE p q)):=by
 refine wA (c:=JG) rfl rfl ?_;unfold AE;by_cases c1:p.size<q.size
 ·have gf:(p.size:Int)<q.size:=by omega
  simp [JG,-V,-y3,-y0,J,c1,gf]
 ·have gf:¬ (p.size:Int)<q.size:=by omega
  by_cases c2:p.size=q.size
  ·have ol:(p.size:Int)=q.size:=by omega
   simp [JG,-V,-y3,-y0,J,c1,gf,c2,ol,BL]
  ·have ol:¬ (p.size:Int)=q.size:=by omega
   simp [JG,-V,-y3,-y0,J,c1,gf,c2,ol]
theorem fZ (a b:bO) (ha:a.known=false->a=.unk) (hb:b.known=false->b=.unk) (hal:a.known=true->a.long=true->a=.lng) (nj:b.known=true->b.long=true->b=.lng):sA 154 [.agg (sB a),.agg (sB b)] (.agg (sB (if NB b a then b else a))):=by
 have hs:=short_ev b.p a.p;simp only [sA] at hs;refine wA (c:=EC) rfl rfl ?_;cases h1:a.known
 ·cases h2:b.known
  ·rw [ha h1,hb h2];simp [EC,-V,-y3,-y0,J,sB,bO.unk,NB]
  ·simp [EC,-V,-y3,-y0,J,sB,h1,h2,NB]
 cases h2:b.known
 ·simp [EC,-V,-y3,-y0,J,sB,h1,h2,NB]
 cases h3:a.long
 ·cases h4:b.long
  ·cases h5:AE b.p a.p with
   | true=>rw [h5] at hs; simp [EC,-V,-y3,-y0,J,sB,h1,h2,h3,h4,h5,NB,hs]
   | false=>rw [h5] at hs; simp [EC,-V,-y3,-y0,J,sB,h1,h2,h3,h4,h5,NB,hs]
  ·simp [EC,-V,-y3,-y0,J,sB,h1,h2,h3,h4,NB]
 ·cases h4:b.long
  ·simp [EC,-V,-y3,-y0,J,sB,h1,h2,h3,h4,NB]
  ·rw [hal h1 h3,nj h2 h4] at hs ⊢;have h5:AE bO.lng.p bO.lng.p=false:=IV _;rw [h5] at hs;simp only [bO.lng] at hs;simp [EC,-V,-y3,-y0,J,sB,bO.lng,NB,hs]
theorem nearest_ev (low high:Int):sA 152 [.int .i64 low,.int .i64 high] (.int .i64 (Q0 low high)):=by
 refine wA (c:=UF) rfl rfl ?_;unfold Q0;by_cases c1:0<low
 ·simp [UF,-V,-y3,-y0,J,c1]
 ·by_cases c2:high<0 <;> simp [UF,-V,-y3,-y0,J,c1,c2]
theorem J7 (x:gA) (hx:aB x=true) (h5:x.kind≠5) (h6:x.kind≠6):sA 194 [.agg (eA x)] (.agg (pA (mL x))):=by
 have cj:=JE hx;refine wA (c:=nE) rfl rfl ?_;unfold aB at hx;rw [y7,y7] at hx;obtain ⟨_,h1,_⟩:=hx;unfold mL;by_cases k2:x.kind=2
 ·simp [kF,k2] at h1;rw [if_pos k2];unfold Q0;by_cases c1:0<x.low
  ·have c2:¬ x.high<0:=by omega
   simp [nE,-V,-y3,-y0,J,eA,k2,c1,c2,NF,eB]
  ·by_cases c2:x.high<0 <;> simp [nE,-V,-y3,-y0,J,eA,k2,c1,c2,NF,eB]
 rw [if_neg k2];by_cases k4:x.kind=4
 ·simp [kF,k4] at h1;rw [if_pos k4];cases tn:x.syms with
  | nil=>simp [JK,tn] at h1
  | cons m r=>simp [nE,-V,-y3,-y0,J,eA,k4,NF,eB,tn,MD]
 rw [if_neg k4];simp [nE,-V,-y3,-y0,J,eA,k2,k4,NF,eB]
end
section
def zF (N:Nat) (l:WQ):List (List AV):=(List.range N).map fun j=>sB (l j)
theorem SN {N:Nat} (l:WQ) {j:Nat} (h:j<N):(zF N l)[j]?=some (sB (l j)):=by simp [zF,h]
theorem AS (N:Nat) (l:WQ):kB 11 (zF N l)=true:=rD _ _ _ fun _=>rfl
theorem free_tab (N:Nat) (l:WQ):ZD (zF N l)=true:=tJ _ _ fun _=>rfl
theorem p6 (N:Nat) (l:WQ):(zF N l).length=N:=by simp [zF]
theorem F9 (k id:Int) (u:Vl):pA (DN k id u)=[.int .i64 k,.bool false,.int .i64 0,.str ⟨#[]⟩,.int .i64 id,.sl true [],.sl false [pA u],.sl true []]:=by rw [qA]; rfl
theorem G9 (k:Int) (us:List Vl):pA (MO k us)=[.int .i64 k,.bool false,.int .i64 0,.str ⟨#[]⟩,.int .i64 0,.sl true [],.sl us.isEmpty (us.map pA),.sl true []]:=by rw [qA]; rfl
theorem n4 (x:gA):pA (mL x)=[.int .i64 x.kind,.bool false,.int .i64 (if x.kind=2 then Q0 x.low x.high else 0),.str ⟨#[]⟩,.int .i64 (if x.kind=2 then 0 else if x.kind=4 then (match x.syms with | m :: _=>m.id | []=>0) else 0),.sl true [],.sl true [],.sl true []]:=by
 unfold mL;by_cases h2:x.kind=2
 ·simp [h2,NF,eB]
 ·by_cases h4:x.kind=4
  ·simp [h2,h4,NF,eB]; rfl
  ·simp [h2,h4,NF,eB]
def LK:List rA:=[⟨.bool false,.no⟩,⟨.bool false,.no⟩,⟨.str ⟨#[]⟩,.no⟩,⟨.int .i64 0,.no⟩,⟨.bool false,.no⟩,⟨.int .i64 0,.no⟩,⟨.str ⟨#[]⟩,.no⟩,⟨.int .i64 0,.no⟩,⟨.sl true [],.ex⟩,⟨.sl true [],.ex⟩,⟨.sl true [],.ex⟩]
section
variable (sn:Bool) {S:List gA} {i:Nat} {x:gA} {l:WQ}
structure I6 (sn:Bool) (S:List gA) (i:Nat) (x:gA) (l:WQ) (s:aA):Prop where
 e1:(s.env 1).v=.int .i64 i
 e3:(s.env 3).v=.bl (zF S.length l)
 e4:(s.env 4).v=.ptr 4 1 0
 m4:s.mem 4 1=some [⟨.sl sn (S.map eA),.no⟩]
 e8:(s.env 8).v=.ptr 8 1 0
 m8:s.mem 8 1=some LK
def VRow (ws:List Vl) (r:List rA):Prop:=(ws=[]/\∃ a,r=[⟨.int .i64 5,.no⟩,⟨.bool false,.no⟩,⟨.int .i64 0,.no⟩,⟨.str ⟨#[]⟩,.no⟩,⟨.int .i64 0,.no⟩,⟨.sl true [],.no⟩,⟨.sl true [],a⟩,⟨.sl true [],.no⟩]) ∨
 (ws≠[]/\r=[⟨.int .i64 5,.no⟩,⟨.bool false,.no⟩,⟨.int .i64 0,.no⟩,⟨.str ⟨#[]⟩,.no⟩,⟨.int .i64 0,.no⟩,⟨.sl true [],.no⟩,⟨.sl false (ws.map pA),.own 72 40⟩,⟨.sl true [],.no⟩])
theorem irec_lp {rv:RV} (hS:PD S) (g:S[i]?=some x) (s:aA) (h:I6 sn S i x l s) (e10:(s.env 10).v=.bool false) (e9:(s.env 9).v=.ptr 9 2 0) (m9:∃ r,s.mem 9 2=some r/\VRow [] r) (rg:(s.env 42).v=.sl x.mn (x.mems.map nA)) (bg:(s.env 43).v=.int .i64 x.mems.length) (ul:(s.env 44).v=.int .i64 0) (k:Ex->aA->Option RV)
  (hk:∀ s' lg ws r,ID l x.mems false []=some (lg,ws)->I6 sn S i x l s'->(s'.env 10).v=.bool lg->(s'.env 9).v=.ptr 9 2 0->s'.mem 9 2=some r->VRow ws r->k (.exit 1) s'=some rv)
  (hr:∀ s':aA,ID l x.mems false []=none->(s'.env 8).v=.ptr 8 1 0->s'.mem 8 1=some ((sB .unk).map (⟨·,.no⟩))->k .ret s'=some rv):kI kA tA AA s k=some rv:=by
 have dz:x.mems.length<=16:=(hS.win x (PD.mem hS g)).few;refine bA x.mems.length (fun j s=>I6 sn S i x l s/\∃ lg ws r,ID l (x.mems.take j) false []=some (lg,ws)/\ws.length=j/\(s.env 10).v=.bool lg/\(s.env 9).v=.ptr 9 2 0/\s.mem 9 2=some r/\VRow ws r/\(s.env 42).v=.sl x.mn (x.mems.map nA)/\(s.env 43).v=.int .i64 x.mems.length/\(s.env 44).v=.int .i64 j)
  (fun e s=>(e=.exit 1/\∃ lg ws r,ID l x.mems false []=some (lg,ws)/\I6 sn S i x l s/\(s.env 10).v=.bool lg/\(s.env 9).v=.ptr 9 2 0/\s.mem 9 2=some r/\VRow ws r)\/(e=.ret/\ID l x.mems false []=none/\(s.env 8).v=.ptr 8 1 0/\s.mem 8 1=some ((sB .unk).map (⟨·,.no⟩)))) (fun j hj s kk h ih db=>?_) _ _ ?_ (fun e s h=>?_)
 ·obtain ⟨⟨e1,e3,e4,m4,e8,m8⟩,lg,ws,r,ud,og,e10,e9,m9,ha,rg,bg,ul⟩:=h;refine uA ?_;by_cases fa:j<x.mems.length
  ·have ga:(j:Int)<x.mems.length:=by omega
   have p1:x.mems[j]?=some x.mems[j]:=y4 fa;have t1:x.mems.take (j + 1)=x.mems.take j++[x.mems[j]]:=(yr fa).symm;have t2:x.mems=x.mems.take j++x.mems[j] :: x.mems.drop (j + 1):=by rw [<- y9 fa,yR]
   have hw:=LA (i:=j);have ai:0<=x.mems[j].ty/\x.mems[j].ty<S.length:=(hS.win x (PD.mem hS g)).mems _ (y5 fa);generalize x.mems[j]=m at *
   have g1:(x.mems.map nA)[j]?=some (nA m):=by rw [y8,p1]; rfl
   have g2:=SN l (N:=S.length) (j:=m.ty.toNat) (by omega);have wa:=ai.1;have tz:ID l (x.mems.take (j + 1)) false []=ID l [m] lg ws:=by rw [t1,tN,ud]; rfl
   have ja:PB 120 (ws.length + 1)=true:=by rw [CA]; omega
   have r1:PB 120 1=true:=by decide
   have q:=fM ws;simp only [LK] at m8;simp only [nA] at g1;cases hh:m.has with
   | true =>
    have zc:ID l (x.mems.take (j + 1)) false []=some (lg,ws++[m.dflt]):=by rw [tz,ID,hh,if_pos rfl,ID]
    rcases ha with ⟨kj,a,rfl⟩ | ⟨kj,rfl⟩
    ·have hj0:j=0:=by rw [<- og,kj]; rfl
     subst kj;cases lg
     ·skip
      simp [AA,-V,-y3,-y0,J,e3,e8,e9,m9,e10,rg,bg,ul,ga,g1,g2,wa,hh,hw,sB,r1,ja,q];refine ih fa _ ⟨⟨by simp [e1],by simp [e3],by simp [e4],by simp [m4],by simp [e8],by simp [m8,LK]⟩,false,_,_,zc,by simp [<- og],?_,?_,by simp; rfl,.inr ⟨by simp,by simp [qA]⟩,?_,?_,?_⟩ <;> simp [e10,e9,rg,bg]
     ·skip
      simp [AA,-V,-y3,-y0,J,e3,e8,e9,m9,e10,rg,bg,ul,ga,g1,g2,wa,hh,hw,sB,r1,ja,q];refine ih fa _ ⟨⟨by simp [e1],by simp [e3],by simp [e4],by simp [m4],by simp [e8],by simp [m8,LK]⟩,true,_,_,zc,by simp [<- og],?_,?_,by simp; rfl,.inr ⟨by simp,by simp [qA]⟩,?_,?_,?_⟩ <;> simp [e10,e9,rg,bg]
    ·skip
     cases lg
     ·skip
      simp [AA,-V,-y3,-y0,J,e3,e8,e9,m9,e10,rg,bg,ul,ga,g1,g2,wa,hh,hw,sB,r1,ja,q];refine ih fa _ ⟨⟨by simp [e1],by simp [e3],by simp [e4],by simp [m4],by simp [e8],by simp [m8,LK]⟩,false,_,_,zc,by simp [<- og],?_,?_,by simp; rfl,.inr ⟨by simp,by simp [qA]⟩,?_,?_,?_⟩ <;> simp [e10,e9,rg,bg]
     ·skip
      simp [AA,-V,-y3,-y0,J,e3,e8,e9,m9,e10,rg,bg,ul,ga,g1,g2,wa,hh,hw,sB,r1,ja,q];refine ih fa _ ⟨⟨by simp [e1],by simp [e3],by simp [e4],by simp [m4],by simp [e8],by simp [m8,LK]⟩,true,_,_,zc,by simp [<- og],?_,?_,by simp; rfl,.inr ⟨by simp,by simp [qA]⟩,?_,?_,?_⟩ <;> simp [e10,e9,rg,bg]
   | false =>
    cases rd:(l m.ty.toNat).known with
    | false =>
     have dd:ID l x.mems false []=none:=by
      rw [t2,tN,ud];simp [ID,hh,rd]
     rcases ha with ⟨kj,a,rfl⟩ | ⟨kj,rfl⟩
     ·simp [AA,-V,-y3,-y0,J,e3,e8,m8,e9,m9,e10,rg,bg,ul,ga,g1,g2,wa,hh,rd,sB];exact db _ _ (.inr ⟨rfl,dd,by simp [e8],by simp [lH]⟩)
     ·simp [AA,-V,-y3,-y0,J,e3,e8,m8,e9,m9,e10,rg,bg,ul,ga,g1,g2,wa,hh,rd,sB];exact db _ _ (.inr ⟨rfl,dd,by simp [e8],by simp [lH]⟩)
    | true =>
     have zc:ID l (x.mems.take (j + 1)) false []=some (lg||(l m.ty.toNat).long,ws++[(l m.ty.toNat).v]):=by
      rw [tz,ID,hh,rd];simp [ID]
     generalize l m.ty.toNat=e at *
     rcases ha with ⟨kj,a,rfl⟩ | ⟨kj,rfl⟩
     ·have hj0:j=0:=by rw [<- og,kj]; rfl
      subst kj;cases lg
      ·cases ec:e.long with
       | false =>
        rw [ec] at zc;simp [AA,-V,-y3,-y0,J,e3,e8,e9,m9,e10,rg,bg,ul,ga,g1,g2,wa,hh,hw,sB,r1,ja,q,rd,ec];refine ih fa _ ⟨⟨by simp [e1],by simp [e3],by simp [e4],by simp [m4],by simp [e8],by simp [m8,LK]⟩,false,_,_,zc,by simp [<- og],?_,?_,by simp; rfl,.inr ⟨by simp,by simp [qA]⟩,?_,?_,?_⟩ <;> simp [e10,e9,rg,bg]
       | true =>
        rw [ec] at zc;simp [AA,-V,-y3,-y0,J,e3,e8,e9,m9,e10,rg,bg,ul,ga,g1,g2,wa,hh,hw,sB,r1,ja,q,rd,ec];refine ih fa _ ⟨⟨by simp [e1],by simp [e3],by simp [e4],by simp [m4],by simp [e8],by simp [m8,LK]⟩,true,_,_,zc,by simp [<- og],?_,?_,by simp; rfl,.inr ⟨by simp,by simp [qA]⟩,?_,?_,?_⟩ <;> simp [e10,e9,rg,bg]
      ·cases ec:e.long with
       | false =>
        rw [ec] at zc;simp [AA,-V,-y3,-y0,J,e3,e8,e9,m9,e10,rg,bg,ul,ga,g1,g2,wa,hh,hw,sB,r1,ja,q,rd,ec];refine ih fa _ ⟨⟨by simp [e1],by simp [e3],by simp [e4],by simp [m4],by simp [e8],by simp [m8,LK]⟩,true,_,_,zc,by simp [<- og],?_,?_,by simp; rfl,.inr ⟨by simp,by simp [qA]⟩,?_,?_,?_⟩ <;> simp [e10,e9,rg,bg]
       | true =>
        rw [ec] at zc;simp [AA,-V,-y3,-y0,J,e3,e8,e9,m9,e10,rg,bg,ul,ga,g1,g2,wa,hh,hw,sB,r1,ja,q,rd,ec];refine ih fa _ ⟨⟨by simp [e1],by simp [e3],by simp [e4],by simp [m4],by simp [e8],by simp [m8,LK]⟩,true,_,_,zc,by simp [<- og],?_,?_,by simp; rfl,.inr ⟨by simp,by simp [qA]⟩,?_,?_,?_⟩ <;> simp [e10,e9,rg,bg]
     ·skip
      cases lg
      ·cases ec:e.long with
       | false =>
        rw [ec] at zc;simp [AA,-V,-y3,-y0,J,e3,e8,e9,m9,e10,rg,bg,ul,ga,g1,g2,wa,hh,hw,sB,r1,ja,q,rd,ec];refine ih fa _ ⟨⟨by simp [e1],by simp [e3],by simp [e4],by simp [m4],by simp [e8],by simp [m8,LK]⟩,false,_,_,zc,by simp [<- og],?_,?_,by simp; rfl,.inr ⟨by simp,by simp [qA]⟩,?_,?_,?_⟩ <;> simp [e10,e9,rg,bg]
       | true =>
        rw [ec] at zc;simp [AA,-V,-y3,-y0,J,e3,e8,e9,m9,e10,rg,bg,ul,ga,g1,g2,wa,hh,hw,sB,r1,ja,q,rd,ec];refine ih fa _ ⟨⟨by simp [e1],by simp [e3],by simp [e4],by simp [m4],by simp [e8],by simp [m8,LK]⟩,true,_,_,zc,by simp [<- og],?_,?_,by simp; rfl,.inr ⟨by simp,by simp [qA]⟩,?_,?_,?_⟩ <;> simp [e10,e9,rg,bg]
      ·cases ec:e.long with
       | false =>
        rw [ec] at zc;simp [AA,-V,-y3,-y0,J,e3,e8,e9,m9,e10,rg,bg,ul,ga,g1,g2,wa,hh,hw,sB,r1,ja,q,rd,ec];refine ih fa _ ⟨⟨by simp [e1],by simp [e3],by simp [e4],by simp [m4],by simp [e8],by simp [m8,LK]⟩,true,_,_,zc,by simp [<- og],?_,?_,by simp; rfl,.inr ⟨by simp,by simp [qA]⟩,?_,?_,?_⟩ <;> simp [e10,e9,rg,bg]
       | true =>
        rw [ec] at zc;simp [AA,-V,-y3,-y0,J,e3,e8,e9,m9,e10,rg,bg,ul,ga,g1,g2,wa,hh,hw,sB,r1,ja,q,rd,ec];refine ih fa _ ⟨⟨by simp [e1],by simp [e3],by simp [e4],by simp [m4],by simp [e8],by simp [m8,LK]⟩,true,_,_,zc,by simp [<- og],?_,?_,by simp; rfl,.inr ⟨by simp,by simp [qA]⟩,?_,?_,?_⟩ <;> simp [e10,e9,rg,bg]
  ·have ga:¬ (j:Int)<x.mems.length:=by omega
   rw [yv (by omega)] at ud;simp [AA,-V,-y3,-y0,J,bg,ul,ga];exact db _ _ (.inl ⟨rfl,lg,ws,_,ud,⟨by simp [e1],by simp [e3],by simp [e4],by simp [m4],by simp [e8],by simp [m8]⟩,by simp [e10],by simp [e9],m9,ha⟩)
 ·obtain ⟨r,h1,h2⟩:=m9;exact ⟨h,false,[],r,rfl,rfl,e10,e9,h1,h2,rg,bg,ul⟩
 ·rcases h with ⟨rfl,lg,ws,r,q1,q2,q3,q4,q5,q6⟩ | ⟨rfl,q1,q2,q3⟩
  ·exact hk s lg ws r q1 q2 q3 q4 q5 q6
  ·exact hr s q1 q2 q3
end
end
section
theorem IR (S:List gA) (t k:Int) (l:WQ):∀ (a:List bB) (m:bB) (b:bO),fF S t k l (a++[m]) b=if NB (dF S t k m (l m.ty.toNat)) (fF S t k l a b) then dF S t k m (l m.ty.toNat) else fF S t k l a b
 | [],m,b=>rfl
 | m' :: r,m,b=>by rw [yx,fF,fF,IR S t k l r m]
def AL (b:bO) (r:List rA):Prop:=r.length=11/\r.map (·.v)=sB b
theorem AL.load {b:bO} {r:List rA} (h:AL b r):SA true 11 0 r=some ⟨.agg (sB b),.no⟩:=by
 obtain ⟨h1,h2⟩:=h;unfold SA;rw [if_pos rfl,if_pos (by omega),List.drop_zero,yv (by omega),h2]
theorem AL.store {b:bO} {r:List rA} (h:AL b r) (cs:List AV) (hc:cs.length=11) (a:An):xA true 11 0 r (.agg cs) a=some (cs.map (⟨·,.no⟩)):=by
 obtain ⟨h1,_⟩:=h;unfold xA;simp [hc,h1]
theorem AL.mk (b:bO):AL b ((sB b).map (⟨·,.no⟩)):=⟨rfl,by rw [y0]; simp [Function.comp_def]⟩
theorem AL.zero:AL .unk LK:=⟨rfl,rfl⟩
section
variable (sn:Bool) {S:List gA} {i:Nat} {x:gA} {l:WQ}
theorem arm_size (hS:PD S) (g:S[i]?=some x) (hl:QH S l) (h6:x.kind=6) {m:bB} (hm:m∈x.mems) (hk:(l m.ty.toNat).known=true/\(l m.ty.toNat).long=false):(dG S i (DN 6 m.id (l m.ty.toNat).v)).size<=1000000:=by
 rw [(EQ hS g hl h6 hm _).1,ByteArray.size_append];obtain ⟨e1,_,_,_,_,e2⟩:=(ZJ hS g hl hm).v hk.1 hk.2;rw [<- e1];have:=sJ m.id;omega
theorem arm_fin (hS:PD S) (pb:∀ x∈S,x.mems.length<=12) (g:S[i]?=some x) (hl:QH S l) (hd:∀ u,u<S.length->(l u).d<=S.length) (h6:x.kind=6) {m:bB} (hm:m∈x.mems) (hk:(l m.ty.toNat).known=true/\(l m.ty.toNat).long=false):sA 153 [WB sn S,.int .i64 i,.agg (pA (DN 6 m.id (l m.ty.toNat).v))] (.agg (sB (rI S i (DN 6 m.id (l m.ty.toNat).v))))/\sA 193 [WB sn S,.int .i64 i,.agg (pA (DN 6 m.id (l m.ty.toNat).v))] (.agg (sB (rI S i (DN 6 m.id (l m.ty.toNat).v)))):=by
 obtain ⟨q1,q2,q3⟩:=arm_ok hS g hl h6 hm hk;obtain ⟨_,e2,_⟩:=(ZJ hS g hl hm).v hk.1 hk.2;have hdd:=hd _ (O9 hS g hl hm).2.2.1;have ba:=hS.len;have ma:=arm_size hS g hl h6 hm hk;exact ⟨xU sn hS pb (PD.lt hS g) q1 q2 q3 ma (by rw [(EQ hS g hl h6 hm _).2]; omega),HX sn hS pb (PD.lt hS g) q1 q2 q3 ma⟩
theorem iuni_lp {rv:RV} (hS:PD S) (pb:∀ x∈S,x.mems.length<=12) (g:S[i]?=some x) (hl:QH S l) (hd:∀ u,u<S.length->(l u).d<=S.length) (h6:x.kind=6) (uk:Nat) (s:aA) (h:I6 sn S i x l s) (e6:(s.env 6).v=.ptr 6 1 0) (m6:s.mem 6 1=some (MA x)) (gd:(s.env 14).v=.ptr 14 uk 0) (ut:∃ r,s.mem 14 uk=some r/\AL .unk r) (iq:(s.env 80).v=.sl x.mn (x.mems.map nA)) (po:(s.env 81).v=.int .i64 x.mems.length) (rx:(s.env 82).v=.int .i64 0) (k:Ex->aA->Option RV)
  (hk:∀ s' r,I6 sn S i x l s'->(s'.env 14).v=.ptr 14 uk 0->s'.mem 14 uk=some r->AL (fF S i 6 l x.mems .unk) r->k (.exit 3) s'=some rv):kI kA tA cB s k=some rv:=by
 have dz:x.mems.length<=16:=(hS.win x (PD.mem hS g)).few;refine bA x.mems.length (fun j s=>I6 sn S i x l s/\(s.env 6).v=.ptr 6 1 0/\s.mem 6 1=some (MA x)/\(s.env 14).v=.ptr 14 uk 0/\(∃ r,s.mem 14 uk=some r/\AL (fF S i 6 l (x.mems.take j) .unk) r)/\(s.env 80).v=.sl x.mn (x.mems.map nA)/\(s.env 81).v=.int .i64 x.mems.length/\(s.env 82).v=.int .i64 j)
  (fun e s=>e=.exit 3/\I6 sn S i x l s/\(s.env 14).v=.ptr 14 uk 0/\∃ r,s.mem 14 uk=some r/\AL (fF S i 6 l x.mems .unk) r) (fun j hj s kk h ih db=>?_) _ _ ⟨h,e6,m6,gd,ut,iq,po,rx⟩ (fun e s h=>by obtain ⟨rfl,h1,h2,r,h3,h4⟩:=h; exact hk s r h1 h2 h3 h4)
 obtain ⟨⟨e1,e3,e4,m4,e8,m8⟩,e6,m6,gd,⟨r,ut,hr⟩,iq,po,rx⟩:=h;refine uA ?_;by_cases fa:j<x.mems.length
 ·have ga:(j:Int)<x.mems.length:=by omega
  have p1:x.mems[j]?=some x.mems[j]:=y4 fa;have t1:x.mems.take (j + 1)=x.mems.take j++[x.mems[j]]:=(yr fa).symm;have hw:=LA (i:=j);have ui:x.mems[j]∈x.mems:=y5 fa;have ai:0<=x.mems[j].ty/\x.mems[j].ty<S.length:=(hS.win x (PD.mem hS g)).mems _ ui;generalize x.mems[j]=m at *
  have g1:(x.mems.map nA)[j]?=some (nA m):=by rw [y8,p1]; rfl
  have g2:=SN l (N:=S.length) (j:=m.ty.toNat) (by omega);have wa:=ai.1;have we:=fun hk=>(arm_fin sn hS pb g hl hd h6 ui hk).1
  have ph:=IR S i 6 l (x.mems.take j) m .unk;rw [<- t1] at ph;rw [ph] at ih;generalize fF S i 6 l (x.mems.take j) .unk=b at *
  have od:=hr.load;have mb:=hr.store;have md:=B1 (dF S i 6 m (l m.ty.toNat)) b;simp only [MA,h6] at m6;simp only [nA] at g1;have nxt:∀ (s':aA) (r':List rA),(s'.env 1).v=.int .i64 i->(s'.env 3).v=.bl (zF S.length l)->(s'.env 4).v=.ptr 4 1 0->s'.mem 4 1=s.mem 4 1->(s'.env 8).v=.ptr 8 1 0->s'.mem 8 1=s.mem 8 1->(s'.env 6).v=.ptr 6 1 0->s'.mem 6 1=s.mem 6 1->(s'.env 14).v=.ptr 14 uk 0->s'.mem 14 uk=some r'->AL (if NB (dF S i 6 m (l m.ty.toNat)) b then dF S i 6 m (l m.ty.toNat) else b) r'->(s'.env 80).v=.sl x.mn (x.mems.map nA)->(s'.env 81).v=.int .i64 x.mems.length->(s'.env 82).v=.int .i64 ((j + 1:Nat):Int)->kI kA tA cB s' kk=some rv:=fun s' r' q1 q2 q3 q4 q5 q6 q7 q8 q9 q10 q11 q12 q13 q14=>ih fa s' ⟨⟨q1,q2,q3,by rw [q4,m4],q5,by rw [q6,m8]⟩,q7,by rw [q8,m6]; simp [MA,h6],q9,⟨r',q10,q11⟩,q12,q13,q14⟩
  cases rd:(l m.ty.toNat).known with
  | false =>
   have ha:dF S i 6 m (l m.ty.toNat)=l m.ty.toNat:=by simp [dF,rd]
   rw [ha] at md nxt;generalize l m.ty.toNat=e at *
   simp only [sA,sB,rd] at md;simp only [sB] at od;cases hb:NB e b with
   | true =>
    rw [hb] at md nxt;simp [cB,-V,-y3,-y0,J,-SA,-xA,RA,OA,lA,zA,e3,gd,ut,iq,po,rx,ga,g1,g2,wa,rd,hw,sB,od,mb,md];refine nxt _ _ ?_ ?_ ?_ ?_ ?_ ?_ ?_ ?_ ?_ (by simp; rfl) (by simpa [sB,rd] using AL.mk e) ?_ ?_ ?_ <;> simp [e1,e3,e4,e8,e6,gd,iq,po]
   | false =>
    rw [hb] at md nxt;simp [cB,-V,-y3,-y0,J,-SA,-xA,RA,OA,lA,zA,e3,gd,ut,iq,po,rx,ga,g1,g2,wa,rd,hw,sB,od,mb,md];refine nxt _ r ?_ ?_ ?_ ?_ ?_ ?_ ?_ ?_ ?_ (by simp [ut]) (by simpa using hr) ?_ ?_ ?_ <;> simp [e1,e3,e4,e8,e6,gd,iq,po]
  | true =>
   cases ec:(l m.ty.toNat).long with
   | true =>
    have ha:dF S i 6 m (l m.ty.toNat)=l m.ty.toNat:=by simp [dF,ec]
    rw [ha] at md nxt;generalize l m.ty.toNat=e at *
    simp only [sA,sB,rd,ec] at md;simp only [sB] at od;cases hb:NB e b with
    | true =>
     rw [hb] at md nxt;simp [cB,-V,-y3,-y0,J,-SA,-xA,RA,OA,lA,zA,e3,gd,ut,iq,po,rx,ga,g1,g2,wa,rd,ec,hw,sB,od,mb,md];refine nxt _ _ ?_ ?_ ?_ ?_ ?_ ?_ ?_ ?_ ?_ (by simp; rfl) (by simpa [sB,rd,ec] using AL.mk e) ?_ ?_ ?_ <;> simp [e1,e3,e4,e8,e6,gd,iq,po]
    | false =>
     rw [hb] at md nxt;simp [cB,-V,-y3,-y0,J,-SA,-xA,RA,OA,lA,zA,e3,gd,ut,iq,po,rx,ga,g1,g2,wa,rd,ec,hw,sB,od,mb,md];refine nxt _ r ?_ ?_ ?_ ?_ ?_ ?_ ?_ ?_ ?_ (by simp [ut]) (by simpa using hr) ?_ ?_ ?_ <;> simp [e1,e3,e4,e8,e6,gd,iq,po]
   | false =>
    have ha:dF S i 6 m (l m.ty.toNat)=rI S i (DN 6 m.id (l m.ty.toNat).v):=by simp [dF,rd,ec]
    rw [ha] at md nxt;have hf:=we ⟨rd,ec⟩;rw [F9] at hf;generalize rI S i (DN 6 m.id (l m.ty.toNat).v)=c at *
    generalize l m.ty.toNat=e at *
    simp only [sA,sB,qA] at md hf;simp only [sB] at od;cases hb:NB c b with
    | true =>
     rw [hb] at md nxt;simp [cB,-V,-y3,-y0,J,-SA,-xA,RA,OA,lA,zA,e1,e3,e4,m4,e6,m6,gd,ut,iq,po,rx,ga,g1,g2,wa,rd,ec,hw,sB,od,mb,md,hf];refine nxt _ _ ?_ ?_ ?_ ?_ ?_ ?_ ?_ ?_ ?_ (by simp; rfl) (by simpa [sB] using AL.mk c) ?_ ?_ ?_ <;> simp [e1,e3,e4,e8,e6,gd,iq,po]
    | false =>
     rw [hb] at md nxt;simp [cB,-V,-y3,-y0,J,-SA,-xA,RA,OA,lA,zA,e1,e3,e4,m4,e6,m6,gd,ut,iq,po,rx,ga,g1,g2,wa,rd,ec,hw,sB,od,mb,md,hf];refine nxt _ r ?_ ?_ ?_ ?_ ?_ ?_ ?_ ?_ ?_ (by simp [ut]) (by simpa using hr) ?_ ?_ ?_ <;> simp [e1,e3,e4,e8,e6,gd,iq,po]
 ·have ga:¬ (j:Int)<x.mems.length:=by omega
  rw [yv (by omega)] at hr;simp [cB,-V,-y3,-y0,J,po,rx,ga];exact db _ _ ⟨rfl,⟨by simp [e1],by simp [e3],by simp [e4],by simp [m4],by simp [e8],by simp [m8]⟩,by simp [gd],r,ut,hr⟩
end
end
section
theorem rec_dep_le {S:List gA} {i:Nat} {x:gA} {l:WQ} (hS:PD S) (g:S[i]?=some x) (hl:QH S l) (hd:∀ u,u<S.length->(l u).d<=S.length) (h5:x.kind=5) (hk:∀ m∈x.mems,m.has=false->(l m.ty.toNat).known=true/\(l m.ty.toNat).long=false):WK S i (MO 5 (x.mems.map (fG l)))<=200:=by
 rw [rec_dep hS g hl h5];have ba:=hS.len;rcases AT (WK S) x.mems (x.mems.map (fG l)) 0 with h | ⟨j,m,v,q1,q2,q3,q4⟩
 ·omega
 ·obtain ⟨hm,hh,rfl⟩:=bY hS g hl q1 q2 q3;obtain ⟨_,e2,_⟩:=(ZJ hS g hl hm).v (hk m hm hh).1 (hk m hm hh).2;have:=hd _ (O9 hS g hl hm).2.2.1;omega
section
variable (sn:Bool) {S:List gA} {i:Nat} {x:gA} {l:WQ} (hS:PD S) (pb:∀ x∈S,x.mems.length<=12) (g:S[i]?=some x) (hl:QH S l) (hd:∀ u,u<S.length->(l u).d<=S.length)
include hS pb g hl hd
theorem G7 (h5:x.kind≠5) (h6:x.kind≠6):sA 153 [WB sn S,.int .i64 i,.agg (pA (mL x))] (.agg (sB (lC S i l)))/\sA 193 [WB sn S,.int .i64 i,.agg (pA (mL x))] (.agg (sB (lC S i l))):=by
 have hi:lC S i l=rI S i (mL x):=by simp only [lC,g]; rw [oO,if_neg h5,if_neg h6]
 obtain ⟨q1,q2,q3⟩:=H7 hS g h5 h6;have cj:=JE (hS.good x (PD.mem hS g)).1;have hdep:WK S i (mL x)=1:=by
  rw [Z4 hS g];unfold FH mL;rw [if_neg h5,if_neg h6];by_cases k2:x.kind=2
  ·simp [k2]
  by_cases k4:x.kind=4
  ·simp [k4]
  by_cases k9:x.kind=9
  ·simp [k9,Vl.of,Vl.items,H8]
  by_cases k7:x.kind=7
  ·simp [k7,Vl.of,Vl.items,HF]
  by_cases k8:x.kind=8
  ·simp [k8,Vl.of,Vl.items,Vl.keys,xH]
  ·simp [k9,k7,k8]
 have ma:(dG S i (mL x)).size<=1000000:=by
  have e0:(ByteArray.mk #[]).size=0:=rfl;rw [pay_at hS g];unfold eD mL;rw [if_neg h5,if_neg h6];by_cases k1:x.kind=1
  ·simp [k1,Vl.of,Vl.b,eB,e0]
  rw [if_neg k1];by_cases k2:x.kind=2
  ·rw [if_pos k2];have:=M1 (CZ (Vl.of 2 false (Q0 x.low x.high) eB 0).i);simp [k2];omega
  rw [if_neg k2];by_cases k3:x.kind=3
  ·simp [k3,Vl.of,Vl.s,eB,e0]
  rw [if_neg k3];by_cases k4:x.kind=4
  ·rw [if_pos k4];exact yw (M1 _) (by omega)
  rw [if_neg k4];by_cases k9:x.kind=9
  ·simp [k9,Vl.of,Vl.items,LW,eB,e0]
  rw [if_neg k9];by_cases k7:x.kind=7
  ·simp [k7,Vl.of,Vl.items,TD,eB,e0]
  ·rw [if_neg k7];simp [k2,k4,Vl.of,Vl.items,Vl.keys,mE,eB,e0]
 rw [hi];exact ⟨xU sn hS pb (PD.lt hS g) q1 q2 q3 ma (by omega),HX sn hS pb (PD.lt hS g) q1 q2 q3 ma⟩
theorem imp_rec (h5:x.kind=5) {ws:List Vl} (hr:ID l x.mems false []=some (false,ws)):sA 153 [WB sn S,.int .i64 i,.agg (pA (MO 5 ws))] (.agg (sB (lC S i l)))/\sA 193 [WB sn S,.int .i64 i,.agg (pA (MO 5 ws))] (.agg (sB (lC S i l))):=by
 have hi:lC S i l=rI S i (MO 5 ws):=by simp only [lC,g]; rw [oO,if_pos h5,hr]
 obtain ⟨h1,h2,h3⟩:=DK l _ _ _ _ _ hr;rw [yK] at h1;subst h1;have hk:∀ m∈x.mems,m.has=false->(l m.ty.toNat).known=true/\(l m.ty.toNat).long=false:=fun m hm hh=>⟨h2 m hm hh,(h3.1 rfl).2 m hm hh⟩
 obtain ⟨q1,q2,q3⟩:=recV_ok hS g hl h5 hk;have ma:=rec_size hS g hl h5 hk;rw [hi];exact ⟨xU sn hS pb (PD.lt hS g) q1 q2 q3 ma (rec_dep_le hS g hl hd h5 hk),HX sn hS pb (PD.lt hS g) q1 q2 q3 ma⟩
theorem improve_ev:sA 112 [WB sn S,.int .i64 i,.agg (eA x),.bl (zF S.length l)] (.agg (sB (lC S i l))):=by
 refine wA (c:=NC) rfl rfl ?_;have ah:=(hS.good x (PD.mem hS g)).1;by_cases h5:x.kind=5
 ·have hi:lC S i l=match ID l x.mems false [] with | none=>.unk | some (true,_)=>.lng | some (false,vs)=>rI S i (MO 5 vs):=by simp only [lC,g]; rw [oO,if_pos h5]; rfl
  simp [NC,-V,-y3,-y0,J,eA,h5];refine irec_lp sn (l:=l) hS g _ ⟨?_,?_,?_,?_,?_,?_⟩ ?_ ?_ ⟨_,?_,.inl ⟨rfl,.no,rfl⟩⟩ ?_ ?_ ?_ _ (fun s' lg ws r q1 q2 q3 q4 q5 q6=>?_) (fun s' q1 q2 q3=>?_)
  ·simp
  ·simp
  ·simp
  ·simp
  ·simp
  ·simp [LK,rB]
  ·simp
  ·simp
  ·simp
  ·simp
  ·simp
  ·simp
  ·obtain ⟨e1,e3,e4,m4,e8,m8⟩:=q2;simp only [LK] at m8;cases lg with
   | true =>
    rw [hi,q1];simp only [tT];simp [-V,-y3,-y0,J,q3,e8,m8]
   | false =>
    have hf:=(imp_rec sn hS pb g hl hd h5 q1).1;rw [G9] at hf;generalize lC S i l=c at *
    simp only [sA,sB] at hf ⊢;rcases q6 with ⟨rfl,a,rfl⟩ | ⟨kj,rfl⟩
    ·simp at hf;simp [-V,-y3,-y0,J,q3,q4,q5,e1,e4,m4,e8,m8,hf]
    ·have ta:ws.isEmpty=false:=by cases ws with | nil=>exact absurd rfl kj | cons _ _=>rfl
     rw [ta] at hf;simp [-V,-y3,-y0,J,q3,q4,q5,e1,e4,m4,e8,m8,hf]
  ·rw [hi,q1];simp only [lH] at q3 ⊢;simp [-V,-y3,-y0,J,q2,q3]
 ·by_cases h6:x.kind=6
  ·have hi:lC S i l=fF S i 6 l x.mems .unk:=by simp only [lC,g]; rw [oO,if_neg h5,if_pos h6]
   simp [NC,-V,-y3,-y0,J,eA,h6];refine iuni_lp sn hS pb g hl hd h6 8 _ ⟨?_,?_,?_,?_,?_,?_⟩ ?_ ?_ ?_ ⟨LK,?_,AL.zero⟩ ?_ ?_ ?_ _ (fun s' r q1 q2 q3 q4=>?_)
   ·simp
   ·simp
   ·simp
   ·simp
   ·simp
   ·simp [LK,rB]
   ·simp
   ·simp [h6]
   ·simp
   ·simp [LK,rB]
   ·simp
   ·simp
   ·simp
   ·obtain ⟨e1,e3,e4,m4,e8,m8⟩:=q1;have od:=q4.load;have mb:=AL.zero.store (sB (fF S i 6 l x.mems .unk)) rfl;rw [hi];generalize fF S i 6 l x.mems .unk=c at *
    simp only [sB] at od mb ⊢;simp [-V,-y3,-y0,J,-SA,-xA,RA,OA,lA,zA,q2,q3,od,e8,m8,mb]
  ·have hf:=(G7 sn hS pb g hl hd h5 h6).1;rw [n4] at hf;generalize lC S i l=c at *
   simp only [sA,sB] at hf ⊢;by_cases k2:x.kind=2
   ·have hn:=nearest_ev x.low x.high;simp [k2] at hf;simp only [sA] at hn;simp [NC,-V,-y3,-y0,J,eA,k2,hn,hf]
   ·by_cases k4:x.kind=4
    ·simp [k4] at hf;have dy:=ah;unfold aB at dy;rw [y7,y7] at dy;obtain ⟨_,h1,_⟩:=dy;simp [kF,k4] at h1;cases tn:x.syms with
     | nil=>simp [JK,tn] at h1
     | cons m r =>
      rw [tn] at hf;simp at hf;simp [NC,-V,-y3,-y0,J,eA,k4,tn,MD,hf]
    ·simp [k2,k4] at hf;simp [NC,-V,-y3,-y0,J,eA,k2,k4,h5,h6,hf]
end
end
section
def WRow (ws:List Vl) (r:List rA):Prop:=(ws=[]/\∃ a,r=[⟨.int .i64 5,.no⟩,⟨.bool false,.no⟩,⟨.int .i64 0,.no⟩,⟨.str ⟨#[]⟩,.no⟩,⟨.int .i64 0,.no⟩,⟨.sl true [],.no⟩,⟨.sl true [],a⟩,⟨.sl true [],.no⟩]) ∨
 (ws≠[]/\∃ a,(a=.own 43 40\/a=.own 33 40)/\r=[⟨.int .i64 5,.no⟩,⟨.bool false,.no⟩,⟨.int .i64 0,.no⟩,⟨.str ⟨#[]⟩,.no⟩,⟨.int .i64 0,.no⟩,⟨.sl true [],.no⟩,⟨.sl false (ws.map pA),a⟩,⟨.sl true [],.no⟩])
def cntA (lg:Bool) (ws:List Vl):AV:=if lg then .tup [.agg [.int .i64 0,.bool false,.int .i64 0,.str ⟨#[]⟩,.int .i64 0,.sl true [],.sl true [],.sl true []],.bool true] else .tup [.agg [.int .i64 5,.bool false,.int .i64 0,.str ⟨#[]⟩,.int .i64 0,.sl true [],.sl ws.isEmpty (ws.map pA),.sl true []],.bool false]
section
variable {S:List gA} {i:Nat} {x:gA} {l:WQ}
theorem content_ev (hS:PD S) (g:S[i]?=some x) (h5:x.kind=5) {lg:Bool} {ws0:List Vl} (dx:ID l x.mems false []=some (lg,ws0)):sA 192 [.agg (eA x),.bl (zF S.length l)] (cntA lg ws0):=by
 have dz:x.mems.length<=16:=(hS.win x (PD.mem hS g)).few;obtain ⟨z1,z2,z3⟩:=DK l _ _ _ _ _ dx;refine wA (c:=OI) rfl rfl ?_;simp [OI,-V,-y3,-y0,J,eA,h5];refine bA x.mems.length (fun j s=>(s.env 1).v=.bl (zF S.length l)/\(s.env 2).v=.ptr 2 1 0/\s.mem 2 1=some (MA x)/\(s.env 4).v=.ptr 4 1 0/\s.mem 4 1=some [⟨.int .i64 0,.no⟩,⟨.bool false,.no⟩,⟨.int .i64 0,.no⟩,⟨.str ⟨#[]⟩,.no⟩,⟨.int .i64 0,.no⟩,⟨.sl true [],.ex⟩,⟨.sl true [],.ex⟩,⟨.sl true [],.ex⟩]/\∃ ws r,ID l (x.mems.take j) false []=some (false,ws)/\ws.length=j/\(s.env 6).v=.ptr 6 2 0/\s.mem 6 2=some r/\WRow ws r/\(s.env 7).v=.int .i64 j)
  (fun e s=>(e=.exit 0/\lg=false/\(s.env 4).v=.ptr 4 1 0/\s.mem 4 1=some [⟨.int .i64 0,.no⟩,⟨.bool false,.no⟩,⟨.int .i64 0,.no⟩,⟨.str ⟨#[]⟩,.no⟩,⟨.int .i64 0,.no⟩,⟨.sl true [],.ex⟩,⟨.sl true [],.ex⟩,⟨.sl true [],.ex⟩]/\∃ r,(s.env 6).v=.ptr 6 2 0/\s.mem 6 2=some r/\WRow ws0 r)\/(e=.ret/\lg=true/\(s.env 5).v=.bool true/\(s.env 4).v=.ptr 4 1 0/\s.mem 4 1=some [⟨.int .i64 0,.no⟩,⟨.bool false,.no⟩,⟨.int .i64 0,.no⟩,⟨.str ⟨#[]⟩,.no⟩,⟨.int .i64 0,.no⟩,⟨.sl true [],.no⟩,⟨.sl true [],.no⟩,⟨.sl true [],.no⟩])) (fun j hj s kk h ih db=>?_) _ _ ?_ (fun e s h=>?_)
 ·obtain ⟨e1,e2,m2,e4,m4,ws,r,ud,og,e6,m6,ka,e7⟩:=h;refine uA ?_;simp only [MA,h5] at m2;by_cases fa:j<x.mems.length
  ·have ga:(j:Int)<x.mems.length:=by omega
   have p1:x.mems[j]?=some x.mems[j]:=y4 fa;have t1:x.mems.take (j + 1)=x.mems.take j++[x.mems[j]]:=(yr fa).symm;have hw:=LA (i:=j);have ui:x.mems[j]∈x.mems:=y5 fa;have ai:0<=x.mems[j].ty/\x.mems[j].ty<S.length:=(hS.win x (PD.mem hS g)).mems _ ui;generalize x.mems[j]=m at *
   have g1:(x.mems.map nA)[j]?=some (nA m):=by rw [y8,p1]; rfl
   have g2:=SN l (N:=S.length) (j:=m.ty.toNat) (by omega);have wa:=ai.1;have tz:ID l (x.mems.take (j + 1)) false []=ID l [m] false ws:=by rw [t1,tN,ud]; rfl
   have ja:PB 120 (ws.length + 1)=true:=by rw [CA]; omega
   have r1:PB 120 1=true:=by decide
   have q:=fM ws;simp only [nA] at g1;have nxt:∀ (s':aA) (w:Vl) (r':List rA),ID l (x.mems.take (j + 1)) false []=some (false,ws++[w])->(s'.env 1).v=.bl (zF S.length l)->(s'.env 2).v=.ptr 2 1 0->s'.mem 2 1=s.mem 2 1->(s'.env 4).v=.ptr 4 1 0->s'.mem 4 1=s.mem 4 1->(s'.env 6).v=.ptr 6 2 0->s'.mem 6 2=some r'->WRow (ws++[w]) r'->(s'.env 7).v=.int .i64 ((j + 1:Nat):Int)->kI kA tA OB s' kk=some (cntA lg ws0,none):=fun s' w r' q0 q1 q2 q3 q4 q5 q6 q7 q8 q9=>ih fa s' ⟨q1,q2,by rw [q3,m2]; simp [MA,h5],q4,by rw [q5,m4],_,r',q0,by simp [og],q6,q7,q8,q9⟩
   cases hh:m.has with
   | true =>
    have zc:ID l (x.mems.take (j + 1)) false []=some (false,ws++[m.dflt]):=by rw [tz,ID,hh,if_pos rfl,ID]
    rcases ka with ⟨kj,a,rfl⟩ | ⟨kj,a,ha | ha,rfl⟩
    ·subst kj;simp [OB,-V,-y3,-y0,J,e1,e2,m2,e6,m6,e7,ga,g1,g2,wa,hh,hw,r1];refine nxt _ _ _ zc ?_ ?_ ?_ ?_ ?_ ?_ (by simp; rfl) (.inr ⟨by simp,_,.inl rfl,by simp [qA]⟩) ?_ <;> simp [e1,e2,e4,e6,m2,m4]
    ·subst ha;simp [OB,-V,-y3,-y0,J,e1,e2,m2,e6,m6,e7,ga,g1,g2,wa,hh,hw,q,ja];refine nxt _ _ _ zc ?_ ?_ ?_ ?_ ?_ ?_ (by simp; rfl) (.inr ⟨by simp,_,.inl rfl,by simp [qA]⟩) ?_ <;> simp [e1,e2,e4,e6,m2,m4]
    ·subst ha;simp [OB,-V,-y3,-y0,J,e1,e2,m2,e6,m6,e7,ga,g1,g2,wa,hh,hw,q,ja];refine nxt _ _ _ zc ?_ ?_ ?_ ?_ ?_ ?_ (by simp; rfl) (.inr ⟨by simp,_,.inl rfl,by simp [qA]⟩) ?_ <;> simp [e1,e2,e4,e6,m2,m4]
   | false =>
    have rd:=z2 m ui hh;cases ec:(l m.ty.toNat).long with
    | true =>
     have hlgt:lg=true:=by
      cases lg with
      | true=>rfl
      | false=>have:=(z3.1 rfl).2 m ui hh; rw [ec] at this; cases this
     generalize l m.ty.toNat=e at *
     simp [OB,-V,-y3,-y0,J,e1,e2,m2,e4,m4,e6,m6,e7,ga,g1,g2,wa,hh,ec,sB];exact db _ _ (.inr ⟨rfl,hlgt,by simp,by simp [e4],by simp⟩)
    | false =>
     have zc:ID l (x.mems.take (j + 1)) false []=some (false,ws++[(l m.ty.toNat).v]):=by
      rw [tz,ID,hh,rd,ec];simp [ID]
     generalize l m.ty.toNat=e at *
     rcases ka with ⟨kj,a,rfl⟩ | ⟨kj,a,ha | ha,rfl⟩
     ·subst kj;simp [OB,-V,-y3,-y0,J,e1,e2,m2,e6,m6,e7,ga,g1,g2,wa,hh,ec,hw,r1,sB];refine nxt _ _ _ zc ?_ ?_ ?_ ?_ ?_ ?_ (by simp; rfl) (.inr ⟨by simp,_,.inr rfl,by simp [qA]⟩) ?_ <;> simp [e1,e2,e4,e6,m2,m4]
     ·subst ha;simp [OB,-V,-y3,-y0,J,e1,e2,m2,e6,m6,e7,ga,g1,g2,wa,hh,ec,hw,q,ja,sB];refine nxt _ _ _ zc ?_ ?_ ?_ ?_ ?_ ?_ (by simp; rfl) (.inr ⟨by simp,_,.inr rfl,by simp [qA]⟩) ?_ <;> simp [e1,e2,e4,e6,m2,m4]
     ·subst ha;simp [OB,-V,-y3,-y0,J,e1,e2,m2,e6,m6,e7,ga,g1,g2,wa,hh,ec,hw,q,ja,sB];refine nxt _ _ _ zc ?_ ?_ ?_ ?_ ?_ ?_ (by simp; rfl) (.inr ⟨by simp,_,.inr rfl,by simp [qA]⟩) ?_ <;> simp [e1,e2,e4,e6,m2,m4]
  ·have ga:¬ (j:Int)<x.mems.length:=by omega
   rw [yv (by omega),dx] at ud;injection ud with ud;injection ud with fl au;subst fl; subst au;simp [OB,-V,-y3,-y0,J,e2,m2,e7,ga];exact db _ _ (.inl ⟨rfl,rfl,by simp [e4],m4,r,by simp [e6],m6,ka⟩)
 ·refine ⟨?_,?_,?_,?_,?_,[],_,rfl,rfl,?_,?_,.inl ⟨rfl,.no,rfl⟩,?_⟩ <;> simp [h5,rB]
 ·rcases h with ⟨rfl,rfl,e4,m4,r,e6,m6,ka⟩ | ⟨rfl,rfl,e5,e4,m4⟩
  ·rcases ka with ⟨kj,a,rfl⟩ | ⟨kj,a,_,rfl⟩
   ·subst kj;simp [-V,-y3,-y0,J,e4,m4,e6,m6,cntA]
   ·have ta:ws0.isEmpty=false:=by cases ws0 with | nil=>exact absurd rfl kj | cons _ _=>rfl
    simp [-V,-y3,-y0,J,e4,m4,e6,m6,cntA,ta]
  ·simp [-V,-y3,-y0,J,e4,m4,e5,cntA]
end
end
section
section
variable (sn:Bool) {S:List gA} {i:Nat} {x:gA} {l:WQ}
structure H6 (sn:Bool) (S:List gA) (i:Nat) (x:gA) (l:WQ) (s:aA):Prop where
 e1:(s.env 1).v=.int .i64 i
 e2:(s.env 2).v=.bl (zF S.length l)
 e3:(s.env 3).v=.ptr 3 1 0
 m3:s.mem 3 1=some [⟨.sl sn (S.map eA),.no⟩]
 e6:(s.env 6).v=.ptr 6 1 0
 m6:s.mem 6 1=some LK
 e7:(s.env 7).v=.ptr 7 2 0
 m7:s.mem 7 2=some (MA x)
theorem rrec_lp {rv:RV} (hS:PD S) (g:S[i]?=some x) (h5:x.kind=5) (s:aA) (h:H6 sn S i x l s) (e8:(s.env 8).v=.int .i64 0) (k:Ex->aA->Option RV)
  (hk:∀ s' lg ws,ID l x.mems false []=some (lg,ws)->H6 sn S i x l s'->k (.exit 0) s'=some rv)
  (hr:∀ s':aA,ID l x.mems false []=none->(s'.env 6).v=.ptr 6 1 0->s'.mem 6 1=some ((sB .unk).map (⟨·,.no⟩))->k .ret s'=some rv):kI kA tA cD s k=some rv:=by
 have dz:x.mems.length<=16:=(hS.win x (PD.mem hS g)).few;refine bA x.mems.length (fun j s=>H6 sn S i x l s/\(s.env 8).v=.int .i64 j/\∃ q,ID l (x.mems.take j) false []=some q)
  (fun e s=>(e=.exit 0/\∃ q,ID l x.mems false []=some q/\H6 sn S i x l s)\/(e=.ret/\ID l x.mems false []=none/\(s.env 6).v=.ptr 6 1 0/\s.mem 6 1=some ((sB .unk).map (⟨·,.no⟩)))) (fun j hj s kk h ih db=>?_) _ _ ⟨h,e8,_,rfl⟩ (fun e s h=>?_)
 ·obtain ⟨⟨e1,e2,e3,m3,e6,m6,e7,m7⟩,e8,q,ud⟩:=h;refine uA ?_;simp only [MA,h5] at m7;by_cases fa:j<x.mems.length
  ·have ga:(j:Int)<x.mems.length:=by omega
   have p1:x.mems[j]?=some x.mems[j]:=y4 fa;have t1:x.mems.take (j + 1)=x.mems.take j++[x.mems[j]]:=(yr fa).symm;have t2:x.mems=x.mems.take j++x.mems[j] :: x.mems.drop (j + 1):=by rw [<- y9 fa,yR]
   have hw:=LA (i:=j);have ai:0<=x.mems[j].ty/\x.mems[j].ty<S.length:=(hS.win x (PD.mem hS g)).mems _ (y5 fa);generalize x.mems[j]=m at *
   have g1:(x.mems.map nA)[j]?=some (nA m):=by rw [y8,p1]; rfl
   have g2:=SN l (N:=S.length) (j:=m.ty.toNat) (by omega);have wa:=ai.1;have tz:ID l (x.mems.take (j + 1)) false []=ID l [m] q.1 q.2:=by rw [t1,tN,ud]; rfl
   have nxt:∀ s':aA,(∃ q',ID l (x.mems.take (j + 1)) false []=some q')->(s'.env 1).v=.int .i64 i->(s'.env 2).v=.bl (zF S.length l)->(s'.env 3).v=.ptr 3 1 0->s'.mem=s.mem->(s'.env 6).v=.ptr 6 1 0->(s'.env 7).v=.ptr 7 2 0->(s'.env 8).v=.int .i64 ((j + 1:Nat):Int)->kI kA tA cD s' kk=some rv:=fun s' q0 q1 q2 q3 q4 q5 q6 q7=>ih fa s' ⟨⟨q1,q2,q3,by rw [q4,m3],q5,by rw [q4,m6],q6,by rw [q4,m7]; simp [MA,h5]⟩,q7,q0⟩
   simp only [nA] at g1;cases hh:m.has with
   | true =>
    simp [cD,-V,-y3,-y0,J,e7,m7,e8,ga,g1,hh,hw];refine nxt _ ⟨_,by rw [tz,ID,hh,if_pos rfl,ID]⟩ ?_ ?_ ?_ ?_ ?_ ?_ ?_ <;> simp [e1,e2,e3,e6,e7]
   | false =>
    cases rd:(l m.ty.toNat).known with
    | true =>
     have hq:∃ q',ID l (x.mems.take (j + 1)) false []=some q':=by
      rw [tz,ID,hh,rd];exact ⟨_,by simp [ID]; rfl⟩
     generalize l m.ty.toNat=e at *
     simp [cD,-V,-y3,-y0,J,e2,e7,m7,e8,ga,g1,g2,wa,hh,rd,hw,sB];refine nxt _ hq ?_ ?_ ?_ ?_ ?_ ?_ ?_ <;> simp [e1,e2,e3,e6,e7]
    | false =>
     have dd:ID l x.mems false []=none:=by
      rw [t2,tN,ud];simp [ID,hh,rd]
     generalize l m.ty.toNat=e at *
     simp only [LK] at m6;simp [cD,-V,-y3,-y0,J,e2,e6,m6,e7,m7,e8,ga,g1,g2,wa,hh,rd,sB];exact db _ _ (.inr ⟨rfl,dd,by simp [e6],by simp [lH]⟩)
  ·have ga:¬ (j:Int)<x.mems.length:=by omega
   rw [yv (by omega)] at ud;simp [cD,-V,-y3,-y0,J,e7,m7,e8,ga];exact db _ _ (.inl ⟨rfl,q,ud,by simp [e1],by simp [e2],by simp [e3],m3,by simp [e6],m6,by simp [e7],by rw [m7]; simp [MA,h5]⟩)
 ·rcases h with ⟨rfl,q,q1,q2⟩ | ⟨rfl,q1,q2,q3⟩
  ·exact hk s q.1 q.2 q1 q2
  ·exact hr s q1 q2 q3
theorem runi_lp {rv:RV} (hS:PD S) (pb:∀ x∈S,x.mems.length<=12) (g:S[i]?=some x) (hl:QH S l) (hd:∀ u,u<S.length->(l u).d<=S.length) (h6:x.kind=6) (ox:Nat) (s:aA) (h:H6 sn S i x l s) (zh:(s.env 11).v=.ptr 11 ox 0) (m11:∃ r,s.mem 11 ox=some r/\AL .unk r) (pg:(s.env 12).v=.int .i64 0) (k:Ex->aA->Option RV)
  (hk:∀ s' r,H6 sn S i x l s'->(s'.env 11).v=.ptr 11 ox 0->s'.mem 11 ox=some r->AL (fF S i 6 l x.mems .unk) r->k (.exit 2) s'=some rv):kI kA tA xD s k=some rv:=by
 have dz:x.mems.length<=16:=(hS.win x (PD.mem hS g)).few;refine bA x.mems.length (fun j s=>H6 sn S i x l s/\(s.env 11).v=.ptr 11 ox 0/\(∃ r,s.mem 11 ox=some r/\AL (fF S i 6 l (x.mems.take j) .unk) r)/\(s.env 12).v=.int .i64 j)
  (fun e s=>e=.exit 2/\H6 sn S i x l s/\(s.env 11).v=.ptr 11 ox 0/\∃ r,s.mem 11 ox=some r/\AL (fF S i 6 l x.mems .unk) r) (fun j hj s kk h ih db=>?_) _ _ ⟨h,zh,m11,pg⟩ (fun e s h=>by obtain ⟨rfl,h1,h2,r,h3,h4⟩:=h; exact hk s r h1 h2 h3 h4)
 obtain ⟨⟨e1,e2,e3,m3,e6,m6,e7,m7⟩,zh,⟨r,m11,hr⟩,pg⟩:=h;refine uA ?_;simp only [MA,h6] at m7;by_cases fa:j<x.mems.length
 ·have ga:(j:Int)<x.mems.length:=by omega
  have p1:x.mems[j]?=some x.mems[j]:=y4 fa;have t1:x.mems.take (j + 1)=x.mems.take j++[x.mems[j]]:=(yr fa).symm;have hw:=LA (i:=j);have ui:x.mems[j]∈x.mems:=y5 fa;have ai:0<=x.mems[j].ty/\x.mems[j].ty<S.length:=(hS.win x (PD.mem hS g)).mems _ ui;generalize x.mems[j]=m at *
  have g1:(x.mems.map nA)[j]?=some (nA m):=by rw [y8,p1]; rfl
  have g2:=SN l (N:=S.length) (j:=m.ty.toNat) (by omega);have wa:=ai.1;have we:=fun hk=>(arm_fin sn hS pb g hl hd h6 ui hk).2
  have ph:=IR S i 6 l (x.mems.take j) m .unk;rw [<- t1] at ph;rw [ph] at ih;have hbok:rH S i (fF S i 6 l (x.mems.take j) .unk):=by
   rcases MN S i 6 l (x.mems.take j) .unk with h | ⟨m',tb,h⟩
   ·rw [h]; exact rH.unk
   ·rw [h]; exact H4 hS g hl h6 (List.mem_of_mem_take tb)
  have haok:=H4 hS g hl h6 ui;generalize fF S i 6 l (x.mems.take j) .unk=b at *
  have od:=hr.load;have mb:=hr.store;have md:=fZ b (dF S i 6 m (l m.ty.toNat)) hbok.u haok.u hbok.l haok.l;simp only [nA] at g1;have nxt:∀ (s':aA),(s'.env 1).v=.int .i64 i->(s'.env 2).v=.bl (zF S.length l)->(s'.env 3).v=.ptr 3 1 0->s'.mem 3 1=s.mem 3 1->(s'.env 6).v=.ptr 6 1 0->s'.mem 6 1=s.mem 6 1->(s'.env 7).v=.ptr 7 2 0->s'.mem 7 2=s.mem 7 2->(s'.env 11).v=.ptr 11 ox 0->s'.mem 11 ox=some ((sB (if NB (dF S i 6 m (l m.ty.toNat)) b then dF S i 6 m (l m.ty.toNat) else b)).map (⟨·,.no⟩))->(s'.env 12).v=.int .i64 ((j + 1:Nat):Int)->kI kA tA xD s' kk=some rv:=fun s' q1 q2 q3 q4 q5 q6 q7 q8 q9 q10 q11=>ih fa s' ⟨⟨q1,q2,q3,by rw [q4,m3],q5,by rw [q6,m6],q7,by rw [q8,m7]; simp [MA,h6]⟩,q9,⟨_,q10,AL.mk _⟩,q11⟩
  cases rd:(l m.ty.toNat).known with
  | false =>
   have ha:dF S i 6 m (l m.ty.toNat)=l m.ty.toNat:=by simp [dF,rd]
   rw [ha] at md nxt;generalize l m.ty.toNat=e at *
   generalize (if NB e b then e else b)=c at *
   simp only [sA,sB,rd] at md;simp only [sB] at od;simp [xD,-V,-y3,-y0,J,-SA,-xA,RA,OA,lA,zA,e2,e7,m7,zh,m11,pg,ga,g1,g2,wa,rd,hw,sB,od,mb,md];refine nxt _ ?_ ?_ ?_ ?_ ?_ ?_ ?_ ?_ ?_ ?_ ?_ <;> simp [e1,e2,e3,e6,e7,zh,sB]
  | true =>
   cases ec:(l m.ty.toNat).long with
   | true =>
    have ha:dF S i 6 m (l m.ty.toNat)=l m.ty.toNat:=by simp [dF,ec]
    rw [ha] at md nxt;generalize l m.ty.toNat=e at *
    generalize (if NB e b then e else b)=c at *
    simp only [sA,sB,rd,ec] at md;simp only [sB] at od;simp [xD,-V,-y3,-y0,J,-SA,-xA,RA,OA,lA,zA,e2,e7,m7,zh,m11,pg,ga,g1,g2,wa,rd,ec,hw,sB,od,mb,md];refine nxt _ ?_ ?_ ?_ ?_ ?_ ?_ ?_ ?_ ?_ ?_ ?_ <;> simp [e1,e2,e3,e6,e7,zh,sB]
   | false =>
    have ha:dF S i 6 m (l m.ty.toNat)=rI S i (DN 6 m.id (l m.ty.toNat).v):=by simp [dF,rd,ec]
    rw [ha] at md nxt;have hf:=we ⟨rd,ec⟩;rw [F9] at hf;generalize rI S i (DN 6 m.id (l m.ty.toNat).v)=f at *
    generalize l m.ty.toNat=e at *
    generalize (if NB f b then f else b)=c at *
    simp only [sA,sB,qA] at md hf;simp only [sB] at od;simp [xD,-V,-y3,-y0,J,-SA,-xA,RA,OA,lA,zA,e1,e2,e3,m3,e7,m7,zh,m11,pg,ga,g1,g2,wa,rd,ec,hw,sB,od,mb,md,hf];refine nxt _ ?_ ?_ ?_ ?_ ?_ ?_ ?_ ?_ ?_ ?_ ?_ <;> simp [e1,e2,e3,e6,e7,zh,sB]
 ·have ga:¬ (j:Int)<x.mems.length:=by omega
  rw [yv (by omega)] at hr;simp [xD,-V,-y3,-y0,J,e7,m7,pg,ga];exact db _ _ ⟨rfl,⟨by simp [e1],by simp [e2],by simp [e3],m3,by simp [e6],m6,by simp [e7],by rw [m7]; simp [MA,h6]⟩,by simp [zh],r,m11,hr⟩
theorem w9 (hS:PD S) (pb:∀ x∈S,x.mems.length<=12) (g:S[i]?=some x) (hl:QH S l) (hd:∀ u,u<S.length->(l u).d<=S.length):sA 155 [WB sn S,.int .i64 i,.bl (zF S.length l)] (.agg (sB (lC S i l))):=by
 refine wA (c:=QF) rfl rfl ?_;have ah:=(hS.good x (PD.mem hS g)).1;have g1:(S.map eA)[i]?=some (eA x):=by rw [y8,g]; rfl
 by_cases h5:x.kind=5
 ·have hi:lC S i l=match ID l x.mems false [] with | none=>.unk | some (true,_)=>.lng | some (false,vs)=>rI S i (MO 5 vs):=by simp only [lC,g]; rw [oO,if_pos h5]; rfl
  simp only [eA,h5] at g1;simp [QF,-V,-y3,-y0,J,g1];refine rrec_lp sn (l:=l) hS g h5 _ ⟨?_,?_,?_,?_,?_,?_,?_,?_⟩ ?_ _ (fun s' lg ws q1 q2=>?_) (fun s' q1 q2 q3=>?_)
  ·simp
  ·simp
  ·simp
  ·simp
  ·simp
  ·simp [LK,rB]
  ·simp
  ·simp [h5]
  ·simp
  ·obtain ⟨e1,e2,e3,m3,e6,m6,e7,m7⟩:=q2;have hc:=content_ev hS g h5 q1;simp only [LK] at m6;simp only [MA,h5] at m7;simp only [sA,eA,h5,cntA] at hc;cases lg with
   | true =>
    rw [hi,q1];simp only [tT];simp at hc;simp [-V,-y3,-y0,J,e2,e6,m6,e7,m7,hc]
   | false =>
    have hf:=(imp_rec sn hS pb g hl hd h5 q1).2;rw [G9] at hf;generalize lC S i l=c at *
    simp only [sA,sB] at hf ⊢;simp at hc;simp [-V,-y3,-y0,J,e1,e2,e3,m3,e6,m6,e7,m7,hc,hf]
  ·rw [hi,q1];simp only [lH] at q3 ⊢;simp [-V,-y3,-y0,J,q2,q3]
 ·by_cases h6:x.kind=6
  ·have hi:lC S i l=fF S i 6 l x.mems .unk:=by simp only [lC,g]; rw [oO,if_neg h5,if_pos h6]
   simp only [eA,h6] at g1;simp [QF,-V,-y3,-y0,J,g1];refine runi_lp sn hS pb g hl hd h6 5 _ ⟨?_,?_,?_,?_,?_,?_,?_,?_⟩ ?_ ⟨LK,?_,AL.zero⟩ ?_ _ (fun s' r q1 q2 q3 q4=>?_)
   ·simp
   ·simp
   ·simp
   ·simp
   ·simp
   ·simp [LK,rB]
   ·simp
   ·simp [h6]
   ·simp
   ·simp [LK,rB]
   ·simp
   ·obtain ⟨e1,e2,e3,m3,e6,m6,e7,m7⟩:=q1;have od:=q4.load;have mb:=AL.zero.store (sB (fF S i 6 l x.mems .unk)) rfl;rw [hi];generalize fF S i 6 l x.mems .unk=c at *
    simp only [sB] at od mb ⊢;simp [-V,-y3,-y0,J,-SA,-xA,RA,OA,lA,zA,q2,q3,od,e6,m6,mb]
  ·have hf:=(G7 sn hS pb g hl hd h5 h6).2;have hn:=J7 x ah h5 h6;generalize lC S i l=c at *
   rw [n4] at hf hn;generalize (if x.kind=2 then Q0 x.low x.high else 0)=vi at *
   generalize (if x.kind=2 then 0 else if x.kind=4 then (match x.syms with | m :: _=>m.id | []=>0) else 0)=vd at *
   simp only [sA,sB,eA] at hf hn g1 ⊢;simp [QF,-V,-y3,-y0,J,g1,h5,h6,hn,hf]
end
end
section
theorem tab_set {N:Nat} (l l':WQ) {i:Nat} (h:∀ j,j≠i->l' j=l j):(zF N l).set i (sB (l' i))=zF N l':=by
 apply List.ext_getElem?;intro j;by_cases e:j=i
 ·subst e;by_cases hj:j<N
  ·simp [zF,hj]
  ·simp [zF,hj]
 ·rw [List.getElem?_set_ne (fun e'=>e e'.symm)];by_cases hj:j<N
  ·simp [zF,hj,h j e]
  ·simp [zF,hj]
theorem T9 (N:Nat):zF N (fun _=>.unk)=yj N (sB .unk):=by
 unfold zF;rw [List.map_const',List.length_range]
theorem pX (N:Nat) (l:WQ):iF (jA (zF N l)) 11 0 N=some (zF N l):=by
 have:=WM (AS N l) (free_tab N l)
 rwa [p6] at this
abbrev tab0:WQ:=fun _=>.unk
noncomputable abbrev xM (S:List gA) (k:Nat):WQ:=WV NB (lC S) S.length tab0 k
noncomputable abbrev uR (S:List gA) (k i:Nat):WQ:=P1 NB (lC S) (xM S k) i
section
variable (sn:Bool) {S:List gA} (hS:PD S) (pb:∀ x∈S,x.mems.length<=12)
include hS
theorem FZ (k i:Nat) (hi:i<=S.length):QH S (uR S k i)/\∀ t,t<S.length->(uR S k i t).d<=S.length :=
 u9 eE (MS hS) (O7 S) (fun _ _=>rfl) k i hi
include pb
theorem lin_lp {rv:RV} (k:Nat) (s:aA) (e1:(s.env 1).v=.ptr 1 1 0) (m1:s.mem 1 1=some [⟨.sl sn (S.map eA),.no⟩]) (e3:(s.env 3).v=.ref 10 2 11 0 S.length S.length) (m3:s.mem 10 2=some (jA (zF S.length (uR S k 0)))) (gd:(s.env 14).v=.int .i64 (S.length + 2:Nat)) (bd:(s.env 15).v=.int .i64 k) (e18:(s.env 18).v=.sl sn (S.map eA)) (e19:(s.env 19).v=.int .i64 S.length) (e20:(s.env 20).v=.int .i64 0) (kk:Ex->aA->Option RV)
  (hk:∀ s',(s'.env 1).v=.ptr 1 1 0->s'.mem 1 1=some [⟨.sl sn (S.map eA),.no⟩]->(s'.env 3).v=.ref 10 2 11 0 S.length S.length->s'.mem 10 2=some (jA (zF S.length (uR S k S.length)))->(s'.env 14).v=.int .i64 (S.length + 2:Nat)->(s'.env 15).v=.int .i64 k->kk (.exit 2) s'=some rv):kI kA tA XE s kk=some rv:=by
 have ba:=hS.len;refine bA S.length (fun i s=>(s.env 1).v=.ptr 1 1 0/\s.mem 1 1=some [⟨.sl sn (S.map eA),.no⟩]/\(s.env 3).v=.ref 10 2 11 0 S.length S.length/\s.mem 10 2=some (jA (zF S.length (uR S k i)))/\(s.env 14).v=.int .i64 (S.length + 2:Nat)/\(s.env 15).v=.int .i64 k/\(s.env 18).v=.sl sn (S.map eA)/\(s.env 19).v=.int .i64 S.length/\(s.env 20).v=.int .i64 i)
  (fun e s=>e=.exit 2/\(s.env 1).v=.ptr 1 1 0/\s.mem 1 1=some [⟨.sl sn (S.map eA),.no⟩]/\(s.env 3).v=.ref 10 2 11 0 S.length S.length/\s.mem 10 2=some (jA (zF S.length (uR S k S.length)))/\(s.env 14).v=.int .i64 (S.length + 2:Nat)/\(s.env 15).v=.int .i64 k) (fun i hi s kk h ih db=>?_) _ _ ⟨e1,m1,e3,m3,gd,bd,e18,e19,e20⟩ (fun e s h=>by obtain ⟨rfl,h1,h2,h3,h4,h5,h6⟩:=h; exact hk s h1 h2 h3 h4 h5 h6)
 obtain ⟨e1,m1,e3,m3,gd,bd,e18,e19,e20⟩:=h;refine uA ?_;by_cases fa:i<S.length
 ·have ga:(i:Int)<S.length:=by omega
  obtain ⟨hg,hd⟩:=FZ hS k i hi;have gx:S[i]?=some S[i]:=y4 fa;have hw:=LA (i:=i);have mb:uR S k (i + 1)=KF NB (lC S) (uR S k i) i:=rfl;generalize S[i]=x at *
  have g1:(S.map eA)[i]?=some (eA x):=by rw [y8,gx]; rfl
  have xr:=improve_ev sn hS pb gx hg hd;rw [mb] at ih;generalize uR S k i=l at *
  have g2:=SN l fa;have bi:=pX S.length l;have od:=MI (AS S.length l) g2;have md:=B1 (lC S i l) (l i);have zp:=fun a=>PN (AS S.length l) (k:=i) (by rw [p6]; exact fa) (c:=sB (lC S i l)) rfl a
  generalize hB:NB (lC S i l) (l i)=B at *
  have xy:B=true->(zF S.length l).set i (sB (lC S i l))=zF S.length (KF NB (lC S) l i):=fun h=>by
   subst h;have:=tab_set (N:=S.length) l (KF NB (lC S) l i) (i:=i) fun j hj=>iK hj
   rwa [mQ hB] at this
  have dd:B=false->KF NB (lC S) l i=l:=fun h=>by subst h; exact x6 hB
  generalize KF NB (lC S) l i=l2 at *
  generalize lC S i l=c at *
  generalize l i=o at *
  simp only [sA,WB,sB,eA] at g1 xr md od zp xy;generalize S.map eA=ST at *
  cases B with
  | true =>
   rw [xy rfl] at zp;simp [XE,-V,-y3,-y0,J,-SA,-xA,RA,OA,lA,zA,e1,m1,e3,m3,e18,e19,e20,fa,ga,g1,bi,Cl.okMem,xr,md,od,zp,hw];refine ih fa _ ⟨?_,?_,?_,?_,?_,?_,?_,?_,?_⟩ <;> simp [e1,m1,e3,gd,bd,e18,e19]
  | false =>
   rw [dd rfl] at ih;simp [XE,-V,-y3,-y0,J,-SA,-xA,RA,OA,lA,zA,e1,m1,e3,m3,e18,e19,e20,fa,ga,g1,bi,Cl.okMem,xr,md,od,hw];refine ih fa _ ⟨?_,?_,?_,?_,?_,?_,?_,?_,?_⟩ <;> simp [e1,m1,e3,m3,gd,bd,e18,e19]
 ·have ga:¬ (i:Int)<S.length:=by omega
  have ru:i=S.length:=by omega
  subst ru;simp [XE,-V,-y3,-y0,J,e19,e20];exact db _ _ ⟨rfl,by simp [e1],m1,by simp [e3],m3,by simp [gd],by simp [bd]⟩
theorem lists_ev:sA 66 [WB sn S] (.sl false (zF S.length (xM S (S.length + 2)))):=by
 have ba:=hS.len;have nh:IntKind.i64.wrap ((S.length:Int) + 2)=(S.length + 2:Nat):=by rw [IntWalk.i64_in _ (by omega)]; omega
 refine wA (c:=nI) rfl rfl ?_;have hmul:S.length * 144<=140737488355328:=by omega
 have ub:S.length<=140737488355328:=by omega
 simp [nI,-V,-y3,-y0,J,nh,hmul,ub];refine bA (S.length + 2) (fun k s=>(s.env 1).v=.ptr 1 1 0/\s.mem 1 1=some [⟨.sl sn (S.map eA),.no⟩]/\(s.env 3).v=.ref 10 2 11 0 S.length S.length/\s.mem 10 2=some (jA (zF S.length (xM S k)))/\(s.env 14).v=.int .i64 (S.length + 2:Nat)/\(s.env 15).v=.int .i64 k)
  (fun e s=>e=.exit 0/\(s.env 3).v=.ref 10 2 11 0 S.length S.length/\s.mem 10 2=some (jA (zF S.length (xM S (S.length + 2))))) (fun k hk s kk h ih db=>?_) _ _ ?_ (fun e s h=>?_)
 ·obtain ⟨e1,m1,e3,m3,gd,bd⟩:=h;refine uA ?_;by_cases fa:k<S.length + 2
  ·have ga:(k:Int)<(S.length + 2:Nat):=by omega
   have hw:=LA (i:=k);simp [-Int.natCast_add,KI,-V,-y3,-y0,J,e1,m1,gd,bd,ga];refine lin_lp sn hS pb k _ ?_ ?_ ?_ ?_ ?_ ?_ ?_ ?_ ?_ _ (fun s' q1 q2 q3 q4 q5 q6=>?_)
   ·simp [e1]
   ·simp [m1]
   ·simp [e3]
   ·simp [m3,P1]
   ·simp [gd]
   ·simp [bd]
   ·simp
   ·simp
   ·simp
   ·simp [-Int.natCast_add,-V,-y3,-y0,J,q6,hw];exact ih fa _ ⟨by simp [q1],by simp [q2],by simp [q3],by simp [q4,WV],by simp [q5],by simp⟩
  ·have ga:¬ (k:Int)<(S.length + 2:Nat):=by omega
   have hkk2:k=S.length + 2:=by omega
   subst hkk2;simp [-Int.natCast_add,KI,-V,-y3,-y0,J,gd,bd];exact db _ _ ⟨rfl,by simp [e3],m3⟩
 ·refine ⟨?_,?_,?_,?_,?_,?_⟩
  ·simp
  ·simp
  ·simp
  ·rw [show xM S 0=tab0 from rfl,T9];simp [jA,lH]
  ·simp
  ·simp
 ·obtain ⟨rfl,e3,m3⟩:=h;have bi:=pX S.length (xM S (S.length + 2));generalize zF S.length (xM S (S.length + 2))=T at *
  simp [-V,-y3,-y0,J,-SA,-xA,RA,OA,lA,zA,e3,m3,bi]
end
end
section
section
variable (sn:Bool) {S:List gA} (hS:PD S) (pb:∀ x∈S,x.mems.length<=12)
include hS pb
theorem ein_lp {rv:RV} (k:Nat) (s:aA) (e1:(s.env 1).v=.ptr 1 1 0) (m1:s.mem 1 1=some [⟨.sl sn (S.map eA),.no⟩]) (e3:(s.env 3).v=.ref 9 2 11 0 S.length S.length) (m3:s.mem 9 2=some (jA (zF S.length (uR S k 0)))) (e4:(s.env 4).v=.int .i64 k) (e5:(s.env 5).v=.int .i64 0) (kk:Ex->aA->Option RV)
  (hk:∀ s',(s'.env 1).v=.ptr 1 1 0->s'.mem 1 1=some [⟨.sl sn (S.map eA),.no⟩]->(s'.env 3).v=.ref 9 2 11 0 S.length S.length->s'.mem 9 2=some (jA (zF S.length (uR S k S.length)))->(s'.env 4).v=.int .i64 k->kk (.exit 2) s'=some rv):kI kA tA mG s kk=some rv:=by
 have ba:=hS.len;refine bA S.length (fun i s=>(s.env 1).v=.ptr 1 1 0/\s.mem 1 1=some [⟨.sl sn (S.map eA),.no⟩]/\(s.env 3).v=.ref 9 2 11 0 S.length S.length/\s.mem 9 2=some (jA (zF S.length (uR S k i)))/\(s.env 4).v=.int .i64 k/\(s.env 5).v=.int .i64 i)
  (fun e s=>e=.exit 2/\(s.env 1).v=.ptr 1 1 0/\s.mem 1 1=some [⟨.sl sn (S.map eA),.no⟩]/\(s.env 3).v=.ref 9 2 11 0 S.length S.length/\s.mem 9 2=some (jA (zF S.length (uR S k S.length)))/\(s.env 4).v=.int .i64 k) (fun i hi s kk h ih db=>?_) _ _ ⟨e1,m1,e3,m3,e4,e5⟩ (fun e s h=>by obtain ⟨rfl,h1,h2,h3,h4,h5⟩:=h; exact hk s h1 h2 h3 h4 h5)
 obtain ⟨e1,m1,e3,m3,e4,e5⟩:=h;refine uA ?_;have hSl:(S.map eA).length=S.length:=by simp
 by_cases fa:i<S.length
 ·have ga:(i:Int)<S.length:=by omega
  obtain ⟨hg,hd⟩:=FZ hS k i hi;have gx:S[i]?=some S[i]:=y4 fa;have hw:=LA (i:=i);have mb:uR S k (i + 1)=KF NB (lC S) (uR S k i) i:=rfl;generalize S[i]=x at *
  have xr:=w9 sn hS pb gx hg hd;have na:=impL_ok hS gx hg;have hoo:=hg i fa;rw [mb] at ih;generalize uR S k i=l at *
  have g2:=SN l fa;have bi:=pX S.length l;have od:=MI (AS S.length l) g2;have md:=fZ (l i) (lC S i l) hoo.u na.u hoo.l na.l;have hui:KF NB (lC S) l i i=if NB (lC S i l) (l i) then lC S i l else l i:=by simp [KF]
  rw [<- hui] at md;have zp:=fun a=>PN (AS S.length l) (k:=i) (by rw [p6]; exact fa) (c:=sB (KF NB (lC S) l i i)) rfl a
  rw [tab_set (N:=S.length) l (KF NB (lC S) l i) (i:=i) fun j hj=>iK hj] at zp;generalize KF NB (lC S) l i i=c2 at *
  generalize KF NB (lC S) l i=l2 at *
  generalize lC S i l=c at *
  generalize l i=o at *
  simp only [sA,WB,sB] at xr md od zp;generalize hST:S.map eA=ST at *
  simp [mG,-V,-y3,-y0,J,-SA,-xA,RA,OA,lA,zA,e1,m1,e3,m3,e5,hSl,fa,ga,bi,Cl.okMem,xr,md,od,zp,hw];refine ih fa _ ⟨?_,?_,?_,?_,?_,?_⟩ <;> simp [e1,m1,e3,e4]
 ·have ga:¬ (i:Int)<S.length:=by omega
  have ru:i=S.length:=by omega
  subst ru;simp [mG,-V,-y3,-y0,J,e1,m1,e5];exact db _ _ ⟨rfl,by simp [e1],m1,by simp [e3],m3,by simp [e4]⟩
theorem entries_ev:sA 114 [WB sn S] (.sl false (zF S.length (xM S (S.length + 1)))):=by
 have ba:=hS.len;refine wA (c:=II) rfl rfl ?_;have hmul:S.length * 144<=140737488355328:=by omega
 have ub:S.length<=140737488355328:=by omega
 simp [II,-V,-y3,-y0,J,hmul,ub];refine bA (S.length + 1) (fun k s=>(s.env 1).v=.ptr 1 1 0/\s.mem 1 1=some [⟨.sl sn (S.map eA),.no⟩]/\(s.env 3).v=.ref 9 2 11 0 S.length S.length/\s.mem 9 2=some (jA (zF S.length (xM S k)))/\(s.env 4).v=.int .i64 k)
  (fun e s=>e=.exit 0/\(s.env 3).v=.ref 9 2 11 0 S.length S.length/\s.mem 9 2=some (jA (zF S.length (xM S (S.length + 1))))) (fun k hk s kk h ih db=>?_) _ _ ?_ (fun e s h=>?_)
 ·obtain ⟨e1,m1,e3,m3,e4⟩:=h;refine uA ?_;by_cases fa:k<S.length + 1
  ·have ga:(k:Int)<=S.length:=by omega
   have hw:=LA (i:=k);simp [CI,-V,-y3,-y0,J,e1,m1,e4,ga];refine ein_lp sn hS pb k _ ?_ ?_ ?_ ?_ ?_ ?_ _ (fun s' q1 q2 q3 q4 q5=>?_)
   ·simp [e1]
   ·simp [m1]
   ·simp [e3]
   ·simp [m3,P1]
   ·simp [e4]
   ·simp
   ·simp [-V,-y3,-y0,J,q5,hw];exact ih fa _ ⟨by simp [q1],by simp [q2],by simp [q3],by simp [q4,WV],by simp⟩
  ·have ga:¬ (k:Int)<=S.length:=by omega
   have hkk2:k=S.length + 1:=by omega
   subst hkk2;have hf:¬ ((S.length:Int) + 1<=S.length):=by omega
   simp [CI,-V,-y3,-y0,J,e1,m1,e4,hf];exact db _ _ ⟨rfl,by simp [e3],m3⟩
 ·refine ⟨?_,?_,?_,?_,?_⟩
  ·simp
  ·simp
  ·simp
  ·rw [show xM S 0=tab0 from rfl,T9];simp [jA,lH]
  ·simp
 ·obtain ⟨rfl,e3,m3⟩:=h;have bi:=pX S.length (xM S (S.length + 1));generalize zF S.length (xM S (S.length + 1))=T at *
  simp [-V,-y3,-y0,J,-SA,-xA,RA,OA,lA,zA,e3,m3,bi]
omit pb in
theorem both_tabs:xM S (S.length + 2)=xM S (S.length + 1):=M8 eE (MS hS) (O7 S) (fun _ _=>rfl) (S.length + 1) (by omega)
end
end
end Go.Proofs.YtjoaiabjebpbjaaGreat
