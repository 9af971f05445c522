/- A part of the proof. -/
import Derived.Test.YtpmklcpajcfpjaaGreatDoorWf
set_option linter.all false
set_option maxRecDepth 100000
set_option maxHeartbeats 8000000
open Option renaming bind_some → J, map_eq_some_iff → yq, map_some → yB
open List renaming range_succ → y0, map_map → y9, length_map → yc, all_eq_true → ye, getElem?_eq_getElem → yf, length_append → yj, getElem?_map → yk, map_cons → ym, getElem?_eq_some_iff → yn, mem_cons_self → yo, mem_cons_of_mem → yp, mem_of_getElem? → yr, mem_cons → yt, mem_append → yu, drop_eq_getElem_cons → yv, drop_eq_nil_of_le → yw, length_take → yz, flatten_cons → yA, getElem_mem → yC, mem_map → yD, map_congr_left → yE, append_nil → yF, length_cons → yG, getElem?_append_right → yP, map_nil → yQ, getElem?_append_left → yT, mem_singleton → yU, map_take → yW, map_drop → Y01, map_append → Y03, eq_nil_of_length_eq_zero → Y04, getElem?_eq_none → Y08, not_mem_nil → Y09, take_of_length_le → Y0b, take_append_drop → Y0c, mem_of_mem_take → Y0i, getElem_of_mem → Y0k, flatten_append → Y0l, take_append_getElem → Y0m
open Int renaming toNat_lt → yb, tmod_eq_emod_of_nonneg → yO, emod_lt_of_pos → Y0h
open Bool renaming and_eq_true → yg, false_eq_true → yM
open Nat renaming le_refl → yl, zero_add → yy, le_trans → yH, succ_mul → yN, eq_zero_or_pos → yZ, lt_of_lt_of_le → Y06, add_sub_cancel_left → Y0g
namespace Go.Proofs.YtpmklcpajcfpjaaGreatDoor
open Go
structure MR where
 id:Int
 ty:Int
 flag:Int
structure OF where
 k:Int
 a:Int
 b:Int
 c:Int
 pn:Bool
 parts:List MR
def IG (x:MR):List AV:=[.int .u8 x.id,.int .u8 x.ty,.int .u8 x.flag]
def qG (x:OF):List AV:=[.int .u8 x.k,.int .u8 x.a,.int .u8 x.b,.int .u8 x.c,.sl x.pn (x.parts.map IG)]
def TG (n:Bool)(l:List OF):List AV:=[.sl n (l.map qG)]
def u8 (n:Int):Prop:=0<=n/\n<=255
def MR.ok (x:MR):Prop:=u8 x.id/\u8 x.ty/\u8 x.flag
def OF.ok (x:OF):Prop:=u8 x.k/\u8 x.a/\u8 x.b/\u8 x.c/\x.parts.length<=9223372036854775807/\∀p∈x.parts,p.ok
def OF.kind (x:OF):Int:=1+x.k%9
def OF.low (x:OF):Int:=x.a%7-3
def OF.high (x:OF):Int:=x.low+x.b%6
theorem M7 {x:OF}(h:x.ok):1<=x.kind/\x.kind<=9:=by
 obtain⟨⟨h1,h2⟩,_⟩:=h;simp only[OF.kind];omega
theorem Bw (n m:Int)(h:u8 n)(hm:0<m)(hm2:m<=255):n.tmod m=n%m/\IntKind.u8.wrap (n%m)=n%m:=by
 obtain⟨h1,h2⟩:=h;have e:=yO h1 (b:=m);have g1:=Int.emod_nonneg n (b:=m) (by omega);have g2:=Y0h n hm;refine⟨e,?_⟩;simp only[IntKind.wrap,IntKind.bits,IntKind.signed];simp;omega
theorem kind_ev (dn:Bool)(l:List OF)(z:Int)(x:OF)(hz:0<=z)(h:l[z.toNat]?=some x)(hx:x.ok):BD 29 [.agg (TG dn l),.int .i64 z] (.int .i64 x.kind):=by
 refine tD (c:=mN) rfl rfl ?_;have g:(l.map qG)[z.toNat]?=some (qG x):=by simp[h]
 obtain⟨e1,e2⟩:=Bw x.k 9 hx.1 (by omega) (by omega);simp only[qG]at g;simp[mN,TG,-J,-yb,-y9,y0,g,hz,e1];have:=hx.1;simp only[u8]at this;rw[IntWalk.i64_in (x.k%9) (by omega),IntWalk.i64_in _ (by omega)];rfl
theorem b4 (k:Int):BD 96 [.int .i64 k] (.bool (decide (7<=k))):=by
 refine tD (c:=sL) rfl rfl ?_;simp[sL,-J,-yb,-y9,y0]
theorem Zq (x:OF)(hx:x.ok):BD 31 [.agg (qG x)] (.int .i64 x.low):=by
 refine tD (c:=tP) rfl rfl ?_;obtain⟨e1,e2⟩:=Bw x.a 7 hx.2.1 (by omega) (by omega);simp[tP,qG,-J,-yb,-y9,y0,e1];rw[IntWalk.i64_in (x.a%7) (by omega),IntWalk.i64_in _ (by omega)];rfl
theorem Cu (x:OF)(hx:x.ok):BD 32 [.agg (qG x)] (.int .i64 x.high):=by
 refine tD (c:=nN) rfl rfl ?_;obtain⟨e1,e2⟩:=Bw x.b 6 hx.2.2.1 (by omega) (by omega);have:=Zq x hx;simp only[qG]at this;simp[nN,qG,-J,-yb,-y9,y0,e1,this];rw[IntWalk.i64_in (x.b%6) (by omega),IntWalk.i64_in _ (by simp only[OF.low];omega)];rfl
def bitZ (a:Int)(i:Nat):Bool:=decide (a / 2 ^ i%2=1)
def ZY (a:Int):Nat->List Int
 |0=>[]
 |i+1=>ZY a i++if bitZ a i then [((i+1:Nat):Int)]else []
def nI (a:Int):List Int:=if ZY a 6=[]then [1]else ZY a 6
def GM (n:Int):List AV:=[.int .i64 n]
theorem XY (a:Int):∀i,(ZY a i).length<=i
 |0=>yl _
 |i+1=>by
  have:=XY a i;rw[ZY,yj];split<;>simp<;>omega
theorem els_int (l:List Int):kD 1 (l.map GM)=true:=nF _ _ _ fun _=>rfl
theorem Nu (x:OF)(hx:x.ok):BD 33 [.agg (qG x)] (.sl false ((nI x.a).map GM)):=by
 refine tD (c:=eP) rfl rfl ?_;obtain⟨hk,ha,hb,hc,hp,hpp⟩:=hx;obtain⟨ha1,ha2⟩:=ha;simp[eP,qG,-J,-yb,-y9,y0];refine zE 6 (fun i s=>(s.env 1).v=.ptr 1 1 0/\s.mem 1 1=some [⟨.int .u8 x.k,.no⟩,⟨.int .u8 x.a,.no⟩,⟨.int .u8 x.b,.no⟩,⟨.int .u8 x.c,.no⟩,⟨.sl x.pn (x.parts.map IG),.no⟩]/\(s.env 4).v=.int .i64 i/\(s.env 3).v=.sl (ZY x.a i).isEmpty ((ZY x.a i).map GM)/\(ZY x.a i=[]/\(s.env 3).a=.ex\/¬ZY x.a i=[]/\(s.env 3).a=.own 19 3))
  (fun e s=>e=.exit 0/\(s.env 3).v=.sl (ZY x.a 6).isEmpty ((ZY x.a 6).map GM)/\(ZY x.a 6=[]/\(s.env 3).a=.ex\/¬ZY x.a 6=[]/\(s.env 3).a=.own 19 3)) (fun i hi s k h ih hk=>?_) _ _ ?_ (fun e s h=>?_)
 ·obtain ⟨e1,m1,e4,e3,an⟩:=h;refine wD ?_;by_cases ba:i<6
  ·have fa:(i:Int)<6:=by omega
   have hsh:shN .u8 i=i:=by simp[shN,IntKind.bits];omega
   have hy:x.a.fdiv (2 ^ i)=x.a / 2 ^ i:=Int.fdiv_eq_ediv_of_nonneg _ (Int.pow_nonneg (by omega));have nq:0<=x.a / 2 ^ i:=Int.ediv_nonneg ha1 (Int.pow_nonneg (by omega));have hm:(x.a / 2 ^ i).tmod 2=x.a / 2 ^ i%2:=yO nq;have aq:=rE (i:=i);have hl:=XY x.a i;have ga:pD 8 ((ZY x.a i).length+1)=true:=by rw[XC];omega
   have dd:=els_int (ZY x.a i);have dw:ZY x.a (i+1)=ZY x.a i++if bitZ x.a i then [((i+1:Nat):Int)]else []:=rfl
   have hb:bitZ x.a i=decide (x.a / 2 ^ i%2=1):=rfl;generalize hI:ZY x.a i=L at *
   generalize hJ:ZY x.a (i+1)=L' at *
   generalize x.a / 2 ^ i=y at *
   by_cases c:y%2=1
   ·rcases an with ⟨a0,a3⟩ | ⟨a0,a3⟩
    ·subst a0;have rh:pD 8 1=true:=by rw [XC]; omega
     simp[zJ,-J,-yb,-y9,y0,e1,m1,e4,e3,a3,fa,hsh,hy,hm,aq,c,rh];refine ih ba _ ⟨?_,?_,?_,?_,?_⟩<;>simp[e1,m1,dw,hb,c,GM,An.strip]
    ·have hem:L.isEmpty=false:=by
      cases L with
      |nil=>exact absurd rfl a0
      |cons=>rfl
     rw[hem]at e3;simp[zJ,-J,-yb,-y9,y0,e1,m1,e4,e3,a0,a3,fa,hsh,hy,hm,aq,c,ga,dd];refine ih ba _ ⟨?_,?_,?_,?_,?_⟩<;>simp[e1,m1,dw,hb,c,GM,An.strip]
   ·simp[zJ,-J,-yb,-y9,y0,e1,m1,e4,e3,fa,hsh,hy,hm,aq,c];refine ih ba _ ⟨?_,?_,?_,?_,?_⟩<;>simp[e1,m1,e3,an,dw,hb,c,GM,An.strip]
  ·have hi6:i=6:=by omega
   subst hi6;simp[zJ,-J,-yb,-y9,y0,e4];exact hk _ _ ⟨rfl,by simpa using e3,by simpa using an⟩
 ·simp[ZY]
 ·obtain ⟨rfl,e3,an⟩:=h;have hl:=XY x.a 6;generalize hI:ZY x.a 6=L at *
  rcases an with⟨a0,a3⟩|⟨a0,a3⟩
  ·subst a0;have rh:pD 8 1=true:=by rw [XC]; omega
   simp[-J,-yb,-y9,y0,e3,a3,rh,nI,hI,GM]
  ·simp[-J,-yb,-y9,y0,e3,a3,a0,nI,hI]
def UG (l:List OF)(z:Int):Int:=match l[z.toNat]? with
 |some x=>x.kind
 |none=>0
def oks (l:List OF):Prop:=1<=l.length/\l.length<=5/\∀x∈l,x.ok
theorem ZJ {dn:Bool}{l:List OF}(hl:oks l){z:Int}(h0:0<=z)(h1:z<l.length):BD 29 [.agg (TG dn l),.int .i64 z] (.int .i64 (UG l z)):=by
 have ba:z.toNat<l.length:=by omega
 have g:l[z.toNat]?=some l[z.toNat]:=yf ba;have:=kind_ev dn l z _ h0 g (hl.2.2 _ (yC ba));rw[UG,g];exact this
theorem Wz {l:List OF}(hl:oks l){z:Int}(h0:0<=z)(h1:z<l.length):1<=UG l z/\UG l z<=9:=by
 have ba:z.toNat<l.length:=by omega
 have g:l[z.toNat]?=some l[z.toNat]:=yf ba;rw[UG,g];exact M7 (hl.2.2 _ (yC ba))
def Q4 (k:Int):Bool:=decide (1<=k/\k<=4)
def XJ (l:List OF)(code:Int):Nat->Nat->Int
 |0,_=>-1
 |n+1,k=>if Q4 (UG l ((code+k)%l.length))=true then(code+k)%l.length else XJ l code n (k+1)
def mT (l:List OF)(code:Int):Int:=XJ l code l.length 0
theorem pY {l:List OF}(hl:oks l)(code:Int):∀n k,-1<=XJ l code n k/\XJ l code n k<l.length
 |0,k=>by have:=hl.1;simp only[XJ];omega
 |n+1,k=>by
  have hp:=hl.1;have h1:=Int.emod_nonneg (code+k) (b:=(l.length:Int)) (by omega);have h2:=Y0h (code+k) (b:=(l.length:Int)) (by omega);have:=pY hl code n (k+1);simp only[XJ];split<;>omega
theorem Gq (dn:Bool)(l:List OF)(hl:oks l)(code:Int)(hc:u8 code):BD 35 [.agg (TG dn l),.int .u8 code] (.int .i64 (mT l code)):=by
 refine tD (c:=rP) rfl rfl ?_;obtain⟨rx,wq⟩:=hc;have hN:=hl.1;have hN5:=hl.2.1;have wc:=fun z h0 h1=>ZJ (dn:=dn) hl (z:=z) h0 h1
 simp only[BD,TG]at wc ⊢;simp[rP,-J,-yb,-y9,y0];refine zE l.length (fun i s=>(s.env 2).v=.ptr 2 1 0/\s.mem 2 1=some [⟨.sl dn (l.map qG),.no⟩]/\(s.env 1).v=.int .u8 code/\(s.env 5).v=.int .i64 l.length/\(s.env 6).v=.int .i64 i/\XJ l code (l.length-i) i=mT l code)
  (fun e s=>(e=.exit 0/\mT l code=-1)\/(e=.ret/\(s.env 4).v=.int .i64 (mT l code))) (fun i hi s k h ih hk=>?_) _ _ ?_ (fun e s h=>?_)
 ·obtain ⟨e2,m2,e1,e5,e6,hs⟩:=h;refine wD ?_;by_cases ba:i<l.length
  ·have fa:(i:Int)<l.length:=by omega
   have aq:=rE (i:=i);have so:IntKind.i64.wrap code=code:=IntWalk.i64_in _ (by omega);have hwa:IntKind.i64.wrap (code+i)=code+i:=IntWalk.i64_in _ (by omega);have hm:(code+(i:Int)).tmod l.length=(code+i)%l.length:=yO (by omega);have fc:=Int.emod_nonneg (code+i) (b:=(l.length:Int)) (by omega);have ze:=Y0h (code+i) (b:=(l.length:Int)) (by omega);have wr:¬(l.length:Int)=0:=by omega
   have ad:=wc _ fc ze;rw[show l.length-i=l.length-(i+1)+1 from by omega,XJ]at hs;generalize(code+(i:Int))%l.length=z at *
   have re:=ZZ (UG l z);rw[show decide (1<=UG l z/\UG l z<=4)=Q4 (UG l z)from rfl]at re;obtain⟨N,hNN⟩:∃N:Int,N=l.length:=⟨_,rfl⟩;rw[<- hNN]at e5 fa hm wr;cases hb:Q4 (UG l z)with
   |true =>
    rw[hb]at re;rw[if_pos hb]at hs;simp[dL,-J,-yb,-y9,y0,e2,m2,e1,e5,e6,fa,so,hwa,hm,wr,ad,re];exact hk _ _ (.inr ⟨rfl,by simp[hs]⟩)
   |false =>
    rw[hb]at re;rw[hb,if_neg (by decide)]at hs;simp[dL,-J,-yb,-y9,y0,e2,m2,e1,e5,e6,fa,so,hwa,hm,wr,ad,re,aq];refine ih ba _ ⟨?_,?_,?_,?_,?_,hs⟩<;>simp[e2,m2,e1,e5,hNN]
  ·have fa:¬ (i:Int)<l.length:=by omega
   simp[dL,-J,-yb,-y9,y0,e5,e6,fa];refine hk _ _ (.inl ⟨rfl,?_⟩);rw[<- hs,show l.length-i=0 from by omega,XJ]
 ·simp[mT]
 ·rcases h with⟨rfl,h1⟩|⟨rfl,h1⟩<;>simp[-J,-yb,-y9,y0,h1]
def TK (l:List OF):Nat->Nat->Int
 |0,_=>-1
 |n+1,k=>if 7<=UG l k then k else TK l n (k+1)
def SU (l:List OF)(i code:Int):Int:=if 7<=UG l (code%l.length)\/code%l.length<i then code%l.length else if 0<i then code%l.length%i else TK l l.length 0
theorem iY {l:List OF}(hl:oks l):∀n k,n+k<=l.length->-1<=TK l n k/\TK l n k<l.length
 |0,k,_=>by have:=hl.1;simp only[TK];omega
 |n+1,k,h=>by
  have:=iY hl n (k+1) (by omega);simp only[TK];split<;>omega
theorem c9 {l:List OF}(hl:oks l)(i code:Int)(hi:i<l.length):-1<=SU l i code/\SU l i code<l.length:=by
 have hp:=hl.1;have h1:=Int.emod_nonneg code (b:=(l.length:Int)) (by omega);have h2:=Y0h code (b:=(l.length:Int)) (by omega);have h3:=iY hl l.length 0 (by omega);simp only[SU];split
 ·omega
 ·split
  ·rename_i h;have h4:=Int.emod_nonneg (code%l.length) (b:=i) (by omega);have h5:=Y0h (code%l.length) h;omega
  ·exact h3
theorem Ef (dn:Bool)(l:List OF)(hl:oks l)(i0:Int)(pg:0<=i0)(zg:i0<l.length)(code:Int)(hc:u8 code):BD 68 [.agg (TG dn l),.int .i64 i0,.int .u8 code] (.int .i64 (SU l i0 code)):=by
 refine tD (c:=RH) rfl rfl ?_;obtain⟨rx,wq⟩:=hc;have hN:=hl.1;have hN5:=hl.2.1;have wc:=fun z h0 h1=>ZJ (dn:=dn) hl (z:=z) h0 h1
 simp only[BD,TG]at wc ⊢;have fc:=Int.emod_nonneg code (b:=(l.length:Int)) (by omega);have ze:=Y0h code (b:=(l.length:Int)) (by omega);have so:IntKind.i64.wrap code=code:=IntWalk.i64_in _ (by omega);have hm:code.tmod l.length=code%l.length:=yO (by omega);have wr:¬(l.length:Int)=0:=by omega
 have oe:¬l=[]:=by intro e;rw[e]at hN;simp at hN
 have ad:=wc _ fc ze;unfold SU;generalize code%(l.length:Int)=z at *
 have hh:=b4 (UG l z);have hmi:0<i0->z.tmod i0=z%i0:=fun _=>yO fc
 by_cases c1:7<=UG l z
 ·simp[RH,-J,-yb,-y9,y0,so,hm,oe,ad,hh,c1]
 ·rw [decide_eq_false c1] at hh;by_cases c2:z<i0
  ·simp[RH,-J,-yb,-y9,y0,so,hm,oe,ad,hh,c1,c2]
  ·by_cases c3:0<i0
   ·simp[RH,-J,-yb,-y9,y0,so,hm,oe,ad,hh,c1,c2,c3,hmi c3,show ¬i0=0 from by omega]
   ·simp[RH,-J,-yb,-y9,y0,so,hm,oe,ad,hh,c1,c2,c3];clear ad hh c1 c2;refine zE l.length (fun i s=>(s.env 3).v=.ptr 3 1 0/\s.mem 3 1=some [⟨.sl dn (l.map qG),.no⟩]/\(s.env 7).v=.int .i64 l.length/\(s.env 9).v=.int .i64 i/\TK l (l.length-i) i=TK l l.length 0)
     (fun e s=>(e=.exit 0/\TK l l.length 0=-1)\/(e=.ret/\(s.env 6).v=.int .i64 (TK l l.length 0))) (fun i hi s k h ih hk=>?_) _ _ ?_ (fun e s h=>?_)
    ·obtain ⟨e3,m3,e7,e9,hs⟩:=h;refine wD ?_;by_cases ba:i<l.length
     ·have fa:(i:Int)<l.length:=by omega
      have aq:=rE (i:=i);have ad:=wc i (by omega) fa;rw[show l.length-i=l.length-(i+1)+1 from by omega,TK]at hs;have hh:=b4 (UG l i);by_cases hb:7<=UG l i
      ·rw[decide_eq_true hb]at hh;rw[if_pos hb]at hs;simp[sJ,-J,-yb,-y9,y0,e3,m3,e7,e9,ba,ad,hh];exact hk _ _ (.inr ⟨rfl,by simp[hs]⟩)
      ·rw[decide_eq_false hb]at hh;rw[if_neg hb]at hs;simp[sJ,-J,-yb,-y9,y0,e3,m3,e7,e9,ba,ad,hh,aq];refine ih ba _ ⟨?_,?_,?_,?_,hs⟩<;>simp[e3,m3,e7]
     ·have fa:¬ (i:Int)<l.length:=by omega
      simp[sJ,-J,-yb,-y9,y0,e7,e9,ba];refine hk _ _ (.inl ⟨rfl,?_⟩);rw[<- hs,show l.length-i=0 from by omega,TK]
    ·simp
    ·rcases h with⟨rfl,h1⟩|⟨rfl,h1⟩<;>simp[-J,-yb,-y9,y0,h1]
section
set_option maxHeartbeats 2000000
def Vl.of (k:Int)(b:Bool)(i:Int)(s:ByteArray)(d:Int):Vl:=.mk k b i s d true [] true [] true []
theorem FN (k:Int)(b:Bool)(i:Int)(s:ByteArray)(d:Int):WE (.of k b i s d)=[.int .i64 k,.bool b,.int .i64 i,.str s,.int .i64 d,.sl true [],.sl true [],.sl true []]:=by
 rw[EF];rfl
def TD (l:List OF)(z:Int):OF:=match l[z.toNat]? with
 |some x=>x
 |none=>⟨0,0,0,0,true,[]⟩
def inK (l:List OF)(t:Int):Int:=if UG l t=8/\mT l 0<0 then 7 else UG l t
def idAt (a code:Int):Int:=(nI a)[(code%(nI a).length).toNat]?.getD 0
def pP (l:List OF)(t code:Int):Vl×Bool :=
 if UG l t=5\/UG l t=6 then(.of 0 false 0 ⟨#[]⟩ 0,false)else
 (.of (inK l t) (decide (UG l t=1/\code%2=1)) (if UG l t=2 then(TD l t).low+code%((TD l t).b%6+1)else 0) (if UG l t=3/\0<(TD l t).a%4/\code%2=1 then⟨#[97]⟩else⟨#[]⟩) (if UG l t=4 then idAt (TD l t).a code else 0),true)
theorem DZ (a:Int):1<=(nI a).length/\(nI a).length<=6:=by
 have:=XY a 6;unfold nI;split
 ·simp
 ·rename_i h;refine ⟨?_,this⟩;cases h2:ZY a 6 with
  |nil=>exact absurd h2 h
  |cons=>simp
theorem Aq (dn:Bool)(l:List OF)(hl:oks l)(t:Int)(br:0<=t)(ht1:t<l.length)(code:Int)(hc:u8 code):BD 69 [.agg (TG dn l),.int .i64 t,.int .u8 code] (.fA [.agg (WE (pP l t code).1),.bool (pP l t code).2]):=by
 refine tD (c:=UE) rfl rfl ?_;have wc:=ZJ (dn:=dn) hl br ht1;have fh:=Wz hl br ht1;have re:=Gq dn l hl 0 ⟨by omega,by omega⟩;have ba:t.toNat<l.length:=by omega
 have g:l[t.toNat]?=some l[t.toNat]:=yf ba;have hx:(TD l t).ok:=by rw[TD,g];exact hl.2.2 _ (yC ba)
 have gm:(l.map qG)[t.toNat]?=some (qG (TD l t)):=by rw[TD,g];simp[g]
 obtain⟨rx,wq⟩:=hc;unfold pP inK;generalize TD l t=x at *
 generalize UG l t=kk at *
 have ni:=Zq x hx;have zo:=Cu x hx;have nh:=Nu x hx;have hlr:-3<=x.low/\x.low<=3:=by have:=hx.2.1;simp only[OF.low,u8]at *;omega
 have hhr:x.low<=x.high/\x.high<=x.low+5:=by have:=hx.2.2.1;simp only[OF.high,u8]at *;omega
 have hd:x.high-x.low+1=x.b%6+1:=by simp only[OF.high];omega
 have so:IntKind.i64.wrap code=code:=IntWalk.i64_in _ (by omega);have hws:IntKind.i64.wrap (x.high-x.low)=x.high-x.low:=IntWalk.i64_in _ (by omega);have hws1:IntKind.i64.wrap (x.high-x.low+1)=x.high-x.low+1:=IntWalk.i64_in _ (by omega);have hm:code.tmod (x.high-x.low+1)=code%(x.b%6+1):=by rw[hd];exact yO rx
 have hmz:=Int.emod_nonneg code (b:=x.b%6+1) (by omega);have ac:=Y0h code (b:=x.b%6+1) (by omega);have hwl:IntKind.i64.wrap (x.low+code%(x.b%6+1))=x.low+code%(x.b%6+1):=IntWalk.i64_in _ (by omega);have ua:¬x.high-x.low+1=0:=by omega
 have hm2:code.tmod 2=code%2:=yO rx;have xy:x.a.tmod 4=x.a%4:=yO hx.2.1.1;simp only[BD,TG,qG]at wc re gm ni zo nh ⊢;have hk:kk=1\/kk=2\/kk=3\/kk=4\/kk=5\/kk=6\/kk=7\/kk=8\/kk=9:=by omega
 rcases hk with rfl|rfl|rfl|rfl|rfl|rfl|rfl|rfl|rfl
 ·simp[UE,-J,-yb,-y9,y0,gm,br,wc,hm2,FN]
 ·generalize code % (x.b % 6 + 1)=y at *
  simp[UE,-J,-yb,-y9,y0,gm,br,wc,FN,ni,zo,so,hws,hws1,hm,ua,hwl]
 ·by_cases c1:0<x.a%4<;>by_cases c2:code%2=1<;>simp[UE,-J,-yb,-y9,y0,gm,br,wc,hm2,xy,c1,c2,FN]
 ·have wh:=DZ x.a;have hmi:code.tmod (nI x.a).length=code % (nI x.a).length:=yO rx;have fc:=Int.emod_nonneg code (b:=((nI x.a).length:Int)) (by omega);have ze:=Y0h code (b:=((nI x.a).length:Int)) (by omega);have oe:¬ ((nI x.a).length:Int)=0:=by omega
  unfold idAt;generalize code%((nI x.a).length:Int)=z at *
  have gz:(nI x.a)[z.toNat]?=some (nI x.a)[z.toNat]:=yf (by omega);have gi:((nI x.a).map GM)[z.toNat]?=some [.int .i64 (nI x.a)[z.toNat]]:=by rw[yk,gz];rfl
  rw[gz];generalize(nI x.a)[z.toNat]=y at *
  have xr:((nI x.a).map GM).length=(nI x.a).length:=by simp
  generalize(nI x.a).map GM=M at *
  obtain⟨N,hN⟩:∃N:Int,N=(nI x.a).length:=⟨_,rfl⟩;rw[<- hN]at hmi oe;simp[UE,-J,-yb,-y9,y0,gm,br,wc,FN,nh,so,xr,<- hN,hmi,oe,fc,gi]
 ·simp[UE,-J,-yb,-y9,y0,gm,br,wc,FN]
 ·simp[UE,-J,-yb,-y9,y0,gm,br,wc,FN]
 ·simp[UE,-J,-yb,-y9,y0,gm,br,wc,FN]
 ·by_cases c1:mT l 0<0<;>simp[UE,-J,-yb,-y9,y0,gm,br,wc,re,c1,FN]
 ·simp[UE,-J,-yb,-y9,y0,gm,br,wc,FN]
end
def DB (m:Nat)(v:AV):Prop:=∀t n,m<=n->v.rA t n=v
def GA (m:Nat)(v:AV):Prop:=∀t n,m<=n->v.kill t n=v
theorem XK {m m':Nat}(h:m<=m'){v:AV}(hv:GA m v):GA m' v:=fun t n hn=>hv t n (yH h hn)
theorem Jz {m t n o:Nat}(h:n<m):DB m (.ptr t n o):=fun t' n' h'=>by simp only[AV.rA];rw[if_neg (by omega)]
theorem z8 {m t n z o l c:Nat}(h:n<m):DB m (.ref t n z o l c):=fun t' n' h'=>by simp only[AV.rA];rw[if_neg (by omega)]
theorem pT {m:Nat}{v:AV}(h:v.tA=true):DB m v:=fun t n _=>XZ h t n
theorem aQ {m:Nat}{v:AV}(h:v.free=true):GA m v:=fun t n _=>I4 h t n
theorem Oi {m:Nat}{v:AV}(h:DB m v):(v.leaf=true)->GA m v:=fun hl t n hn=>by
 have:=h t n hn;cases v<;>first|exact this|(simp[AV.leaf]at hl;done)
theorem NZ {m:Nat}{cs:List AV}(h:∀c∈cs,DB m c):GA m (.agg cs):=fun t n hn=>by
 have:cs.map (AV.rA t n)=cs.map id:=yE fun c hc=>h c hc t n hn
 rw[List.map_id]at this;exact congrArg AV.agg this
theorem FF {m t n o:Nat}(h:n<m):GA m (.ptr t n o):=Jz h
theorem cS {m t n z o l c:Nat}(h:n<m):GA m (.ref t n z o l c):=z8 h
theorem A4 {m t n:Nat}(hn:m<=n){v:AV}(hv:GA m v):v.kill t n=v:=hv t n hn
theorem Hq (v:AV)(t n t' n':Nat):(v.rA t n).rA t' n'=(v.rA t' n').rA t n:=by
 cases v with
 |ptr a b o=>by_cases h1:(a=t/\b=n)<;>by_cases h2:(a=t'/\b=n')<;>first|(simp only[AV.rA,if_pos h1,if_pos h2];done)|(simp only[AV.rA,if_pos h1,if_neg h2];done)|(simp only[AV.rA,if_neg h1,if_pos h2];done)|(simp only[AV.rA,if_neg h1,if_neg h2];done)
 |ref a b z o l c=>by_cases h1:(a=t/\b=n)<;>by_cases h2:(a=t'/\b=n')<;>first|(simp only[AV.rA,if_pos h1,if_pos h2];done)|(simp only[AV.rA,if_pos h1,if_neg h2];done)|(simp only[AV.rA,if_neg h1,if_pos h2];done)|(simp only[AV.rA,if_neg h1,if_neg h2];done)
 |mp a b=>by_cases h1:(a=t/\b=n)<;>by_cases h2:(a=t'/\b=n')<;>first|(simp only[AV.rA,if_pos h1,if_pos h2];done)|(simp only[AV.rA,if_pos h1,if_neg h2];done)|(simp only[AV.rA,if_neg h1,if_pos h2];done)|(simp only[AV.rA,if_neg h1,if_neg h2];done)
 |_=>rfl
theorem lS (l:List AV)(t n t' n':Nat):(l.map (AV.rA t n)).map (AV.rA t' n')=(l.map (AV.rA t' n')).map (AV.rA t n):=by
 rw[y9,y9];exact yE fun x _=>Hq x t n t' n'
theorem Jq (v:AV)(t n t' n':Nat):(v.OA t n).OA t' n'=(v.OA t' n').OA t n:=by
 cases v with
 |agg cs=>exact congrArg AV.agg (lS cs t n t' n')
 |ptr a b o=>by_cases h1:(a=t/\b=n)<;>by_cases h2:(a=t'/\b=n')<;>first|(simp only[AV.OA,AV.rA,if_pos h1,if_pos h2];done)|(simp only[AV.OA,AV.rA,if_pos h1,if_neg h2];done)|(simp only[AV.OA,AV.rA,if_neg h1,if_pos h2];done)|(simp only[AV.OA,AV.rA,if_neg h1,if_neg h2];done)
 |ref a b z o l c=>by_cases h1:(a=t/\b=n)<;>by_cases h2:(a=t'/\b=n')<;>first|(simp only[AV.OA,AV.rA,if_pos h1,if_pos h2];done)|(simp only[AV.OA,AV.rA,if_pos h1,if_neg h2];done)|(simp only[AV.OA,AV.rA,if_neg h1,if_pos h2];done)|(simp only[AV.OA,AV.rA,if_neg h1,if_neg h2];done)
 |mp a b=>by_cases h1:(a=t/\b=n)<;>by_cases h2:(a=t'/\b=n')<;>first|(simp only[AV.OA,AV.rA,if_pos h1,if_pos h2];done)|(simp only[AV.OA,AV.rA,if_pos h1,if_neg h2];done)|(simp only[AV.OA,AV.rA,if_neg h1,if_pos h2];done)|(simp only[AV.OA,AV.rA,if_neg h1,if_neg h2];done)
 |_=>rfl
theorem Ts (v:AV)(t n t' n':Nat):(v.kill t n).kill t' n'=(v.kill t' n').kill t n:=by
 cases v with
 |agg cs=>exact congrArg AV.agg (lS cs t n t' n')
 |fn f cs=>exact congrArg (AV.fn f) (lS cs t n t' n')
 |fA vs =>
  refine congrArg AV.fA ?_;rw[y9,y9];exact yE fun x _=>Jq x t n t' n'
 |ptr a b o=>by_cases h1:(a=t/\b=n)<;>by_cases h2:(a=t'/\b=n')<;>first|(simp only[AV.kill,AV.rA,if_pos h1,if_pos h2];done)|(simp only[AV.kill,AV.rA,if_pos h1,if_neg h2];done)|(simp only[AV.kill,AV.rA,if_neg h1,if_pos h2];done)|(simp only[AV.kill,AV.rA,if_neg h1,if_neg h2];done)
 |ref a b z o l c=>by_cases h1:(a=t/\b=n)<;>by_cases h2:(a=t'/\b=n')<;>first|(simp only[AV.kill,AV.rA,if_pos h1,if_pos h2];done)|(simp only[AV.kill,AV.rA,if_pos h1,if_neg h2];done)|(simp only[AV.kill,AV.rA,if_neg h1,if_pos h2];done)|(simp only[AV.kill,AV.rA,if_neg h1,if_neg h2];done)
 |mp a b=>by_cases h1:(a=t/\b=n)<;>by_cases h2:(a=t'/\b=n')<;>first|(simp only[AV.kill,AV.rA,if_pos h1,if_pos h2];done)|(simp only[AV.kill,AV.rA,if_pos h1,if_neg h2];done)|(simp only[AV.kill,AV.rA,if_neg h1,if_pos h2];done)|(simp only[AV.kill,AV.rA,if_neg h1,if_neg h2];done)
 |_=>rfl
theorem jY {m t n:Nat}{v:AV}(hv:GA m v):GA m (v.kill t n):=fun t' n' h=>by rw[Ts,hv t' n' h]
def DD (m:Nat)(e:Nat->SC):Prop:=∀t,GA m (e t).v
def bN (m:Nat)(M:Nat->Nat->Option (List SC)):Prop:=∀t n r,M t n=some r->∀x∈r,GA m x.v
def dF (m:Nat)(M0 M:Nat->Nat->Option (List SC)):Prop:=∀t n,n<m->M t n=M0 t n
theorem DD.put {m:Nat}{e:Nat->SC}{d:Nat}{x:SC}(h:DD m e)(hx:GA m x.v):DD m (Od e d x):=fun t=>by
 rw[ON];split
 ·exact hx
 ·exact h t
theorem DD.mono {m m':Nat}(hm:m<=m'){e:Nat->SC}(h:DD m e):DD m' e:=fun t=>XK hm (h t)
theorem DD.kill {m:Nat}{e:Nat->SC}(h:DD m e){t n:Nat}:DD m (DV t n e):=fun j=>by
 rw[PD,SC.sA];exact jY (h j)
theorem DD.same {m:Nat}{e:Nat->SC}(h:DD m e){t n:Nat}(hn:m<=n):DV t n e=e:=funext fun j=>by
 rw[PD];show(⟨(e j).v.kill t n,(e j).a⟩:SC)=e j;rw[A4 hn (h j)]
theorem bN.set {m:Nat}{M:Nat->Nat->Option (List SC)}{t n:Nat}{r:List SC}(h:bN m M)(hr:∀x∈r,GA m x.v):bN m (DN M t n r):=fun t' n' r' he=>by
 rw[CC]at he;split at he
 ·injection he with he;subst he;exact hr
 ·exact h t' n' r' he
theorem bN.mono {m m':Nat}(hm:m<=m'){M:Nat->Nat->Option (List SC)}(h:bN m M):bN m' M:=fun t n r he x hx=>XK hm (h t n r he x hx)
theorem bN.kill {m:Nat}{M:Nat->Nat->Option (List SC)}(h:bN m M){t n:Nat}:bN m (FV t n M):=fun t' n' r' he x hx=>by
 rw[UD]at he;split at he
 ·cases he
 ·obtain⟨r,hr,rfl⟩:=yq.1 he;obtain⟨y,hy,rfl⟩:=yD.1 hx;rw[SC.sA];exact jY (h t' n' r hr y hy)
theorem dF.refl {m:Nat}{M:Nat->Nat->Option (List SC)}:dF m M M:=fun _ _ _=>rfl
theorem dF.set {m:Nat}{M0 M:Nat->Nat->Option (List SC)}{t n:Nat}{r:List SC}(h:dF m M0 M)(hn:m<=n):dF m M0 (DN M t n r):=fun t' n' h'=>by
 rw[CC,if_neg (by omega)];exact h t' n' h'
theorem dF.kill {m:Nat}{M0 M:Nat->Nat->Option (List SC)}(h:dF m M0 M)(h0:bN m M0){t n:Nat}(hn:m<=n):dF m M0 (FV t n M):=fun t' n' h'=>by
 rw[UD,if_neg (by omega),h t' n' h'];cases hr:M0 t' n' with
 |none=>rfl
 |some r =>
  refine congrArg some ?_;have:r.map (SC.kill t n)=r.map id:=yE fun x hx=>by
   show(⟨x.v.kill t n,x.a⟩:SC)=x;rw[A4 hn (h0 t' n' r hr x hx)]
  rwa [List.map_id]at this
theorem r6 {m:Nat}{l:List (List AV)}(h:∀c∈l,∀v∈c,DB m v)(h2:∀c∈l,∀v∈c,v.leaf=true):∀x∈qD l,GA m x.v:=fun x hx=>by
 obtain⟨v,hv,rfl⟩:=yD.1 hx;obtain⟨c,hc,hv⟩:=List.mem_flatten.1 hv;exact Oi (h c hc v hv) (h2 c hc v hv)
theorem Tq {v:AV}(h:v.tA=true):v.leaf=true:=by
 cases v<;>first|rfl|(simp[AV.tA]at h;done)
theorem pH {m:Nat}{l:List (List AV)}(h:ND l=true):∀x∈qD l,GA m x.v :=
 r6 (fun c hc v hv=>pT (ye.1 (ye.1 h c hc) v hv)) (fun c hc v hv=>Tq (ye.1 (ye.1 h c hc) v hv))
structure Co (m:Nat)(s0 s:LC):Prop where
 mem:dF m s0.mem s.mem
 gh:s.gh=s0.gh
 obj:s.obj=s0.obj
 next:m<=s.next
 low:bN s.next s.mem
section
set_option maxHeartbeats 4000000
def sQ (id:Int):ByteArray:=⟨#[109]⟩++Utf8.encode (97+id)
def OR (l:List OF)(i id:Int)(p:MR):Bool:=decide (1+p.id%12=id/\0<=SU l i p.ty)
def QT (l:List OF)(i:Int)(rc:Bool)(id:Int)(p:MR):ED :=
 ⟨id,sQ id,SU l i p.ty,rc&&decide (p.flag%4=1),rc&&decide (2<=p.flag%4)&&(pP l (SU l i p.ty) (p.flag / 4)).2,if(rc&&decide (2<=p.flag%4))=true then(pP l (SU l i p.ty) (p.flag / 4)).1 else Vl.zero⟩
def PR (l:List OF)(i:Int)(rc:Bool)(id:Int)(ps:List MR):List ED:=match ps.find? (OR l i id)with
 |some p=>[QT l i rc id p]
 |none=>[]
def gJ (l:List OF)(i:Int)(rc:Bool)(ps:List MR):Nat->List ED
 |0=>[]
 |n+1=>gJ l i rc ps n++PR l i rc ((n+1:Nat):Int) ps
def cI (l:List OF)(i:Int)(rc:Bool)(ps:List MR):List ED:=gJ l i rc ps 12
theorem Cs (l:List OF)(i:Int)(rc:Bool)(id:Int)(ps:List MR):(PR l i rc id ps).length<=1:=by
 unfold PR;split<;>simp
theorem gP (l:List OF)(i:Int)(rc:Bool)(ps:List MR):∀n,(gJ l i rc ps n).length<=n
 |0=>yl _
 |n+1=>by
  have:=gP l i rc ps n;have:=Cs l i rc ((n+1:Nat):Int) ps;rw[gJ,yj];omega
def uZ (n0:Nat)(ms:List ED)(x:SC)(s:LC):Prop :=
 (ms=[]/\x.v=.sl true []/\x.a=.ex)\/∃N,ms≠[]/\n0<=N/\N<s.next/\x.v=.ref 88 N 13 0 ms.length ms.length/\s.mem 88 N=some (qD (ms.map rD))
structure LM (n0:Nat)(s0:LC)(dn:Bool)(l:List OF)(i0:Int)(rc:Bool)(x:OF)(id:Int)(ms:List ED)(s:LC):Prop where
 e1:(s.env 1).v=.int .i64 i0
 e2:(s.env 2).v=.bool rc
 e3:(s.env 3).v=.ptr 3 n0 0
 m3:s.mem 3 n0=some [⟨.sl dn (l.map qG),.no⟩]
 e7:(s.env 7).v=.ptr 7 (n0+1) 0
 m7:s.mem 7 (n0+1)=some [⟨.int .u8 x.k,.no⟩,⟨.int .u8 x.a,.no⟩,⟨.int .u8 x.b,.no⟩,⟨.int .u8 x.c,.no⟩,⟨.sl x.pn (x.parts.map IG),.no⟩]
 e9:(s.env 9).v=.int .i64 id
 lst:uZ n0 ms (s.env 8) s
 calm:Co n0 s0 s
 lt:n0+1<s.next
theorem uZ.of {n0:Nat}{ms:List ED}{x x':SC}{s s':LC}(h:uZ n0 ms x s)(hx:x'=x)(hm:∀N,s'.mem 88 N=s.mem 88 N)(hn:s.next<=s'.next):uZ n0 ms x' s':=by
 subst hx;rcases h with h|⟨N,h1,h2,h3,h4,h5⟩
 ·exact .inl h
 ·exact .inr ⟨N,h1,h2,Y06 h3 hn,h4,(hm N).trans h5⟩
theorem NC {m:Nat}{r:List SC}(h:r.all (fun x=>x.v.free)=true:=by simp[AV.free,AV.tA]):∀x∈r,GA m x.v:=fun x hx=>aQ (ye.1 h x hx)
theorem cZ (n:Int):(Utf8.encode n).size<=4:=by
 unfold Utf8.encode;dsimp only;generalize(if Utf8.valid n=true then n.toNat else Utf8.runeError)=c;split
 ·exact(by decide:(1:Nat)<=4)
 ·split
  ·exact(by decide:(2:Nat)<=4)
  ·split
   ·exact(by decide:(3:Nat)<=4)
   ·exact(by decide:(4:Nat)<=4)
theorem SZ (n:Int)(h:-2147483648<=n/\n<=2147483647):IntKind.i32.wrap n=n:=by
 simp[IntKind.wrap,IntKind.bits,IntKind.signed];omega
theorem Cx {r:RV}{n0:Nat}{s0:LC}{dn:Bool}{l:List OF}(hl:oks l){i0:Int}(pg:0<=i0)(zg:i0<l.length){rc:Bool}{x:OF}(hx:x.ok)(hM:bN n0 s0.mem)(hG:DD n0 s0.gh){id:Int}(KN:1<=id/\id<=12){ms:List ED}(bg:ms.length<=12)(s:LC)(k:Ex->LC->Option RV)(h:LM n0 s0 dn l i0 rc x id ms s)(py:(s.env 10).v=.int .i64 0)
  (hk:∀s',LM n0 s0 dn l i0 rc x id (ms++PR l i0 rc id x.parts) s'->k (.exit 2) s'=some r):HJ MC ZC KD s k=some r:=by
 refine zE x.parts.length (fun j s=>LM n0 s0 dn l i0 rc x id ms s/\(s.env 10).v=.int .i64 j/\(x.parts.drop j).find? (OR l i0 id)=x.parts.find? (OR l i0 id))
  (fun e s=>e=.exit 2/\LM n0 s0 dn l i0 rc x id (ms++PR l i0 rc id x.parts) s) (fun j hj s k h ih hk=>?_) s k ⟨h,by simpa using py,rfl⟩ (fun e s h=>by obtain⟨rfl,h⟩:=h;exact hk s h)
 obtain⟨⟨e1,e2,e3,m3,e7,m7,e9,lst,calm,lt⟩,e10,hf⟩:=h;have pp:=hx.2.2.2.2.1;refine wD ?_;by_cases ba:j<x.parts.length
 ·have fa:(j:Int)<x.parts.length:=by omega
  have jr:=rE (i:=j);have hp:=hx.2.2.2.2.2 _ (yC ba);have g1:(x.parts.map IG)[j]?=some (IG x.parts[j]):=by simp[ba]
  rw[yv ba,List.find?_cons]at hf;generalize x.parts[j]=p at *
  simp only[IG]at g1;have sw:=Ef dn l hl i0 pg zg p.ty hp.2.1;have hti:=c9 hl i0 p.ty zg;have jt:=fun br=>Aq dn l hl (SU l i0 p.ty) br hti.2 (p.flag / 4) ⟨by have:=hp.2.2.1;omega,by have:=hp.2.2.2;omega⟩
  simp only[BD,TG]at sw jt;have zk:p.id.tmod 12=p.id%12:=yO hp.1.1;have bi:IntKind.i64.wrap (p.id%12)=p.id%12:=IntWalk.i64_in _ (by omega);have fq:IntKind.i64.wrap (1+p.id%12)=1+p.id%12:=IntWalk.i64_in _ (by omega);have io:IntKind.i64.wrap id=id:=IntWalk.i64_in _ (by omega);obtain⟨z,hz⟩:∃z:Int,z=j:=⟨_,rfl⟩;have fc:0<=z:=by omega
  have hwz:IntKind.i64.wrap (z+1)=((j+1:Nat):Int):=by rw[hz];exact jr
  rw[<- hz]at e10 fa;rw[show j=z.toNat from by omega]at g1;have calm':=calm;obtain⟨cm,cg,co,cn,cl⟩:=calm;have next:∀s',LM n0 s0 dn l i0 rc x id ms s'->(s'.env 10).v=.int .i64 ((j+1:Nat):Int)->OR l i0 id p=false->HJ MC ZC KD s' k=some r:=fun s' h1 h2 h3=>by
   rw[h3]at hf;exact ih ba s' ⟨h1,h2,hf⟩
  by_cases c1:1+p.id%12=id
  ·by_cases c2:SU l i0 p.ty<0
   ·have pt:OR l i0 id p=false:=by simp [OR,c1]; omega
    simp[KD,-J,-yb,-y9,y0,e1,e2,e3,m3,e7,m7,e9,e10,fa,g1,fc,sw,zk,bi,fq,c1,c2,hwz,io];refine next _ ⟨?_,?_,?_,?_,?_,?_,?_,lst.of ?_ ?_ ?_,⟨?_,?_,?_,?_,?_⟩,?_⟩ ?_ pt
    ·simp[e1]
    ·simp[e2]
    ·simp[e3]
    ·simp[CC,m3]
    ·simp[e7]
    ·simp[CC,m7]
    ·simp[e9]
    ·simp
    ·intro N;simp[CC]
    ·simp only;omega
    ·exact(cm.set (by omega)).set (by omega)
    ·exact cg
    ·exact co
    ·simp only;omega
    ·exact((cl.mono (by dsimp only;omega)).set NC).set NC
    ·simp only;omega
    ·simp
   ·have hip:OR l i0 id p=true:=by simp [OR,c1]; omega
    rw[hip]at hf;have js:PR l i0 rc id x.parts=[QT l i0 rc id p]:=by rw[PR,<- hf]
    rw[js]at hk;have jt:=jt (by omega);have hq4:p.flag.tmod 4=p.flag%4:=yO hp.2.2.1;have hv4:p.flag.tdiv 4=p.flag / 4:=Int.tdiv_eq_ediv_of_nonneg hp.2.2.1;have jy:IntKind.u8.wrap (p.flag / 4)=p.flag / 4:=by have:=hp.2.2.1;have:=hp.2.2.2;simp[IntKind.wrap,IntKind.bits,IntKind.signed];omega
    have gu:IntKind.i64.wrap (97+id)=97+id:=IntWalk.i64_in _ (by omega);have hwr:IntKind.i32.wrap (97+id)=97+id:=SZ _ (by omega);have hes:=cZ (97+id);have zc:(⟨#[109]⟩:ByteArray).size=1:=rfl;have rb:(⟨#[109]⟩:ByteArray).size+(Utf8.encode (97+id)).size<=9223372036854775807:=by omega
    unfold QT sQ at hk;generalize hE:Utf8.encode (97+id)=nm at *
    generalize pP l (SU l i0 p.ty) (p.flag / 4)=iz at *
    obtain⟨iv,ib⟩:=iz;simp only[EF]at jt;generalize SU l i0 p.ty=t at *
    rcases lst with⟨lm,l1,l2⟩|⟨N,lm,l1,l2,l3,l4⟩
    ·subst lm;have ga:pD 160 1=true:=by rw [XC]; omega
     cases rc with
     |false =>
      simp[KD,-J,-yb,-y9,y0,e1,e2,e3,m3,e7,m7,e9,e10,fa,g1,fc,sw,zk,bi,fq,c1,c2,io,gu,hwr,hE,rb,l1,ga,l2];refine hk _ _ ⟨rfl,?_,?_,?_,?_,?_,?_,?_,.inr ⟨s.next+1+1+1+1+1+1+1,?_,?_,?_,?_,?_⟩,⟨?_,?_,?_,?_,?_⟩,?_⟩
      ·simp[e1]
      ·simp[e2]
      ·simp[e3]
      ·simp[CC,m3]
      ·simp[e7]
      ·simp[CC,m7]
      ·simp[e9]
      ·simp
      ·omega
      ·dsimp only;omega
      ·simp
      ·simp[CC,rD,Vl.zero,Vl.kind,Vl.b,Vl.i,Vl.s,Vl.id,Vl.kn,Vl.keys,Vl.xn,Vl.items,Vl.rn,Vl.rest]
      ·repeat (first|exact cm|refine dF.set ?_ (by omega)|refine dF.kill ?_ hM (by omega))
      ·exact cg
      ·exact co
      ·dsimp only;omega
      ·exact(((((cl.mono (by dsimp only;omega)).set NC).set NC).set NC).set NC).set (pH (by simp[ND,AV.tA,rD]))
      ·dsimp only;omega
     |true =>
      by_cases f1:p.flag%4=1
      ·simp [KD,-J,-yb,-y9,y0,e1,e2,e3,m3,e7,m7,e9,e10,fa,g1,fc,sw,zk,bi,fq,c1,c2,io,gu,hwr,hE,rb,l1,ga,l2,hq4,f1];refine hk _ _ ⟨rfl,?_,?_,?_,?_,?_,?_,?_,.inr ⟨s.next + 1 + 1 + 1 + 1 + 1 + 1 + 1 + 1,?_,?_,?_,?_,?_⟩,⟨?_,?_,?_,?_,?_⟩,?_⟩
       ·simp[e1]
       ·simp[e2]
       ·simp[e3]
       ·simp[CC,m3]
       ·simp[e7]
       ·simp[CC,m7]
       ·simp[e9]
       ·simp
       ·omega
       ·dsimp only;omega
       ·simp
       ·simp[CC,rD,Vl.zero,Vl.kind,Vl.b,Vl.i,Vl.s,Vl.id,Vl.kn,Vl.keys,Vl.xn,Vl.items,Vl.rn,Vl.rest,f1]
       ·repeat (first|exact cm|refine dF.set ?_ (by omega)|refine dF.kill ?_ hM (by omega))
       ·exact cg
       ·exact co
       ·dsimp only;omega
       ·exact((((((cl.mono (by dsimp only;omega)).set NC).set NC).set NC).set NC).set NC).set (pH (by simp[ND,AV.tA,rD]))
       ·dsimp only;omega
      ·by_cases f2:2<=p.flag % 4
       ·simp [KD,-J,-yb,-y9,y0,e1,e2,e3,m3,e7,m7,e9,e10,fa,g1,fc,sw,zk,bi,fq,c1,c2,io,gu,hwr,hE,rb,l1,ga,l2,hq4,f1,f2,hv4,jy,jt];refine hk _ _ ⟨rfl,?_,?_,?_,?_,?_,?_,?_,.inr ⟨s.next + 1 + 1 + 1 + 1 + 1 + 1 + 1 + 1,?_,?_,?_,?_,?_⟩,⟨?_,?_,?_,?_,?_⟩,?_⟩
        ·simp[e1]
        ·simp[e2]
        ·simp[e3]
        ·simp[CC,m3]
        ·simp[e7]
        ·simp[CC,m7]
        ·simp[e9]
        ·simp
        ·omega
        ·dsimp only;omega
        ·simp
        ·simp[CC,rD,Vl.zero,Vl.kind,Vl.b,Vl.i,Vl.s,Vl.id,Vl.kn,Vl.keys,Vl.xn,Vl.items,Vl.rn,Vl.rest,f1,f2]
        ·repeat (first|exact cm|refine dF.set ?_ (by omega)|refine dF.kill ?_ hM (by omega))
        ·exact cg
        ·exact co
        ·dsimp only;omega
        ·exact(((((((cl.mono (by dsimp only;omega)).set NC).set NC).set NC).set NC).set NC).set NC).set (pH (by simp[ND,AV.tA,rD]))
        ·dsimp only;omega
       ·simp [KD,-J,-yb,-y9,y0,e1,e2,e3,m3,e7,m7,e9,e10,fa,g1,fc,sw,zk,bi,fq,c1,c2,io,gu,hwr,hE,rb,l1,ga,l2,hq4,f1,f2];refine hk _ _ ⟨rfl,?_,?_,?_,?_,?_,?_,?_,.inr ⟨s.next + 1 + 1 + 1 + 1 + 1 + 1 + 1,?_,?_,?_,?_,?_⟩,⟨?_,?_,?_,?_,?_⟩,?_⟩
        ·simp[e1]
        ·simp[e2]
        ·simp[e3]
        ·simp[CC,m3]
        ·simp[e7]
        ·simp[CC,m7]
        ·simp[e9]
        ·simp
        ·omega
        ·dsimp only;omega
        ·simp
        ·simp[CC,rD,Vl.zero,Vl.kind,Vl.b,Vl.i,Vl.s,Vl.id,Vl.kn,Vl.keys,Vl.xn,Vl.items,Vl.rn,Vl.rest,f1,f2]
        ·repeat (first|exact cm|refine dF.set ?_ (by omega)|refine dF.kill ?_ hM (by omega))
        ·exact cg
        ·exact co
        ·dsimp only;omega
        ·exact(((((cl.mono (by dsimp only;omega)).set NC).set NC).set NC).set NC).set (pH (by simp[ND,AV.tA,rD]))
        ·dsimp only;omega
    ·have ac:(ms.map rD).length=ms.length:=by simp
     have ga:pD 160 (ms.length+1)=true:=by rw[XC];omega
     have dd:=dG ms;have pe:ND (ms.map rD)=true:=BH rD ms fun m=>by simp[rD,AV.tA]
     have ao:KG (qD (ms.map rD)) 13 0 ms.length=some (ms.map rD):=by have:=AE dd pe;rwa [ac]at this
     cases rc with
     |false =>
      simp[KD,-J,-yb,-y9,y0,e1,e2,e3,m3,e7,m7,e9,e10,fa,g1,fc,sw,zk,bi,fq,c1,c2,io,gu,hwr,hE,rb,l3,ga,l4,ao];refine hk _ _ ⟨rfl,?_,?_,?_,?_,?_,?_,?_,.inr ⟨s.next+1+1+1+1+1+1+1,?_,?_,?_,?_,?_⟩,⟨?_,?_,?_,?_,?_⟩,?_⟩
      ·simp[PD,UD,SC.sA,SC.iA,AV.kill,AV.rA,e1]
      ·simp[PD,UD,SC.sA,SC.iA,AV.kill,AV.rA,e2]
      ·simp[PD,UD,SC.sA,SC.iA,AV.kill,AV.rA,e3]
      ·simp[PD,UD,SC.sA,SC.iA,AV.kill,AV.rA,CC,m3]
      ·simp[PD,UD,SC.sA,SC.iA,AV.kill,AV.rA,e7]
      ·simp[PD,UD,SC.sA,SC.iA,AV.kill,AV.rA,CC,m7]
      ·simp[PD,UD,SC.sA,SC.iA,AV.kill,AV.rA,e9]
      ·simp
      ·omega
      ·dsimp only;omega
      ·simp
      ·simp[CC,rD,Vl.zero,Vl.kind,Vl.b,Vl.i,Vl.s,Vl.id,Vl.kn,Vl.keys,Vl.xn,Vl.items,Vl.rn,Vl.rest]
      ·repeat (first|exact cm|refine dF.set ?_ (by omega)|refine dF.kill ?_ hM (by omega))
      ·dsimp only;rw[cg];exact hG.same (by omega)
      ·exact co
      ·dsimp only;omega
      ·exact((((((cl.mono (by dsimp only;omega)).set NC).set NC).set NC).set NC).kill).set (pH (by simp[ND,AV.tA,rD]))
      ·dsimp only;omega
     |true =>
      by_cases f1:p.flag%4=1
      ·simp [KD,-J,-yb,-y9,y0,e1,e2,e3,m3,e7,m7,e9,e10,fa,g1,fc,sw,zk,bi,fq,c1,c2,io,gu,hwr,hE,rb,l3,ga,l4,ao,hq4,f1];refine hk _ _ ⟨rfl,?_,?_,?_,?_,?_,?_,?_,.inr ⟨s.next + 1 + 1 + 1 + 1 + 1 + 1 + 1 + 1,?_,?_,?_,?_,?_⟩,⟨?_,?_,?_,?_,?_⟩,?_⟩
       ·simp[PD,UD,SC.sA,SC.iA,AV.kill,AV.rA,e1]
       ·simp[PD,UD,SC.sA,SC.iA,AV.kill,AV.rA,e2]
       ·simp[PD,UD,SC.sA,SC.iA,AV.kill,AV.rA,e3]
       ·simp[PD,UD,SC.sA,SC.iA,AV.kill,AV.rA,CC,m3]
       ·simp[PD,UD,SC.sA,SC.iA,AV.kill,AV.rA,e7]
       ·simp[PD,UD,SC.sA,SC.iA,AV.kill,AV.rA,CC,m7]
       ·simp[PD,UD,SC.sA,SC.iA,AV.kill,AV.rA,e9]
       ·simp
       ·omega
       ·dsimp only;omega
       ·simp
       ·simp[CC,rD,Vl.zero,Vl.kind,Vl.b,Vl.i,Vl.s,Vl.id,Vl.kn,Vl.keys,Vl.xn,Vl.items,Vl.rn,Vl.rest,f1]
       ·repeat (first|exact cm|refine dF.set ?_ (by omega)|refine dF.kill ?_ hM (by omega))
       ·dsimp only;rw[cg];exact hG.same (by omega)
       ·exact co
       ·dsimp only;omega
       ·exact(((((((cl.mono (by dsimp only;omega)).set NC).set NC).set NC).set NC).set NC).kill).set (pH (by simp[ND,AV.tA,rD]))
       ·dsimp only;omega
      ·by_cases f2:2<=p.flag % 4
       ·simp [KD,-J,-yb,-y9,y0,e1,e2,e3,m3,e7,m7,e9,e10,fa,g1,fc,sw,zk,bi,fq,c1,c2,io,gu,hwr,hE,rb,l3,ga,l4,ao,hq4,f1,f2,hv4,jy,jt];refine hk _ _ ⟨rfl,?_,?_,?_,?_,?_,?_,?_,.inr ⟨s.next + 1 + 1 + 1 + 1 + 1 + 1 + 1 + 1,?_,?_,?_,?_,?_⟩,⟨?_,?_,?_,?_,?_⟩,?_⟩
        ·simp[PD,UD,SC.sA,SC.iA,AV.kill,AV.rA,e1]
        ·simp[PD,UD,SC.sA,SC.iA,AV.kill,AV.rA,e2]
        ·simp[PD,UD,SC.sA,SC.iA,AV.kill,AV.rA,e3]
        ·simp[PD,UD,SC.sA,SC.iA,AV.kill,AV.rA,CC,m3]
        ·simp[PD,UD,SC.sA,SC.iA,AV.kill,AV.rA,e7]
        ·simp[PD,UD,SC.sA,SC.iA,AV.kill,AV.rA,CC,m7]
        ·simp[PD,UD,SC.sA,SC.iA,AV.kill,AV.rA,e9]
        ·simp
        ·omega
        ·dsimp only;omega
        ·simp
        ·simp[CC,rD,Vl.zero,Vl.kind,Vl.b,Vl.i,Vl.s,Vl.id,Vl.kn,Vl.keys,Vl.xn,Vl.items,Vl.rn,Vl.rest,f1,f2]
        ·repeat (first|exact cm|refine dF.set ?_ (by omega)|refine dF.kill ?_ hM (by omega))
        ·dsimp only;rw[cg];exact hG.same (by omega)
        ·exact co
        ·dsimp only;omega
        ·exact((((((((cl.mono (by dsimp only;omega)).set NC).set NC).set NC).set NC).set NC).set NC).kill).set (pH (by simp[ND,AV.tA,rD]))
        ·dsimp only;omega
       ·simp [KD,-J,-yb,-y9,y0,e1,e2,e3,m3,e7,m7,e9,e10,fa,g1,fc,sw,zk,bi,fq,c1,c2,io,gu,hwr,hE,rb,l3,ga,l4,ao,hq4,f1,f2];refine hk _ _ ⟨rfl,?_,?_,?_,?_,?_,?_,?_,.inr ⟨s.next + 1 + 1 + 1 + 1 + 1 + 1 + 1,?_,?_,?_,?_,?_⟩,⟨?_,?_,?_,?_,?_⟩,?_⟩
        ·simp[PD,UD,SC.sA,SC.iA,AV.kill,AV.rA,e1]
        ·simp[PD,UD,SC.sA,SC.iA,AV.kill,AV.rA,e2]
        ·simp[PD,UD,SC.sA,SC.iA,AV.kill,AV.rA,e3]
        ·simp[PD,UD,SC.sA,SC.iA,AV.kill,AV.rA,CC,m3]
        ·simp[PD,UD,SC.sA,SC.iA,AV.kill,AV.rA,e7]
        ·simp[PD,UD,SC.sA,SC.iA,AV.kill,AV.rA,CC,m7]
        ·simp[PD,UD,SC.sA,SC.iA,AV.kill,AV.rA,e9]
        ·simp
        ·omega
        ·dsimp only;omega
        ·simp
        ·simp[CC,rD,Vl.zero,Vl.kind,Vl.b,Vl.i,Vl.s,Vl.id,Vl.kn,Vl.keys,Vl.xn,Vl.items,Vl.rn,Vl.rest,f1,f2]
        ·repeat (first|exact cm|refine dF.set ?_ (by omega)|refine dF.kill ?_ hM (by omega))
        ·dsimp only;rw[cg];exact hG.same (by omega)
        ·exact co
        ·dsimp only;omega
        ·exact((((((cl.mono (by dsimp only;omega)).set NC).set NC).set NC).set NC).kill).set (pH (by simp[ND,AV.tA,rD]))
        ·dsimp only;omega
  ·have pt:OR l i0 id p=false:=by simp [OR,c1]
   simp[KD,-J,-yb,-y9,y0,e1,e2,e3,m3,e7,m7,e9,e10,fa,g1,fc,sw,zk,bi,fq,c1,hwz];refine next _ ⟨?_,?_,?_,?_,?_,?_,?_,lst.of ?_ ?_ ?_,⟨?_,?_,?_,?_,?_⟩,?_⟩ ?_ pt
   ·simp[e1]
   ·simp[e2]
   ·simp[e3]
   ·simp[CC,m3]
   ·simp[e7]
   ·simp[CC,m7]
   ·simp[e9]
   ·simp
   ·intro N;simp[CC]
   ·simp only;omega
   ·exact(cm.set (by omega)).set (by omega)
   ·exact cg
   ·exact co
   ·simp only;omega
   ·exact((cl.mono (by dsimp only;omega)).set NC).set NC
   ·simp only;omega
   ·simp
 ·have fa:¬ (j:Int)<x.parts.length:=by omega
  simp[KD,-J,-yb,-y9,y0,e7,m7,e10,ba];rw[yw (by omega),List.find?_nil]at hf;have aw:PR l i0 rc id x.parts=[]:=by rw[PR,<- hf]
  refine hk _ _ ⟨rfl,?_⟩;rw[aw,yF];obtain⟨cm,cg,co,cn,cl⟩:=calm;refine⟨?_,?_,?_,?_,?_,?_,?_,lst.of ?_ ?_ ?_,⟨?_,?_,?_,?_,?_⟩,?_⟩
  ·simp[e1]
  ·simp[e2]
  ·simp[e3]
  ·simp[m3]
  ·simp[e7]
  ·simp[m7]
  ·simp[e9]
  ·simp
  ·intro N;simp
  ·simp
  ·exact cm
  ·exact cg
  ·exact co
  ·simp only;omega
  ·exact cl.mono (by dsimp only;omega)
  ·simp only;omega
end
section
set_option maxHeartbeats 4000000
theorem LM.of {n0:Nat}{s0:LC}{dn:Bool}{l:List OF}{i0:Int}{rc:Bool}{x:OF}{id id':Int}{ms:List ED}{s s':LC}(h:LM n0 s0 dn l i0 rc x id ms s)
  (h1:(s'.env 1).v=(s.env 1).v) (h2:(s'.env 2).v=(s.env 2).v) (h3:(s'.env 3).v=(s.env 3).v) (h7:(s'.env 7).v=(s.env 7).v) (h8:s'.env 8=s.env 8) (h9:(s'.env 9).v=.int .i64 id') (hm:s'.mem=s.mem) (hg:s'.gh=s.gh) (ho:s'.obj=s.obj) (hn:s.next<=s'.next):LM n0 s0 dn l i0 rc x id' ms s':=by
 obtain⟨e1,e2,e3,m3,e7,m7,e9,lst,⟨cm,cg,co,cn,cl⟩,lt⟩:=h;refine⟨by rw[h1,e1],by rw[h2,e2],by rw[h3,e3],by rw[hm,m3],by rw[h7,e7],by rw[hm,m7],h9,lst.of h8 (fun N=>by rw[hm]) hn,⟨by rw[hm];exact cm,by rw[hg,cg],by rw[ho,co],by omega,by rw[hm];exact cl.mono hn⟩,by omega⟩
theorem F8 {r:RV}{dn:Bool}{l:List OF}(hl:oks l){i0:Int}(pg:0<=i0)(zg:i0<l.length){rc:Bool}{x:OF}(hx:l[i0.toNat]?=some x){a1 a2 a3:An}(s0:LC)(hM:bN s0.next s0.mem)(hG:DD s0.next s0.gh)(k:SC->LC->Option RV)
  (hk:∀y s',Co s0.next s0 s'->uZ s0.next (cI l i0 rc x.parts) y s'->k y s'=some r):Rq MC ZC 34 [⟨.agg (TG dn l),a1⟩,⟨.int .i64 i0,a2⟩,⟨.bool rc,a3⟩] s0 k=some r:=by
 refine wM xM rfl rfl ?_;have hxo:x.ok:=hl.2.2 _ (yr hx);have g:(l.map qG)[i0.toNat]?=some (qG x):=by simp[hx]
 simp only[qG]at g;simp[xM,TG,-J,-yb,-y9,y0,g,pg];refine zE 12 (fun i s=>LM s0.next s0 dn l i0 rc x ((i+1:Nat):Int) (gJ l i0 rc x.parts i) s)
  (fun e s=>e=.exit 0/\∃id,LM s0.next s0 dn l i0 rc x id (cI l i0 rc x.parts) s) (fun i hi s k' h ih hk=>?_) _ _ ?_ (fun e s h=>?_)
 ·refine wD ?_;by_cases ba:i<12
  ·have KN:((i + 1:Nat):Int)<=12:=by omega
   have e9:=h.e9;have hw:IntKind.i64.wrap (((i+1:Nat):Int)+1)=((i+1+1:Nat):Int):=rE (by omega);obtain⟨z,hz⟩:∃z:Int,z=((i+1:Nat):Int):=⟨_,rfl⟩;rw[<- hz]at e9 KN hw;simp[NL,-J,-yb,-y9,y0,e9,KN];refine Cx hl pg zg hxo hM hG (id:=z) (by omega) (yH (gP l i0 rc x.parts i) hi) _ _ (h.of ?_ ?_ ?_ ?_ ?_ ?_ ?_ ?_ ?_ ?_) ?_ (fun s' h'=>?_)
   ·simp
   ·simp
   ·simp
   ·simp
   ·simp
   ·simp[e9]
   ·rfl
   ·rfl
   ·rfl
   ·dsimp only;omega
   ·simp
   ·have e9':=h'.e9;simp [-J,-yb,-y9,y0,e9',hw];rw [hz] at h';refine ih ba _ (LM.of (ms:=gJ l i0 rc x.parts (i + 1)) h' ?_ ?_ ?_ ?_ ?_ ?_ ?_ ?_ ?_ ?_)
    ·simp
    ·simp
    ·simp
    ·simp
    ·simp
    ·simp
    ·rfl
    ·rfl
    ·rfl
    ·dsimp only;omega
  ·have hi12:i=12:=by omega
   subst hi12;have e9:=h.e9;simp at e9;simp[NL,-J,-yb,-y9,y0,e9];refine hk _ _ ⟨rfl,13,LM.of (id':=13) h ?_ ?_ ?_ ?_ ?_ ?_ ?_ ?_ ?_ ?_⟩
   ·simp
   ·simp
   ·simp
   ·simp
   ·simp
   ·simp[e9]
   ·rfl
   ·rfl
   ·rfl
   ·dsimp only;omega
 ·refine ⟨?_,?_,?_,?_,?_,?_,?_,.inl ⟨rfl,?_,?_⟩,⟨?_,?_,?_,?_,?_⟩,?_⟩
  ·simp
  ·simp
  ·simp
  ·simp[CC]
  ·simp
  ·simp[CC]
  ·simp
  ·simp
  ·simp
  ·exact(((dF.refl).set (by omega)).set (by omega)).set (by omega)
  ·rfl
  ·rfl
  ·dsimp only;omega
  ·exact(((hM.mono (by dsimp only;omega)).set NC).set NC).set NC
  ·dsimp only;omega
 ·obtain ⟨rfl,id,h⟩:=h;obtain ⟨e1,e2,e3,m3,e7,m7,e9,lst,⟨cm,cg,co,cn,cl⟩,lt⟩:=h;simp [-J,-yb,-y9,y0,SK,NH,qK];refine hk _ _ ⟨cm,cg,co,?_,cl.mono ?_⟩ (lst.of ?_ (fun N=>?_) ?_)
  ·dsimp only;omega
  ·dsimp only;omega
  ·rfl
  ·rfl
  ·dsimp only;omega
end
def mQ (x:SC):Prop:=∀k,x.strip k=x
def iZ (e:Nat->SC):Prop:=∀t,mQ (e t)
def Re (m:Nat)(M:Nat->Nat->Option (List SC)):Prop:=∀t n r,n<m->M t n=some r->∀x∈r,mQ x
theorem kW (v:AV):mQ ⟨v,.no⟩:=fun _=>rfl
theorem H8 (v:AV):mQ ⟨v,.ex⟩:=fun _=>rfl
theorem iZ.same {e:Nat->SC}(h:iZ e)(k:Nat):Q2 k e=e:=funext fun t=>by rw[p5];exact h t k
theorem E2 (k:Nat)(M:Nat->Nat->Option (List SC))(t n:Nat):ID k M t n=(M t n).map (·.map (SC.strip k)):=rfl
theorem dF.strip {m:Nat}{M0 M:Nat->Nat->Option (List SC)}(h:dF m M0 M)(h0:Re m M0)(k:Nat):dF m M0 (ID k M):=fun t n hn=>by
 rw[E2,h t n hn];cases hr:M0 t n with
 |none=>rfl
 |some r =>
  refine congrArg some ?_;have:r.map (SC.strip k)=r.map id:=yE fun x hx=>h0 t n r hn hr x hx k
  rwa [List.map_id]at this
theorem bN.strip {m:Nat}{M:Nat->Nat->Option (List SC)}(h:bN m M)(k:Nat):bN m (ID k M):=fun t n r he x hx=>by
 rw[E2]at he;obtain⟨r0,hr,rfl⟩:=yq.1 he;obtain⟨y,hy,rfl⟩:=yD.1 hx;exact h t n r0 hr y hy
theorem DD.strip {m:Nat}{e:Nat->SC}(h:DD m e)(k:Nat):DD m (Q2 k e):=fun t=>h t
theorem D1 {l:List (List AV)}(h:ND l=true)(t n:Nat):(qD l).map (SC.kill t n)=qD l:=by
 have:(qD l).map (SC.kill t n)=(qD l).map id:=yE fun x hx=>by
  have:=pH (m:=0) h x hx t n (Nat.zero_le _);show(⟨x.v.kill t n,x.a⟩:SC)=x;rw[this]
 rwa [List.map_id]at this
def GL (i:Int):ByteArray:=Utf8.encode (65+i)
def Zc (d:Int):ByteArray:=⟨#[115]⟩++Utf8.encode (97+d)
def FL (a:Int):List PG:=(nI a).map fun d=>⟨d,Zc d⟩
def BC.of (k:Int)(nm:ByteArray):BC:=⟨k,nm,0,0,0,true,[],true,[],0,0,false⟩
def MH (l:List OF)(i:Int):BC :=
 let x:=TD l i
 let n:Int:=l.length
 match x.kind with
 |1=>.of 1 ⟨#[]⟩
 |2=>{ BC.of 2 ⟨#[]⟩with low:=x.low,high:=x.high }
 |3=>{ BC.of 3 ⟨#[]⟩with max:=x.a%4 }
 |4=>{ BC.of 4 (GL i)with opn:=decide (x.b%2=1),sn:=false,wA:=FL x.a }
 |5=>{ BC.of 5 (GL i)with mn:=(cI l i true x.parts).isEmpty,qA:=cI l i true x.parts }
 |6=>if(cI l i false x.parts).isEmpty=true then .of 5 (GL i)else{ BC.of 6 (GL i)with opn:=decide (x.b%2=1),mn:=false,qA:=cI l i false x.parts }
 |7=>{ BC.of 7 ⟨#[]⟩with max:=x.a%4,elem:=x.c%n }
 |8=>if mT l x.b<0 then{ BC.of 7 ⟨#[]⟩with max:=x.a%4,elem:=x.c%n }else{ BC.of 8 ⟨#[]⟩with max:=x.a%4,key:=mT l x.b,elem:=x.c%n }
 |_=>{ BC.of 9 ⟨#[]⟩with elem:=x.c%n }
def iI (t:BC)(c:AV):List AV:=[.int .i64 t.kind,.str t.name,.int .i64 t.low,.int .i64 t.high,.int .i64 t.max,.sl t.sn (t.wA.map fD),c,.int .i64 t.key,.int .i64 t.elem,.bool t.opn]
theorem typL_C (t:BC):iI t (.sl t.mn (t.qA.map rD))=GC t:=rfl
def wL (ms:List ED)(c:AV)(s:LC):Prop :=
 (ms=[]/\c=.sl true [])\/∃N,ms≠[]/\N<s.next/\c=.ref 88 N 13 0 ms.length ms.length/\s.mem 88 N=some (qD (ms.map rD))
theorem uZ.qA {n0:Nat}{ms:List ED}{x:SC}{s:LC}(h:uZ n0 ms x s):wL ms x.v s:=by
 rcases h with⟨h1,h2,_⟩|⟨N,h1,_,h3,h4,h5⟩
 ·exact .inl ⟨h1,h2⟩
 ·exact .inr ⟨N,h1,h3,h4,h5⟩
theorem D4 (ms:List ED):ND (ms.map rD)=true:=BH rD ms fun m=>by simp[rD,AV.tA]
theorem wL.keep {ms:List ED}{c:AV}{s s':LC}(h:wL ms c s)(hm:∀N,N<s.next->s'.mem 88 N=s.mem 88 N)(hn:s.next<=s'.next):wL ms c s':=by
 rcases h with h|⟨N,h1,h2,h3,h4⟩
 ·exact .inl h
 ·exact .inr ⟨N,h1,Y06 h2 hn,h3,(hm N h2).trans h4⟩
theorem wL.low {ms:List ED}{c:AV}{s:LC}(h:wL ms c s):DB s.next c:=by
 rcases h with⟨_,rfl⟩|⟨N,_,h2,rfl,_⟩
 ·exact pT rfl
 ·exact z8 h2
def eL (S:List BC)(L:List (List AV))(s:LC):Prop:=S.length=L.length/\∀(i:Nat)(t:BC)(c:List AV),S[i]?=some t->L[i]?=some c->∃m,c=iI t m/\wL t.qA m s
theorem eL.snoc {S:List BC}{L:List (List AV)}{s:LC}(h:eL S L s){t:BC}{m:AV}(hm:wL t.qA m s):eL (S++[t]) (L++[iI t m]) s:=by
 obtain⟨h1,h2⟩:=h;refine⟨by simp[h1],fun i t' c' ht hc=>?_⟩;rcases Nat.lt_or_ge i S.length with ba|ej
 ·rw[yT ba]at ht;rw[yT (by omega)]at hc;exact h2 i t' c' ht hc
 ·rw[yP ej]at ht;rw[yP (by omega)]at hc;have hi:i-S.length=0:=by
   rcases yZ (i-S.length)with h0|h0
   ·exact h0
   ·rw[Y08 (by simp;omega)]at ht;cases ht
  rw[hi]at ht;rw[<- h1,hi]at hc;injection ht with ht;injection hc with hc;exact⟨m,by rw[<- ht,<- hc],by rw[<- ht];exact hm⟩
theorem eL.keep {S:List BC}{L:List (List AV)}{s s':LC}(h:eL S L s)(hm:∀N,N<s.next->s'.mem 88 N=s.mem 88 N)(hn:s.next<=s'.next):eL S L s' :=
 ⟨h.1,fun i t c ht hc=>by obtain⟨m,h1,h2⟩:=h.2 i t c ht hc;exact⟨m,h1,h2.keep hm hn⟩⟩
theorem eL.els {S:List BC}{L:List (List AV)}{s:LC}(h:eL S L s):kD 10 L=true:=by
 refine ye.2 fun c hc=>?_
 obtain⟨i,hi,rfl⟩:=Y0k hc;have da:=h.1;have hiS:i<S.length:=by omega
 obtain⟨m,h1,_⟩:=h.2 i S[i] L[i] (yf (by omega)) (yf hi);rw[h1];rfl
section
set_option maxHeartbeats 4000000
def xT (p n8:Nat)(M M':Nat->Nat->Option (List SC)):Prop:=∀t n,¬(t=p/\n=n8)->(∀r,M t n=some r->∀x∈r,mQ x)->M' t n=M t n
theorem xT.refl {p n8:Nat}{M:Nat->Nat->Option (List SC)}:xT p n8 M M:=fun _ _ _ _=>rfl
theorem xT.strip {p n8:Nat}{M M':Nat->Nat->Option (List SC)}(h:xT p n8 M M')(k:Nat):xT p n8 M (ID k M'):=fun t n h1 h2=>by
 rw[s5,h t n h1 h2];cases hr:M t n with
 |none=>rfl
 |some r =>
  refine congrArg some ?_;have:r.map (SC.strip k)=r.map id:=yE fun x hx=>h2 r hr x hx k
  rwa [List.map_id]at this
theorem xT.set {p n8:Nat}{M M':Nat->Nat->Option (List SC)}(h:xT p n8 M M'){r:List SC}:xT p n8 M (DN M' p n8 r):=fun t n h1 h2=>by
 rw[CC,if_neg h1];exact h t n h1 h2
def lL (nm:ByteArray)(op:Bool)(S:List PG)(b:Bool)(a:An):List SC:=[⟨.int .i64 4,.no⟩,⟨.str nm,.no⟩,⟨.int .i64 0,.no⟩,⟨.int .i64 0,.no⟩,⟨.int .i64 0,.no⟩,⟨.sl b (S.map fD),a⟩,⟨.sl true [],.no⟩,⟨.int .i64 0,.no⟩,⟨.int .i64 0,.no⟩,⟨.bool op,.no⟩]
theorem Bu (a:Int):∀i,∀d∈ZY a i,1<=d/\d<=i
 |0,d,h=>by cases h
 |i+1,d,h=>by
  rw[ZY]at h;rcases yu.1 h with h|h
  ·have:=Bu a i d h;omega
  ·split at h
   ·simp at h;omega
   ·cases h
theorem Rl (a:Int):∀d∈nI a,1<=d/\d<=6:=fun d h=>by
 unfold nI at h;split at h
 ·simp at h;omega
 ·have:=Bu a 6 d h;omega
theorem Ek {r:RV}{a:Int}{n8:Nat}{nm:ByteArray}{op:Bool}(s0:LC)(k:Ex->LC->Option RV)
  (h9:(s0.env 9).v=.sl false ((nI a).map GM)) (py:(s0.env 10).v=.int .i64 0) (h8:(s0.env 8).v=.ptr 8 n8 0) (ba:n8<s0.next) (hm:s0.mem 8 n8=some (lL nm op [] true .no)) (hG:iZ s0.gh) (hL:bN s0.next s0.mem) (hE:DD s0.next s0.env)
  (hk:∀s',(∀t,t<9->(s'.env t).v=(s0.env t).v)->xT 8 n8 s0.mem s'.mem->s'.gh=s0.gh->s'.obj=s0.obj->s0.next<=s'.next->bN s'.next s'.mem->DD s'.next s'.env->(∃an,s'.mem 8 n8=some (lL nm op (FL a) false an))->k (.exit 3) s'=some r):HJ MC ZC MI s0 k=some r:=by
 have wh:=DZ a;refine zE (nI a).length (fun i s=>(∀t,t<10->(s.env t).v=(s0.env t).v)/\(s.env 10).v=.int .i64 i/\xT 8 n8 s0.mem s.mem/\s.gh=s0.gh/\s.obj=s0.obj/\s0.next<=s.next/\bN s.next s.mem/\DD s.next s.env/\(i=0/\s.mem 8 n8=some (lL nm op [] true .no)\/¬i=0/\s.mem 8 n8=some (lL nm op ((FL a).take i) false (.own 91 52))))
  (fun e s=>e=.exit 3/\(∀t,t<9->(s.env t).v=(s0.env t).v)/\xT 8 n8 s0.mem s.mem/\s.gh=s0.gh/\s.obj=s0.obj/\s0.next<=s.next/\bN s.next s.mem/\DD s.next s.env/\∃an,s.mem 8 n8=some (lL nm op (FL a) false an)) (fun i hi s k h ih hk=>?_) s0 k ⟨fun _ _=>rfl,by simpa using py,xT.refl,rfl,rfl,yl _,hL,hE,.inl ⟨rfl,hm⟩⟩ (fun e s h=>by obtain⟨rfl,h1,h2,h3,h4,h5,h6,h7,h8⟩:=h;exact hk s h1 h2 h3 h4 h5 h6 h7 h8)
 obtain⟨he,e10,sb,hg,ho,hn,hL,hE,ja⟩:=h;have e9:=(he 9 (by omega)).trans h9;have e8:=(he 8 (by omega)).trans h8;refine wD ?_;by_cases fa:i<(nI a).length
 ·have mz:(i:Int)<(nI a).length:=by omega
  have aq:=rE (i:=i);have g1:((nI a).map GM)[i]?=some (GM (nI a)[i]):=by simp[fa]
  have hd:=Rl a _ (yC fa);have dt:(FL a).take (i+1)=(FL a).take i++[⟨(nI a)[i],Zc (nI a)[i]⟩]:=by
   have hl:i<(FL a).length:=by simpa [FL]using fa
   rw[<- Y0m hl];simp[FL]
  have kg:((FL a).take i).length=i:=by simp[FL];omega
  generalize(nI a)[i]=d at *
  have xr:((nI a).map GM).length=(nI a).length:=by simp
  generalize(nI a).map GM=D at *
  generalize hS:(FL a).take i=S at *
  obtain⟨z,hz⟩:∃z:Int,z=i:=⟨_,rfl⟩;have fc:0<=z:=by omega
  have hwz:IntKind.i64.wrap (z+1)=((i+1:Nat):Int):=by rw[hz];exact aq
  rw[<- hz]at e10 mz;rw[show i=z.toNat from by omega]at g1;simp only[GM]at g1;have hw97:IntKind.i64.wrap (97+d)=97+d:=IntWalk.i64_in _ (by omega);have dq:IntKind.i32.wrap (97+d)=97+d:=SZ _ (by omega);have hes:=cZ (97+d);have zc:(⟨#[115]⟩:ByteArray).size=1:=rfl;have rb:(⟨#[115]⟩:ByteArray).size+(Utf8.encode (97+d)).size<=9223372036854775807:=by omega
  unfold Zc at dt;generalize hEn:Utf8.encode (97+d)=en at *
  have ga:pD 24 (i+1)=true:=by rw[XC];omega
  have dd:=AH S;rcases ja with⟨pg,hr⟩|⟨pg,hr⟩
  ·have hS0:S=[]:=by rw [<- hS,pg]; rfl
   subst hS0;subst pg;simp only[lL,yQ]at hr;simp[MI,-J,-yb,-y9,y0,e8,e9,e10,xr,mz,fc,g1,hw97,dq,hEn,rb,hr,ga,hwz];refine ih fa _ ⟨fun t ht=>?_,?_,?_,?_,ho,?_,?_,?_,.inr ⟨by omega,?_⟩⟩
   ·have:=he t ht;have q:∀ c,10<=c->¬ t=c:=fun c hc=>by omega
    simp[q,this]
   ·simp
   ·repeat (first|exact sb|refine xT.set ?_|refine xT.strip ?_ _)
   ·simp only[hg,hG.same]
   ·dsimp only;omega
   ·exact((hL.mono (by dsimp only;omega)).strip 91).set NC
   ·dsimp only
    repeat (first|exact hE.mono (by omega)|refine DD.put ?_ (fun _ _ _=>rfl)|refine DD.put ?_ (FF (by omega))|refine DD.strip ?_ _)
   ·simp[lL,dt,fD]
  ·simp only [lL] at hr;simp [MI,-J,-yb,-y9,y0,e8,e9,e10,xr,mz,fc,g1,hw97,dq,hEn,rb,hr,kg,dd,ga,hwz];refine ih fa _ ⟨fun t ht=>?_,?_,?_,?_,ho,?_,?_,?_,.inr ⟨by omega,?_⟩⟩
   ·have:=he t ht;have q:∀ c,10<=c->¬ t=c:=fun c hc=>by omega
    simp[q,this]
   ·simp
   ·repeat (first|exact sb|refine xT.set ?_|refine xT.strip ?_ _)
   ·simp only[hg,hG.same]
   ·dsimp only;omega
   ·exact(((hL.mono (by dsimp only;omega)).strip 91).strip 91).set NC
   ·dsimp only
    repeat (first|exact hE.mono (by omega)|refine DD.put ?_ (fun _ _ _=>rfl)|refine DD.put ?_ (FF (by omega))|refine DD.strip ?_ _)
   ·simp[lL,dt,fD]
 ·have dr:i=(nI a).length:=by omega
  have mz:¬(i:Int)<(nI a).length:=by omega
  simp[MI,-J,-yb,-y9,y0,e9,e10,fa];have pg:¬i=0:=by omega
  rcases ja with⟨h0,_⟩|⟨_,hr⟩
  ·exact absurd h0 pg
  ·rw [Y0b (by simp [FL]; omega)] at hr;refine hk _ _ ⟨rfl,fun t ht=>?_,sb,hg,ho,by dsimp only; omega,hL.mono (by dsimp only; omega),?_,_,hr⟩
   ·have:=he t (by omega);simp[show ¬t=69 from by omega,show ¬t=70 from by omega,show ¬t=71 from by omega,show ¬t=72 from by omega,this]
   ·dsimp only
    repeat (first|exact hE.mono (by omega)|refine DD.put ?_ (fun _ _ _=>rfl))
end
section
set_option maxHeartbeats 4000000
def WG:C:=.reg [oF 164 0 5,oL 165 164,oA 166 10 8,oS 167 (.SB 10 zzb 1 [(0,(.t 166))]),oS 168 (.jB .any 68 10 120 (.t 165) (.t 167)),oF 169 0 5,oW 169 168]
def JE:C:=oR [oF 26 0 1,oL 27 26,oM 28 6,oI 29 5 27 28,oA 30 5 29,oY 7 zzf,oV 5 7 30] (oR [oA 31 1 1,oM 32 6,oC2 33 29 31 32,oS 34 (.build zzb [(0,(1,(.t 33)))]),oY 8 zzb,oV 10 8 34] (.seq (oR [oF 35 0 8,oL 36 35,oC1 37 30 36] (oD 37 (.reg [oM 38 6,oS 39 (.bin .add false (.c (.int .i64 65)) (.t 38)),oS 40 (.conv (.some .i32) (.t 39)),oS 41 (.GB (.t 40)),oF 42 1 8,oW 42 41]) .skip)) (.seq (oR [oF 43 0 8,oL 44 43] (.block 2 (oR [oC 46 .eql 44 2,oM 45 46] (oD 45 (.reg [oS 47 (.load (.root 7) true 5 (.t 7)),oC1 48 31 47,oS 49 (.load (.root 7) true 5 (.t 7)),oC1 50 32 49,oF 51 2 8,oN (.store (.root 8) false 1 (.t 51) (.t 48)),oF 52 3 8,oN (.store (.root 8) false 1 (.t 52) (.t 50))]) (oR [oC 54 .eql 44 3,oM 53 54] (oD 53 (.reg [oF 55 1 7,oL 56 55,oS 57 (.bin .rem false (.t 56) (.c (.int .u8 4))),oS 58 (.conv (.some .i64) (.t 57)),oF 59 4 8,oW 59 58]) (oR [oC 61 .eql 44 4,oM 60 61] (oD 60 (oR [oF 62 2 7,oL 63 62,oS 64 (.bin .rem false (.t 63) (.c (.int .u8 2))),oS 65 (.bin .eql false (.t 64) (.c (.int .u8 1))),oF 66 9 8,oW 66 65] (oR [oA 67 5 7,oC1 68 33 67,oM 9 68] (oR [oJ 10 0] (.block 3 (.loop MI))))) (oR [oC 94 .eql 44 5,oM 93 94] (oD 93 (.reg [oA 95 1 1,oM 96 6,oS 97 (.mA 171 (.c (.fn 34 [])) [(.t 95),(.t 96),(.c (.bool true))]),oF 98 6 8,oW 98 97]) (oR [oC 100 .eql 44 6,oM 99 100] (oD 99 (oR [oF 101 2 7,oL 102 101,oS 103 (.bin .rem false (.t 102) (.c (.int .u8 2))),oS 104 (.bin .eql false (.t 103) (.c (.int .u8 1))),oF 105 9 8,oW 105 104] (oR [oA 106 1 1,oM 107 6,oS 108 (.mA 171 (.c (.fn 34 [])) [(.t 106),(.t 107),(.c (.bool false))]),oF 109 6 8,oW 109 108] (oR [oF 110 6 8,oL 111 110,oH 112 111,oC 113 .eql 112 0] (oD 113 (.reg [oF 114 1 8,oL 115 114,oS 116 (.build zzb [(0,(1,(.c (.int .i64 5)))),(1,(1,(.t 115)))]),oV 10 8 116]) .skip)))) (oR [oC 118 .eql 44 7,oM 117 118] (oD 117 (.reg [oF 119 1 7,oLr 120 7 1 119,oS 121 (.bin .rem false (.t 120) (.c (.int .u8 4))),oS 122 (.conv (.some .i64) (.t 121)),oF 123 3 7,oLr 124 7 1 123,oS 125 (.conv (.some .i64) (.t 124)),oM 126 4,oB 127 .rem 125 126,oF 128 4 8,oN (.store (.root 8) false 1 (.t 128) (.t 122)),oF 129 8 8,oN (.store (.root 8) false 1 (.t 129) (.t 127))]) (oR [oC 131 .eql 44 8,oM 130 131] (oD 130 (oR [oF 132 1 7,oLr 133 7 1 132,oS 134 (.bin .rem false (.t 133) (.c (.int .u8 4))),oS 135 (.conv (.some .i64) (.t 134)),oS 136 (.load (.root 1) true 1 (.t 1)),oF 137 2 7,oLr 138 7 1 137,oC2 139 35 136 138,oF 140 3 7,oLr 141 7 1 140,oS 142 (.conv (.some .i64) (.t 141)),oM 143 4,oB 144 .rem 142 143,oF 145 4 8,oN (.store (.root 8) false 1 (.t 145) (.t 135)),oF 146 7 8,oN (.store (.root 8) false 1 (.t 146) (.t 139)),oF 147 8 8,oN (.store (.root 8) false 1 (.t 147) (.t 144))] (oR [oF 148 7 8,oL 149 148,oC 150 .lss 149 0] (oD 150 (.reg [oF 151 4 8,oL 152 151,oF 153 8 8,oL 154 153,oS 155 (.build zzb [(0,(1,(.c (.int .i64 7)))),(4,(1,(.t 152))),(8,(1,(.t 154)))]),oV 10 8 155]) .skip))) (oR [oC 157 .eql 44 9,oM 156 157] (oD 156 (.reg [oF 158 3 7,oL 159 158,oS 160 (.conv (.some .i64) (.t 159)),oM 161 4,oB 162 .rem 160 161,oF 163 8 8,oW 163 162]) .skip)))))))))))))))))) WG)))
theorem of_L2:NT=.seq (.seq (.reg [⟨(.some 21),(.mv (.t 6)),.none⟩,⟨(.some 22),(.mv (.t 4)),.none⟩,⟨(.some 23),(.bin .lss .false (.t 21) (.t 22)),.none⟩]) (.cond (.t 23) .skip (.exit 0))) (.seq (.block 1 JE) (.reg [⟨(.some 24),(.mv (.t 6)),.none⟩,⟨(.some 25),(.bin .add .false (.t 24) (.c (.int .i64 1))),.none⟩,⟨(.some 6),(.mv (.t 25)),.none⟩])):=rfl
def M5I (n0:Nat)(l:List OF)(i:Nat)(s:LC):Prop :=
 (i=0/\∃a,s.mem 5 (n0+3)=some [⟨.sl true [],a⟩]/\mQ ⟨.sl true [],a⟩)\/∃N L,¬i=0/\s.mem 5 (n0+3)=some [⟨.ref 168 N 10 0 i i,.no⟩]/\n0<=N/\N<s.next/\s.mem 168 N=some (qD L)/\L.length=i/\eL ((List.range i).map fun(j:Nat)=>MH l (j:Int)) L s
theorem M5I.keep {n0:Nat}{l:List OF}{i:Nat}{s s':LC}(h:M5I n0 l i s)(h5:s'.mem 5 (n0+3)=s.mem 5 (n0+3))(wo:∀N,N<s.next->s'.mem 168 N=s.mem 168 N)(h88:∀N,N<s.next->s'.mem 88 N=s.mem 88 N)(hn:s.next<=s'.next):M5I n0 l i s':=by
 rcases h with⟨h1,a,h2,h3⟩|⟨N,L,h1,h2,h0,h3,h4,h6,h7⟩
 ·exact .inl ⟨h1,a,h5.trans h2,h3⟩
 ·exact .inr ⟨N,L,h1,h5.trans h2,h0,Y06 h3 hn,(wo N h3).trans h4,h6,h7.keep h88 hn⟩
structure r7 (n0:Nat)(s0:LC)(dn:Bool)(l:List OF)(i:Nat)(s:LC):Prop where
 e1:(s.env 1).v=.ptr 1 n0 0
 m1:s.mem 1 n0=some [⟨.sl dn (l.map qG),.no⟩]
 e2:(s.env 2).v=.ptr 2 n0 0
 m2:∃a,s.mem 2 n0=some [⟨.sl true [],a⟩]/\mQ ⟨.sl true [],a⟩
 e4:(s.env 4).v=.int .i64 l.length
 e5:(s.env 5).v=.ptr 5 (n0+3) 0
 e6:(s.env 6).v=.int .i64 i
 m5:M5I n0 l i s
 calm:Co n0 s0 s
 SA:DD s.next s.env
 lt:n0+3<s.next
structure XO (n0:Nat)(s0:LC)(dn:Bool)(l:List OF)(i:Nat)(n8:Nat)(s:LC):Prop where
 ofI:r7 n0 s0 dn l i s
 e8:(s.env 8).v=.ptr 8 n8 0
 lt8:n8<s.next
 row:∃m r,s.mem 8 n8=some r/\r.map (·.v)=iI (MH l (i:Int)) m/\wL (MH l (i:Int)).qA m s
theorem Uz {r:RV}{n0:Nat}{s0:LC}{dn:Bool}{l:List OF}(hl:oks l){i:Nat}(hi:i<l.length){s:LC}{k:Ex->LC->Option RV}(h:r7 n0 s0 dn l i s)(tc:(TD l (i:Int)).kind=1)(hk:∀n8 s',XO n0 s0 dn l i n8 s'->WG.run (sF MC ZC) (jH MC ZC) s' k=some r):JE.run (sF MC ZC) (jH MC ZC) s k=some r:=by
 obtain⟨e1,m1,e2,m2,e4,e5,e6,m5,⟨cm,cg,co,cn,cl⟩,SA,lt⟩:=h;have wc:=ZJ (dn:=dn) hl (z:=(i:Int)) (by omega) (by omega);have g:l[i]?=some l[i]:=yf hi;have gm:(l.map qG)[i]?=some (qG (TD l (i:Int))):=by simp[TD,g]
 have ad:UG l (i:Int)=1:=by rw[<- tc];simp[UG,TD,g]
 have lc:MH l (i:Int)=BC.of 1 ⟨#[]⟩:=by simp only[MH,tc]
 rw[ad]at wc;generalize TD l (i:Int)=x at *
 have rb:=rG 1;simp only[BD,TG,qG]at wc gm;obtain⟨z,hz⟩:∃z:Int,z=i:=⟨_,rfl⟩;have fc:0<=z:=by omega
 rw[<- hz]at e6 wc;rw[show i=z.toNat from by omega]at gm;simp[JE,-J,-yb,-y9,y0,e1,m1,e4,e6,fc,gm,wc,rb];refine hk (s.next+1) _ ⟨⟨?_,?_,?_,?_,?_,?_,?_,?_,⟨?_,?_,?_,?_,?_⟩,?_,?_⟩,?_,?_,?_⟩
 ·simp[e1]
 ·simp[m1]
 ·simp[e2]
 ·simpa using m2
 ·simp[e4]
 ·simp[e5]
 ·simp[e6,hz]
 ·exact m5.keep (by simp) (fun N _=>by simp) (fun N _=>by simp) (by dsimp only;omega)
 ·repeat (first|exact cm|refine dF.set ?_ (by omega))
 ·exact cg
 ·exact co
 ·dsimp only;omega
 ·exact((((cl.mono (by dsimp only;omega)).set NC).set NC).set NC).set NC
 ·dsimp only
  repeat (first|exact SA.mono (by omega)|refine DD.put ?_ (fun _ _ _=>rfl)|refine DD.put ?_ (FF (by omega)))
 ·dsimp only;omega
 ·simp
 ·dsimp only;omega
 ·refine ⟨.sl true [],_,by simp; rfl,?_,.inl ⟨?_,rfl⟩⟩
  ·rw[lc];simp[iI,BC.of]
  ·rw[lc];rfl
end
section
set_option maxHeartbeats 4000000
theorem I9 (x:OF)(hx:x.ok):u8 x.k/\u8 x.a/\u8 x.b/\u8 x.c/\True:=⟨hx.1,hx.2.1,hx.2.2.1,hx.2.2.2.1,trivial⟩
theorem IK {l:List OF}(hl:oks l){i:Nat}(hi:i<l.length):(TD l (i:Int)).ok:=by
 have g:l[i]?=some l[i]:=yf hi;simp only[TD,Int.toNat_natCast,g];exact hl.2.2 _ (yC hi)
section
variable {r:RV} {n0:Nat} {s0:LC} {dn:Bool} {l:List OF} (hl:oks l) {i:Nat} (hi:i<l.length) {s:LC} {k:Ex->LC->Option RV} (h:r7 n0 s0 dn l i s)
include r n0 s0 dn l hl i hi s k h
theorem Iz (tc:(TD l (i:Int)).kind=2)(hk:∀n8 s',XO n0 s0 dn l i n8 s'->WG.run (sF MC ZC) (jH MC ZC) s' k=some r):JE.run (sF MC ZC) (jH MC ZC) s k=some r:=by
 obtain⟨e1,m1,e2,m2,e4,e5,e6,m5,⟨cm,cg,co,cn,cl⟩,SA,lt⟩:=h;have wc:=ZJ (dn:=dn) hl (z:=(i:Int)) (by omega) (by omega);have g:l[i]?=some l[i]:=yf hi;have gm:(l.map qG)[i]?=some (qG (TD l (i:Int))):=by simp[TD,g]
 have ad:UG l (i:Int)=2:=by rw[<- tc];simp[UG,TD,g]
 have lc:MH l (i:Int)={ BC.of 2 ⟨#[]⟩with low:=(TD l (i:Int)).low,high:=(TD l (i:Int)).high }:=by simp only[MH,tc]
 have hx:=IK hl hi;rw[ad]at wc;generalize TD l (i:Int)=x at *
 have rb:=rG 2;obtain⟨xk,xa,xb,xc,_⟩:=I9 x hx;have ni:=Zq x hx;have zo:=Cu x hx;simp only[BD,qG]at ni zo;simp only[BD,TG,qG]at wc gm;obtain⟨z,hz⟩:∃z:Int,z=i:=⟨_,rfl⟩;have fc:0<=z:=by omega
 rw[<- hz]at e6 wc;rw[show i=z.toNat from by omega]at gm;simp[JE,-J,-yb,-y9,y0,e1,m1,e4,e6,fc,gm,wc,rb,ni,zo];refine hk (s.next+1) _ ⟨⟨?_,?_,?_,?_,?_,?_,?_,?_,⟨?_,?_,?_,?_,?_⟩,?_,?_⟩,?_,?_,?_⟩
 ·simp[e1]
 ·simp[m1]
 ·simp[e2]
 ·simpa using m2
 ·simp[e4]
 ·simp[e5]
 ·simp[e6,hz]
 ·exact m5.keep (by simp) (fun N _=>by simp) (fun N _=>by simp) (by dsimp only;omega)
 ·repeat (first|exact cm|refine dF.set ?_ (by omega))
 ·exact cg
 ·exact co
 ·dsimp only;omega
 ·exact((((((cl.mono (by dsimp only;omega)).set NC).set NC).set NC).set NC).set NC).set NC
 ·dsimp only
  repeat (first|exact SA.mono (by omega)|refine DD.put ?_ (fun _ _ _=>rfl)|refine DD.put ?_ (FF (by omega)))
 ·dsimp only;omega
 ·simp
 ·dsimp only;omega
 ·refine ⟨.sl true [],_,by simp; rfl,?_,.inl ⟨?_,rfl⟩⟩
  ·rw[lc];simp[iI,BC.of]
  ·rw[lc];rfl
theorem Oz (tc:(TD l (i:Int)).kind=3)(hk:∀n8 s',XO n0 s0 dn l i n8 s'->WG.run (sF MC ZC) (jH MC ZC) s' k=some r):JE.run (sF MC ZC) (jH MC ZC) s k=some r:=by
 obtain⟨e1,m1,e2,m2,e4,e5,e6,m5,⟨cm,cg,co,cn,cl⟩,SA,lt⟩:=h;have wc:=ZJ (dn:=dn) hl (z:=(i:Int)) (by omega) (by omega);have g:l[i]?=some l[i]:=yf hi;have gm:(l.map qG)[i]?=some (qG (TD l (i:Int))):=by simp[TD,g]
 have ad:UG l (i:Int)=3:=by rw[<- tc];simp[UG,TD,g]
 have lc:MH l (i:Int)={ BC.of 3 ⟨#[]⟩with max:=(TD l (i:Int)).a%4 }:=by simp only[MH,tc]
 have hx:=IK hl hi;rw[ad]at wc;generalize TD l (i:Int)=x at *
 have rb:=rG 3;obtain⟨xk,xa,xb,xc,_⟩:=I9 x hx;have xy:x.a.tmod 4=x.a%4:=yO xa.1;have jy:IntKind.i64.wrap (x.a%4)=x.a%4:=IntWalk.i64_in _ (by omega);simp only[BD,TG,qG]at wc gm;obtain⟨z,hz⟩:∃z:Int,z=i:=⟨_,rfl⟩;have fc:0<=z:=by omega
 rw[<- hz]at e6 wc;rw[show i=z.toNat from by omega]at gm;simp[JE,-J,-yb,-y9,y0,e1,m1,e4,e6,fc,gm,wc,rb,xy,jy];refine hk (s.next+1) _ ⟨⟨?_,?_,?_,?_,?_,?_,?_,?_,⟨?_,?_,?_,?_,?_⟩,?_,?_⟩,?_,?_,?_⟩
 ·simp[e1]
 ·simp[m1]
 ·simp[e2]
 ·simpa using m2
 ·simp[e4]
 ·simp[e5]
 ·simp[e6,hz]
 ·exact m5.keep (by simp) (fun N _=>by simp) (fun N _=>by simp) (by dsimp only;omega)
 ·repeat (first|exact cm|refine dF.set ?_ (by omega))
 ·exact cg
 ·exact co
 ·dsimp only;omega
 ·exact(((((cl.mono (by dsimp only;omega)).set NC).set NC).set NC).set NC).set NC
 ·dsimp only
  repeat (first|exact SA.mono (by omega)|refine DD.put ?_ (fun _ _ _=>rfl)|refine DD.put ?_ (FF (by omega)))
 ·dsimp only;omega
 ·simp
 ·dsimp only;omega
 ·refine ⟨.sl true [],_,by simp; rfl,?_,.inl ⟨?_,rfl⟩⟩
  ·rw[lc];simp[iI,BC.of]
  ·rw[lc];rfl
theorem Dz (tc:(TD l (i:Int)).kind=7)(hk:∀n8 s',XO n0 s0 dn l i n8 s'->WG.run (sF MC ZC) (jH MC ZC) s' k=some r):JE.run (sF MC ZC) (jH MC ZC) s k=some r:=by
 obtain⟨e1,m1,e2,m2,e4,e5,e6,m5,⟨cm,cg,co,cn,cl⟩,SA,lt⟩:=h;have wc:=ZJ (dn:=dn) hl (z:=(i:Int)) (by omega) (by omega);have g:l[i]?=some l[i]:=yf hi;have gm:(l.map qG)[i]?=some (qG (TD l (i:Int))):=by simp[TD,g]
 have ad:UG l (i:Int)=7:=by rw[<- tc];simp[UG,TD,g]
 have lc:MH l (i:Int)={ BC.of 7 ⟨#[]⟩with max:=(TD l (i:Int)).a%4,elem:=(TD l (i:Int)).c%l.length }:=by simp only[MH,tc]
 have hx:=IK hl hi;rw[ad]at wc;generalize TD l (i:Int)=x at *
 have rb:=rG 7;obtain⟨xk,xa,xb,xc,_⟩:=I9 x hx;have xy:x.a.tmod 4=x.a%4:=yO xa.1;have jy:IntKind.i64.wrap (x.a%4)=x.a%4:=IntWalk.i64_in _ (by omega);have so:IntKind.i64.wrap x.c=x.c:=IntWalk.i64_in _ (by simp only[u8]at xc;omega);have hmc:x.c.tmod l.length=x.c%l.length:=yO xc.1;have ak:¬(l.length:Int)=0:=by omega
 have oe:¬l=[]:=by intro e;rw[e]at hi;simp at hi
 simp only[BD,TG,qG]at wc gm;obtain⟨z,hz⟩:∃z:Int,z=i:=⟨_,rfl⟩;have fc:0<=z:=by omega
 rw[<- hz]at e6 wc;rw[show i=z.toNat from by omega]at gm;simp[JE,-J,-yb,-y9,y0,e1,m1,e4,e6,fc,gm,wc,rb,xy,jy,so,hmc,ak,oe];refine hk (s.next+1) _ ⟨⟨?_,?_,?_,?_,?_,?_,?_,?_,⟨?_,?_,?_,?_,?_⟩,?_,?_⟩,?_,?_,?_⟩
 ·simp[e1]
 ·simp[m1]
 ·simp[e2]
 ·simpa using m2
 ·simp[e4]
 ·simp[e5]
 ·simp[e6,hz]
 ·exact m5.keep (by simp) (fun N _=>by simp) (fun N _=>by simp) (by dsimp only;omega)
 ·repeat (first|exact cm|refine dF.set ?_ (by omega))
 ·exact cg
 ·exact co
 ·dsimp only;omega
 ·exact((((((cl.mono (by dsimp only;omega)).set NC).set NC).set NC).set NC).set NC).set NC
 ·dsimp only
  repeat (first|exact SA.mono (by omega)|refine DD.put ?_ (fun _ _ _=>rfl)|refine DD.put ?_ (FF (by omega)))
 ·dsimp only;omega
 ·simp
 ·dsimp only;omega
 ·refine ⟨.sl true [],_,by simp; rfl,?_,.inl ⟨?_,rfl⟩⟩
  ·rw[lc];simp[iI,BC.of]
  ·rw[lc];rfl
theorem Fz (tc:(TD l (i:Int)).kind=9)(hk:∀n8 s',XO n0 s0 dn l i n8 s'->WG.run (sF MC ZC) (jH MC ZC) s' k=some r):JE.run (sF MC ZC) (jH MC ZC) s k=some r:=by
 obtain⟨e1,m1,e2,m2,e4,e5,e6,m5,⟨cm,cg,co,cn,cl⟩,SA,lt⟩:=h;have wc:=ZJ (dn:=dn) hl (z:=(i:Int)) (by omega) (by omega);have g:l[i]?=some l[i]:=yf hi;have gm:(l.map qG)[i]?=some (qG (TD l (i:Int))):=by simp[TD,g]
 have ad:UG l (i:Int)=9:=by rw[<- tc];simp[UG,TD,g]
 have lc:MH l (i:Int)={ BC.of 9 ⟨#[]⟩with elem:=(TD l (i:Int)).c%l.length }:=by simp only[MH,tc]
 have hx:=IK hl hi;rw[ad]at wc;generalize TD l (i:Int)=x at *
 have rb:=rG 9;obtain⟨xk,xa,xb,xc,_⟩:=I9 x hx;have so:IntKind.i64.wrap x.c=x.c:=IntWalk.i64_in _ (by simp only[u8]at xc;omega);have hmc:x.c.tmod l.length=x.c%l.length:=yO xc.1;have ak:¬(l.length:Int)=0:=by omega
 have oe:¬l=[]:=by intro e;rw[e]at hi;simp at hi
 simp only[BD,TG,qG]at wc gm;obtain⟨z,hz⟩:∃z:Int,z=i:=⟨_,rfl⟩;have fc:0<=z:=by omega
 rw[<- hz]at e6 wc;rw[show i=z.toNat from by omega]at gm;simp[JE,-J,-yb,-y9,y0,e1,m1,e4,e6,fc,gm,wc,rb,so,hmc,ak,oe];refine hk (s.next+1) _ ⟨⟨?_,?_,?_,?_,?_,?_,?_,?_,⟨?_,?_,?_,?_,?_⟩,?_,?_⟩,?_,?_,?_⟩
 ·simp[e1]
 ·simp[m1]
 ·simp[e2]
 ·simpa using m2
 ·simp[e4]
 ·simp[e5]
 ·simp[e6,hz]
 ·exact m5.keep (by simp) (fun N _=>by simp) (fun N _=>by simp) (by dsimp only;omega)
 ·repeat (first|exact cm|refine dF.set ?_ (by omega))
 ·exact cg
 ·exact co
 ·dsimp only;omega
 ·exact(((((cl.mono (by dsimp only;omega)).set NC).set NC).set NC).set NC).set NC
 ·dsimp only
  repeat (first|exact SA.mono (by omega)|refine DD.put ?_ (fun _ _ _=>rfl)|refine DD.put ?_ (FF (by omega)))
 ·dsimp only;omega
 ·simp
 ·dsimp only;omega
 ·refine ⟨.sl true [],_,by simp; rfl,?_,.inl ⟨?_,rfl⟩⟩
  ·rw[lc];simp[iI,BC.of]
  ·rw[lc];rfl
theorem Us (tc:(TD l (i:Int)).kind=8)(hc:mT l (TD l (i:Int)).b<0)(hk:∀n8 s',XO n0 s0 dn l i n8 s'->WG.run (sF MC ZC) (jH MC ZC) s' k=some r):JE.run (sF MC ZC) (jH MC ZC) s k=some r:=by
 obtain⟨e1,m1,e2,m2,e4,e5,e6,m5,⟨cm,cg,co,cn,cl⟩,SA,lt⟩:=h;have wc:=ZJ (dn:=dn) hl (z:=(i:Int)) (by omega) (by omega);have g:l[i]?=some l[i]:=yf hi;have gm:(l.map qG)[i]?=some (qG (TD l (i:Int))):=by simp[TD,g]
 have ad:UG l (i:Int)=8:=by rw[<- tc];simp[UG,TD,g]
 have lc:MH l (i:Int)={ BC.of 7 ⟨#[]⟩with max:=(TD l (i:Int)).a%4,elem:=(TD l (i:Int)).c%l.length }:=by simp only[MH,tc];rw[if_pos hc]
 have hx:=IK hl hi;rw[ad]at wc;generalize TD l (i:Int)=x at *
 have rb:=rG 8;obtain⟨xk,xa,xb,xc,_⟩:=I9 x hx;have xy:x.a.tmod 4=x.a%4:=yO xa.1;have jy:IntKind.i64.wrap (x.a%4)=x.a%4:=IntWalk.i64_in _ (by omega);have so:IntKind.i64.wrap x.c=x.c:=IntWalk.i64_in _ (by simp only[u8]at xc;omega);have hmc:x.c.tmod l.length=x.c%l.length:=yO xc.1;have ak:¬(l.length:Int)=0:=by omega
 have oe:¬l=[]:=by intro e;rw[e]at hi;simp at hi
 have re:=Gq dn l hl x.b xb;simp only[BD,TG]at re;simp only[BD,TG,qG]at wc gm;obtain⟨z,hz⟩:∃z:Int,z=i:=⟨_,rfl⟩;have fc:0<=z:=by omega
 rw[<- hz]at e6 wc;rw[show i=z.toNat from by omega]at gm;simp[JE,-J,-yb,-y9,y0,e1,m1,e4,e6,fc,gm,wc,rb,xy,jy,so,hmc,ak,oe,re,hc];refine hk (s.next+1) _ ⟨⟨?_,?_,?_,?_,?_,?_,?_,?_,⟨?_,?_,?_,?_,?_⟩,?_,?_⟩,?_,?_,?_⟩
 ·simp[e1]
 ·simp[m1]
 ·simp[e2]
 ·simpa using m2
 ·simp[e4]
 ·simp[e5]
 ·simp[e6,hz]
 ·exact m5.keep (by simp) (fun N _=>by simp) (fun N _=>by simp) (by dsimp only;omega)
 ·repeat (first|exact cm|refine dF.set ?_ (by omega))
 ·exact cg
 ·exact co
 ·dsimp only;omega
 ·exact((((((((cl.mono (by dsimp only;omega)).set NC).set NC).set NC).set NC).set NC).set NC).set NC).set NC
 ·dsimp only
  repeat (first|exact SA.mono (by omega)|refine DD.put ?_ (fun _ _ _=>rfl)|refine DD.put ?_ (FF (by omega)))
 ·dsimp only;omega
 ·simp
 ·dsimp only;omega
 ·refine ⟨.sl true [],_,by simp; rfl,?_,.inl ⟨?_,rfl⟩⟩
  ·rw[lc];simp[iI,BC.of]
  ·rw[lc];rfl
theorem Ps (tc:(TD l (i:Int)).kind=8)(hc:¬mT l (TD l (i:Int)).b<0)(hk:∀n8 s',XO n0 s0 dn l i n8 s'->WG.run (sF MC ZC) (jH MC ZC) s' k=some r):JE.run (sF MC ZC) (jH MC ZC) s k=some r:=by
 obtain⟨e1,m1,e2,m2,e4,e5,e6,m5,⟨cm,cg,co,cn,cl⟩,SA,lt⟩:=h;have wc:=ZJ (dn:=dn) hl (z:=(i:Int)) (by omega) (by omega);have g:l[i]?=some l[i]:=yf hi;have gm:(l.map qG)[i]?=some (qG (TD l (i:Int))):=by simp[TD,g]
 have ad:UG l (i:Int)=8:=by rw[<- tc];simp[UG,TD,g]
 have lc:MH l (i:Int)={ BC.of 8 ⟨#[]⟩with max:=(TD l (i:Int)).a%4,key:=mT l (TD l (i:Int)).b,elem:=(TD l (i:Int)).c%l.length }:=by simp only[MH,tc];rw[if_neg hc]
 have hx:=IK hl hi;rw[ad]at wc;generalize TD l (i:Int)=x at *
 have rb:=rG 8;obtain⟨xk,xa,xb,xc,_⟩:=I9 x hx;have xy:x.a.tmod 4=x.a%4:=yO xa.1;have jy:IntKind.i64.wrap (x.a%4)=x.a%4:=IntWalk.i64_in _ (by omega);have so:IntKind.i64.wrap x.c=x.c:=IntWalk.i64_in _ (by simp only[u8]at xc;omega);have hmc:x.c.tmod l.length=x.c%l.length:=yO xc.1;have ak:¬(l.length:Int)=0:=by omega
 have oe:¬l=[]:=by intro e;rw[e]at hi;simp at hi
 have re:=Gq dn l hl x.b xb;simp only[BD,TG]at re;simp only[BD,TG,qG]at wc gm;obtain⟨z,hz⟩:∃z:Int,z=i:=⟨_,rfl⟩;have fc:0<=z:=by omega
 rw[<- hz]at e6 wc;rw[show i=z.toNat from by omega]at gm;simp[JE,-J,-yb,-y9,y0,e1,m1,e4,e6,fc,gm,wc,rb,xy,jy,so,hmc,ak,oe,re,hc];refine hk (s.next+1) _ ⟨⟨?_,?_,?_,?_,?_,?_,?_,?_,⟨?_,?_,?_,?_,?_⟩,?_,?_⟩,?_,?_,?_⟩
 ·simp[e1]
 ·simp[m1]
 ·simp[e2]
 ·simpa using m2
 ·simp[e4]
 ·simp[e5]
 ·simp[e6,hz]
 ·exact m5.keep (by simp) (fun N _=>by simp) (fun N _=>by simp) (by dsimp only;omega)
 ·repeat (first|exact cm|refine dF.set ?_ (by omega))
 ·exact cg
 ·exact co
 ·dsimp only;omega
 ·exact(((((((cl.mono (by dsimp only;omega)).set NC).set NC).set NC).set NC).set NC).set NC).set NC
 ·dsimp only
  repeat (first|exact SA.mono (by omega)|refine DD.put ?_ (fun _ _ _=>rfl)|refine DD.put ?_ (FF (by omega)))
 ·dsimp only;omega
 ·simp
 ·dsimp only;omega
 ·refine ⟨.sl true [],_,by simp; rfl,?_,.inl ⟨?_,rfl⟩⟩
  ·rw[lc];simp[iI,BC.of]
  ·rw[lc];rfl
end
end
section
set_option maxHeartbeats 4000000
theorem G1 (l:List (List AV)):∀x∈qD l,mQ x:=fun x hx=>by
 obtain⟨v,_,rfl⟩:=yD.1 hx;exact kW v
theorem wL.stay {ms:List ED}{c:AV}{s s':LC}(h:wL ms c s)(hm:∀n r,s.mem 88 n=some r->(∀x∈r,mQ x)->s'.mem 88 n=some r)(hn:s.next<=s'.next):wL ms c s':=by
 rcases h with h|⟨N,h1,h2,h3,h4⟩
 ·exact .inl h
 ·exact .inr ⟨N,h1,Y06 h2 hn,h3,hm N _ h4 (G1 _)⟩
theorem eL.stay {S:List BC}{L:List (List AV)}{s s':LC}(h:eL S L s)(hm:∀n r,s.mem 88 n=some r->(∀x∈r,mQ x)->s'.mem 88 n=some r)(hn:s.next<=s'.next):eL S L s' :=
 ⟨h.1,fun i t c ht hc=>by obtain⟨m,h1,h2⟩:=h.2 i t c ht hc;exact⟨m,h1,h2.stay hm hn⟩⟩
theorem M5I.stay {n0:Nat}{l:List OF}{i:Nat}{s s':LC}(h:M5I n0 l i s)(hm:∀t n r,(t=5\/t=88\/t=168)->s.mem t n=some r->(∀x∈r,mQ x)->s'.mem t n=some r)(hn:s.next<=s'.next):M5I n0 l i s':=by
 rcases h with⟨h1,a,h2,h3⟩|⟨N,L,h1,h2,h0,h3,h4,h6,h7⟩
 ·exact .inl ⟨h1,a,hm 5 _ _ (.inl rfl) h2 (by simpa using h3),h3⟩
 ·exact .inr ⟨N,L,h1,hm 5 _ _ (.inl rfl) h2 (by simpa using kW _),h0,Y06 h3 hn,hm 168 _ _ (.inr (.inr rfl)) h4 (G1 _),h6,h7.stay (fun n r=>hm 88 n r (.inr (.inl rfl))) hn⟩
theorem Pz {r:RV}{n0:Nat}{s0:LC}{dn:Bool}{l:List OF}(hl:oks l)(hG:iZ s0.gh)(hP:Re n0 s0.mem){i:Nat}(hi:i<l.length){s:LC}{k:Ex->LC->Option RV}(h:r7 n0 s0 dn l i s)(tc:(TD l (i:Int)).kind=4)(hk:∀n8 s',XO n0 s0 dn l i n8 s'->WG.run (sF MC ZC) (jH MC ZC) s' k=some r):JE.run (sF MC ZC) (jH MC ZC) s k=some r:=by
 obtain⟨e1,m1,e2,m2,e4,e5,e6,m5,⟨cm,cg,co,cn,cl⟩,SA,lt⟩:=h;have wc:=ZJ (dn:=dn) hl (z:=(i:Int)) (by omega) (by omega);have g:l[i]?=some l[i]:=yf hi;have gm:(l.map qG)[i]?=some (qG (TD l (i:Int))):=by simp[TD,g]
 have ad:UG l (i:Int)=4:=by rw[<- tc];simp[UG,TD,g]
 have lc:MH l (i:Int)={ BC.of 4 (GL i)with opn:=decide ((TD l (i:Int)).b%2=1),sn:=false,wA:=FL (TD l (i:Int)).a }:=by simp only[MH,tc]
 have hx:=IK hl hi;have hN5:=hl.2.1;rw[ad]at wc;generalize TD l (i:Int)=x at *
 have rb:=rG 4;have nh:=Nu x hx;obtain⟨xk,xa,xb,xc,_⟩:=I9 x hx;have uq:x.b.tmod 2=x.b%2:=yO xb.1;simp only[BD,TG,qG]at wc gm nh;obtain⟨z,hz⟩:∃z:Int,z=i:=⟨_,rfl⟩;have fc:0<=z:=by omega
 have uw:IntKind.i64.wrap (65+z)=65+z:=IntWalk.i64_in _ (by omega);have dq:IntKind.i32.wrap (65+z)=65+z:=SZ _ (by omega);rw[<- hz]at e6 wc;rw[show i=z.toNat from by omega]at gm;simp[JE,-J,-yb,-y9,y0,e1,m1,e4,e6,fc,gm,wc,rb,nh,uq,uw,dq];refine Ek (a:=x.a) (n8:=s.next+1) (nm:=Utf8.encode (65+z)) (op:=decide (x.b%2=1)) _ _ ?_ ?_ ?_ ?_ ?_ ?_ ?_ ?_ (fun s' h1 h2 h3 h4 h5 h6 h7 h8=>?_)
 ·simp
 ·simp
 ·simp
 ·dsimp only;omega
 ·simp[lL]
 ·show iZ s.gh;rw[cg];exact hG
 ·exact((((((cl.mono (by dsimp only;omega)).set NC).set NC).set NC).set NC).set NC).set NC
 ·dsimp only
  repeat (first|exact SA.mono (by omega)|refine DD.put ?_ (fun _ _ _=>rfl)|refine DD.put ?_ (FF (by omega)))
 ·obtain⟨an,h8⟩:=h8;simp[-J,-yb,-y9,y0];have sb:∀t n r,¬t=8->¬t=7->s.mem t n=some r->(∀x∈r,mQ x)->s'.mem t n=some r:=fun t n r t8 t7 hr hp=>by
   refine(h2 t n (by omega) fun r' di=>?_).trans ?_
   ·simp[t7,t8,hr]at di;subst di;exact hp
   ·simp[t7,t8,hr]
  refine hk (s.next+1) s' ⟨⟨(h1 1 (by omega)).trans (by simp[e1]),sb 1 n0 _ (by omega) (by omega) m1 (by simpa using kW _),(h1 2 (by omega)).trans (by simp[e2]),?_,(h1 4 (by omega)).trans (by simp[e4]),(h1 5 (by omega)).trans (by simp[e5]),(h1 6 (by omega)).trans (by simp[e6,hz]),?_,⟨?_,?_,?_,?_,h6⟩,h7,?_⟩,(h1 8 (by omega)).trans (by simp),?_,?_⟩
  ·obtain⟨a,m2,p2⟩:=m2;exact⟨a,sb 2 n0 _ (by omega) (by omega) m2 (by simpa using p2),p2⟩
  ·exact m5.stay (fun t n r ht=>sb t n r (by omega) (by omega)) (by dsimp only at h5;omega)
  ·intro t n hn;refine (h2 t n (by omega) fun r' di=>?_).trans ?_
   ·simp[show ¬n=s.next from by omega,show ¬n=s.next+1 from by omega,cm t n hn]at di;exact hP t n r' hn di
   ·simp[show ¬n=s.next from by omega,show ¬n=s.next+1 from by omega,cm t n hn]
  ·rw[h3];exact cg
  ·rw[h4];exact co
  ·dsimp only at h5;omega
  ·dsimp only at h5;omega
  ·dsimp only at h5;omega
  ·refine ⟨.sl true [],_,h8,?_,.inl ⟨?_,rfl⟩⟩
   ·rw[lc,hz];simp[iI,BC.of,lL,GL]
   ·rw[lc];rfl
end
section
set_option maxHeartbeats 4000000
theorem DD.wait {m nt:Nat}{e g:Nat->SC}(h:DD m e)(h':DD m g):DD m (R9 nt e g):=fun t=>by
 rw[uH];split
 ·exact h t
 ·exact h' _
theorem DD.back {m nt:Nat}{g:Nat->SC}(h:DD m g):DD m (Eh nt g):=fun t=>by
 rw[GP];split
 ·exact h t
 ·exact fun _ _ _=>rfl
theorem L4 (nt:Nat)(e g:Nat->SC):zY nt (R9 nt e g)=g:=funext fun t=>by
 rw[T1,uH,if_neg (by omega)];congr 1;omega
theorem dF.trans {m m':Nat}{A B C:Nat->Nat->Option (List SC)}(h:dF m A B)(h':dF m' B C)(hm:m<=m'):dF m A C:=fun t n hn=>(h' t n (by omega)).trans (h t n hn)
theorem wL.GA {ms:List ED}{c:AV}{s:LC}(h:wL ms c s):GA s.next c:=Oi h.low (by
 rcases h with⟨_,rfl⟩|⟨N,_,_,rfl,_⟩<;>rfl)
section
variable {r:RV} {n0:Nat} {s0:LC} {dn:Bool} {l:List OF} (hl:oks l) (hG:DD n0 s0.gh) {i:Nat} (hi:i<l.length) {s:LC} {k:Ex->LC->Option RV} (h:r7 n0 s0 dn l i s)
include r n0 s0 dn l hl hG i hi s k h
theorem Az (tc:(TD l (i:Int)).kind=5)(hk:∀n8 s',XO n0 s0 dn l i n8 s'->WG.run (sF MC ZC) (jH MC ZC) s' k=some r):JE.run (sF MC ZC) (jH MC ZC) s k=some r:=by
 obtain⟨e1,m1,e2,m2,e4,e5,e6,m5,⟨cm,cg,co,cn,cl⟩,SA,lt⟩:=h;have wc:=ZJ (dn:=dn) hl (z:=(i:Int)) (by omega) (by omega);have g:l[i]?=some l[i]:=yf hi;have gm:(l.map qG)[i]?=some (qG (TD l (i:Int))):=by simp[TD,g]
 have gx:l[((i:Int)).toNat]?=some (TD l (i:Int)):=by simp[TD,g]
 have ad:UG l (i:Int)=5:=by rw[<- tc];simp[UG,TD,g]
 have lc:MH l (i:Int)={ BC.of 5 (GL (i:Int))with mn:=(cI l (i:Int) true (TD l (i:Int)).parts).isEmpty,qA:=(cI l (i:Int) true (TD l (i:Int)).parts) }:=by simp only[MH,tc]
 have hx:=IK hl hi;have hN5:=hl.2.1;rw[ad]at wc;generalize TD l (i:Int)=x at *
 have rb:=rG 5;obtain⟨xk,xa,xb,xc,_⟩:=I9 x hx;have uq:x.b.tmod 2=x.b%2:=yO xb.1;simp only[BD,TG,qG]at wc gm;obtain⟨z,hz⟩:∃z:Int,z=i:=⟨_,rfl⟩;have fc:0<=z:=by omega
 have ze:z<l.length:=by omega
 have uw:IntKind.i64.wrap (65+z)=65+z:=IntWalk.i64_in _ (by omega);have dq:IntKind.i32.wrap (65+z)=65+z:=SZ _ (by omega);rw[<- hz]at e6 wc gx lc;rw[show i=z.toNat from by omega]at gm;simp[JE,-J,-yb,-y9,y0,e1,m1,e4,e6,fc,gm,wc,rb,uw,dq,uq];refine F8 hl fc ze gx _ ?_ ?_ _ (fun y s' hc hli=>?_)
 ·exact(((((cl.mono (by dsimp only;omega)).set NC).set NC).set NC).set NC).set NC
 ·dsimp only;refine DD.wait ?_ (by rw [cg]; exact hG.mono (by omega))
  repeat (first|exact SA.mono (by omega)|refine DD.put ?_ (fun _ _ _=>rfl)|refine DD.put ?_ (FF (by omega)))
 ·obtain ⟨uo,rm,co2,cn2,cl2⟩:=hc;dsimp only at rm co2 cn2 uo;have bg:=hli.qA;have eu:=bg.GA;have g1:(s'.gh 1).v=.ptr 1 n0 0:=by rw [rm]; simp [uH,e1]
  have g2:(s'.gh 2).v=.ptr 2 n0 0:=by rw[rm];simp[uH,e2]
  have g4:(s'.gh 4).v=.int .i64 l.length:=by rw[rm];simp[uH,e4]
  have g5:(s'.gh 5).v=.ptr 5 (n0+3) 0:=by rw[rm];simp[uH,e5]
  have g6:(s'.gh 6).v=.int .i64 z:=by rw[rm];simp[uH,e6]
  have g8:(s'.gh 8).v=.ptr 8 (s.next+1) 0:=by rw[rm];simp[uH]
  have m8:s'.mem 8 (s.next+1)=some [⟨.int .i64 5,.no⟩,⟨.str (Utf8.encode (65+z)),.no⟩,⟨.int .i64 0,.no⟩,⟨.int .i64 0,.no⟩,⟨.int .i64 0,.no⟩,⟨.sl true [],.no⟩,⟨.sl true [],.no⟩,⟨.int .i64 0,.no⟩,⟨.int .i64 0,.no⟩,⟨.bool false,.no⟩]:=by rw[uo 8 (s.next+1) (by omega)];simp
  have fv:DD s'.next s'.gh:=by
   rw[rm];refine DD.wait ?_ (by rw[cg];exact hG.mono (by omega))
   repeat (first|exact SA.mono (by omega)|refine DD.put ?_ (fun _ _ _=>rfl)|refine DD.put ?_ (FF (by omega)))
  have JJ:∀(E:Nat->SC)(M:Nat->Nat->Option (List SC))(row:List SC)(nx:Nat),(∀t,t<9->(E t).v=(s'.gh t).v)->DD s'.next E->s'.next<nx->(∀t n,M t n=if t=8/\n=s.next+1 then some row else s'.mem t n)->(∀q∈row,GA s'.next q.v)->(∃m,row.map (·.v)=iI (MH l z) m/\wL (MH l z).qA m s')->XO n0 s0 dn l i (s.next+1) ⟨E,M,nx,s'.obj,zY 171 s'.gh⟩:=fun E M row nx hE hEl bw hM bo hr=>by
   refine⟨⟨?_,?_,?_,?_,?_,?_,?_,?_,⟨?_,?_,?_,?_,?_⟩,?_,?_⟩,?_,?_,?_⟩
   ·exact(hE 1 (by omega)).trans g1
   ·simp[hM,uo 1 n0 (by omega),m1]
   ·exact(hE 2 (by omega)).trans g2
   ·simpa [hM,uo 2 n0 (by omega)]using m2
   ·exact(hE 4 (by omega)).trans g4
   ·exact(hE 5 (by omega)).trans g5
   ·exact(hE 6 (by omega)).trans (by rw[g6,hz])
   ·refine m5.keep (by simp[hM,uo 5 (n0+3) (by omega)]) (fun N hN=>by simp[hM,uo 168 N (by omega)]) (fun N hN=>by simp[hM,uo 88 N (by omega)]) (by dsimp only;omega)
   ·intro t n hn;show M t n=_;rw[hM,if_neg (by omega),uo t n (by omega)];simp[show ¬n=s.next from by omega,show ¬n=s.next+1 from by omega,cm t n hn]
   ·show zY 171 s'.gh=s0.gh;rw[rm,L4];exact cg
   ·exact co2.trans co
   ·dsimp only;omega
   ·intro t n r' di q hq;have di:M t n=some r':=di;rw [hM] at di;split at di
    ·injection di with di;subst di;exact XK (by dsimp only;omega) (bo q hq)
    ·exact XK (by dsimp only;omega) (cl2 t n r' di q hq)
   ·exact hEl.mono (by dsimp only;omega)
   ·dsimp only;omega
   ·exact(hE 8 (by omega)).trans g8
   ·dsimp only;omega
   ·obtain⟨m,rh,jk⟩:=hr;rw[<- hz];refine⟨m,row,by show M 8 _=_;rw[hM,if_pos ⟨rfl,rfl⟩],rh,jk.keep (fun N hN=>?_) (by dsimp only;omega)⟩;show M 88 N=_;rw[hM,if_neg (by omega)]
  rcases bg with⟨_,e⟩|⟨N,_,_,e,_⟩
  ·simp [-J,-yb,-y9,y0,g8,m8,e];refine hk _ _ (JJ _ _ _ _ (fun t ht=>?_) ?_ (by omega) (fun t n=>by simp [CC]; rfl) (fun q hq=>?_) ?_)
   ·have q:∀ c,9<=c->¬ t=c:=fun c hc=>by omega
    simp[q,GP,show t<171 from by omega]
   ·repeat (first|exact fv.back|refine DD.put ?_ (fun _ _ _=>rfl)|refine DD.put ?_ (FF (by omega))|refine DD.put ?_ eu|refine DD.put ?_ (by rw[<- e];exact eu))
   ·simp only[yt,Y09,or_false]at hq;rcases hq with rfl|rfl|rfl|rfl|rfl|rfl|rfl|rfl|rfl|rfl<;>first|exact aQ rfl|(rw[<- e];exact eu)
   ·exact⟨y.v,by rw[lc,e];simp[iI,BC.of,GL],by rw[lc];exact hli.qA⟩
  ·simp [-J,-yb,-y9,y0,g8,m8,e];refine hk _ _ (JJ _ _ _ _ (fun t ht=>?_) ?_ (by omega) (fun t n=>by simp [CC]; rfl) (fun q hq=>?_) ?_)
   ·have q:∀ c,9<=c->¬ t=c:=fun c hc=>by omega
    simp[q,GP,show t<171 from by omega]
   ·repeat (first|exact fv.back|refine DD.put ?_ (fun _ _ _=>rfl)|refine DD.put ?_ (FF (by omega))|refine DD.put ?_ eu|refine DD.put ?_ (by rw[<- e];exact eu))
   ·simp only[yt,Y09,or_false]at hq;rcases hq with rfl|rfl|rfl|rfl|rfl|rfl|rfl|rfl|rfl|rfl<;>first|exact aQ rfl|(rw[<- e];exact eu)
   ·exact⟨y.v,by rw[lc,e];simp[iI,BC.of,GL],by rw[lc];exact hli.qA⟩
theorem Sz (tc:(TD l (i:Int)).kind=6)(hk:∀n8 s',XO n0 s0 dn l i n8 s'->WG.run (sF MC ZC) (jH MC ZC) s' k=some r):JE.run (sF MC ZC) (jH MC ZC) s k=some r:=by
 obtain⟨e1,m1,e2,m2,e4,e5,e6,m5,⟨cm,cg,co,cn,cl⟩,SA,lt⟩:=h;have wc:=ZJ (dn:=dn) hl (z:=(i:Int)) (by omega) (by omega);have g:l[i]?=some l[i]:=yf hi;have gm:(l.map qG)[i]?=some (qG (TD l (i:Int))):=by simp[TD,g]
 have gx:l[((i:Int)).toNat]?=some (TD l (i:Int)):=by simp[TD,g]
 have ad:UG l (i:Int)=6:=by rw[<- tc];simp[UG,TD,g]
 have lc:MH l (i:Int)=if(cI l (i:Int) false (TD l (i:Int)).parts).isEmpty=true then .of 5 (GL (i:Int))else{ BC.of 6 (GL (i:Int))with opn:=decide ((TD l (i:Int)).b%2=1),mn:=false,qA:=(cI l (i:Int) false (TD l (i:Int)).parts) }:=by simp only[MH,tc]
 have hx:=IK hl hi;have hN5:=hl.2.1;rw[ad]at wc;generalize TD l (i:Int)=x at *
 have rb:=rG 6;obtain⟨xk,xa,xb,xc,_⟩:=I9 x hx;have uq:x.b.tmod 2=x.b%2:=yO xb.1;simp only[BD,TG,qG]at wc gm;obtain⟨z,hz⟩:∃z:Int,z=i:=⟨_,rfl⟩;have fc:0<=z:=by omega
 have ze:z<l.length:=by omega
 have uw:IntKind.i64.wrap (65+z)=65+z:=IntWalk.i64_in _ (by omega);have dq:IntKind.i32.wrap (65+z)=65+z:=SZ _ (by omega);rw[<- hz]at e6 wc gx lc;rw[show i=z.toNat from by omega]at gm;simp[JE,-J,-yb,-y9,y0,e1,m1,e4,e6,fc,gm,wc,rb,uw,dq,uq];refine F8 hl fc ze gx _ ?_ ?_ _ (fun y s' hc hli=>?_)
 ·exact((((((cl.mono (by dsimp only;omega)).set NC).set NC).set NC).set NC).set NC).set NC
 ·dsimp only;refine DD.wait ?_ (by rw [cg]; exact hG.mono (by omega))
  repeat (first|exact SA.mono (by omega)|refine DD.put ?_ (fun _ _ _=>rfl)|refine DD.put ?_ (FF (by omega)))
 ·obtain ⟨uo,rm,co2,cn2,cl2⟩:=hc;dsimp only at rm co2 cn2 uo;have bg:=hli.qA;have eu:=bg.GA;have g1:(s'.gh 1).v=.ptr 1 n0 0:=by rw [rm]; simp [uH,e1]
  have g2:(s'.gh 2).v=.ptr 2 n0 0:=by rw[rm];simp[uH,e2]
  have g4:(s'.gh 4).v=.int .i64 l.length:=by rw[rm];simp[uH,e4]
  have g5:(s'.gh 5).v=.ptr 5 (n0+3) 0:=by rw[rm];simp[uH,e5]
  have g6:(s'.gh 6).v=.int .i64 z:=by rw[rm];simp[uH,e6]
  have g8:(s'.gh 8).v=.ptr 8 (s.next+1) 0:=by rw[rm];simp[uH]
  have m8:s'.mem 8 (s.next+1)=some [⟨.int .i64 6,.no⟩,⟨.str (Utf8.encode (65+z)),.no⟩,⟨.int .i64 0,.no⟩,⟨.int .i64 0,.no⟩,⟨.int .i64 0,.no⟩,⟨.sl true [],.no⟩,⟨.sl true [],.no⟩,⟨.int .i64 0,.no⟩,⟨.int .i64 0,.no⟩,⟨.bool (decide (x.b%2=1)),.no⟩]:=by rw[uo 8 (s.next+1) (by omega)];simp
  have fv:DD s'.next s'.gh:=by
   rw[rm];refine DD.wait ?_ (by rw[cg];exact hG.mono (by omega))
   repeat (first|exact SA.mono (by omega)|refine DD.put ?_ (fun _ _ _=>rfl)|refine DD.put ?_ (FF (by omega)))
  have JJ:∀(E:Nat->SC)(M:Nat->Nat->Option (List SC))(row:List SC)(nx:Nat),(∀t,t<9->(E t).v=(s'.gh t).v)->DD s'.next E->s'.next<nx->(∀t n,M t n=if t=8/\n=s.next+1 then some row else s'.mem t n)->(∀q∈row,GA s'.next q.v)->(∃m,row.map (·.v)=iI (MH l z) m/\wL (MH l z).qA m s')->XO n0 s0 dn l i (s.next+1) ⟨E,M,nx,s'.obj,zY 171 s'.gh⟩:=fun E M row nx hE hEl bw hM bo hr=>by
   refine⟨⟨?_,?_,?_,?_,?_,?_,?_,?_,⟨?_,?_,?_,?_,?_⟩,?_,?_⟩,?_,?_,?_⟩
   ·exact(hE 1 (by omega)).trans g1
   ·simp[hM,uo 1 n0 (by omega),m1]
   ·exact(hE 2 (by omega)).trans g2
   ·simpa [hM,uo 2 n0 (by omega)]using m2
   ·exact(hE 4 (by omega)).trans g4
   ·exact(hE 5 (by omega)).trans g5
   ·exact(hE 6 (by omega)).trans (by rw[g6,hz])
   ·refine m5.keep (by simp[hM,uo 5 (n0+3) (by omega)]) (fun N hN=>by simp[hM,uo 168 N (by omega)]) (fun N hN=>by simp[hM,uo 88 N (by omega)]) (by dsimp only;omega)
   ·intro t n hn;show M t n=_;rw[hM,if_neg (by omega),uo t n (by omega)];simp[show ¬n=s.next from by omega,show ¬n=s.next+1 from by omega,cm t n hn]
   ·show zY 171 s'.gh=s0.gh;rw[rm,L4];exact cg
   ·exact co2.trans co
   ·dsimp only;omega
   ·intro t n r' di q hq;have di:M t n=some r':=di;rw [hM] at di;split at di
    ·injection di with di;subst di;exact XK (by dsimp only;omega) (bo q hq)
    ·exact XK (by dsimp only;omega) (cl2 t n r' di q hq)
   ·exact hEl.mono (by dsimp only;omega)
   ·dsimp only;omega
   ·exact(hE 8 (by omega)).trans g8
   ·dsimp only;omega
   ·obtain⟨m,rh,jk⟩:=hr;rw[<- hz];refine⟨m,row,by show M 8 _=_;rw[hM,if_pos ⟨rfl,rfl⟩],rh,jk.keep (fun N hN=>?_) (by dsimp only;omega)⟩;show M 88 N=_;rw[hM,if_neg (by omega)]
  rcases bg with⟨h0,e⟩|⟨N,h0,_,e,_⟩
  ·simp [-J,-yb,-y9,y0,g8,m8,e];refine hk _ _ (JJ _ _ _ _ (fun t ht=>?_) ?_ (by omega) (fun t n=>by simp [CC]; split <;> rfl) (fun q hq=>?_) ?_)
   ·have q:∀ c,9<=c->¬ t=c:=fun c hc=>by omega
    simp[q,GP,show t<171 from by omega]
   ·repeat (first|exact fv.back|refine DD.put ?_ (fun _ _ _=>rfl)|refine DD.put ?_ (FF (by omega))|refine DD.put ?_ eu|refine DD.put ?_ (by rw[<- e];exact eu))
   ·simp only[yt,Y09,or_false]at hq;rcases hq with rfl|rfl|rfl|rfl|rfl|rfl|rfl|rfl|rfl|rfl<;>first|exact aQ rfl|(rw[<- e];exact eu)
   ·refine ⟨.sl true [],?_,.inl ⟨?_,rfl⟩⟩
    ·rw[lc,if_pos (by simp[h0])];simp[iI,BC.of,GL]
    ·rw[lc,if_pos (by simp[h0])];rfl
  ·have oe:¬((cI l z false x.parts).length:Int)=0:=by
    have:=List.length_pos_iff.2 h0;omega
   simp[-J,-yb,-y9,y0,g8,m8,e,oe,h0];refine hk _ _ (JJ _ _ _ _ (fun t ht=>?_) ?_ (by omega) (fun t n=>by simp[CC];rfl) (fun q hq=>?_) ?_)
   ·have q:∀ c,9<=c->¬ t=c:=fun c hc=>by omega
    simp[q,GP,show t<171 from by omega]
   ·repeat (first|exact fv.back|refine DD.put ?_ (fun _ _ _=>rfl)|refine DD.put ?_ (FF (by omega))|refine DD.put ?_ eu|refine DD.put ?_ (by rw[<- e];exact eu))
   ·simp only[yt,Y09,or_false]at hq;rcases hq with rfl|rfl|rfl|rfl|rfl|rfl|rfl|rfl|rfl|rfl<;>first|exact aQ rfl|(rw[<- e];exact eu)
   ·exact⟨y.v,by rw[lc,if_neg (by simpa using h0),e];simp[iI,BC.of,GL],by rw[lc,if_neg (by simpa using h0)];exact hli.qA⟩
end
end
section
set_option maxHeartbeats 4000000
structure OfJ (n0:Nat)(s0:LC)(dn:Bool)(l:List OF)(i j:Nat)(s:LC):Prop where
 e1:(s.env 1).v=.ptr 1 n0 0
 m1:s.mem 1 n0=some [⟨.sl dn (l.map qG),.no⟩]
 e2:(s.env 2).v=.ptr 2 n0 0
 m2:∃a,s.mem 2 n0=some [⟨.sl true [],a⟩]/\mQ ⟨.sl true [],a⟩
 e4:(s.env 4).v=.int .i64 l.length
 e5:(s.env 5).v=.ptr 5 (n0+3) 0
 e6:(s.env 6).v=.int .i64 i
 m5:M5I n0 l j s
 calm:Co n0 s0 s
 SA:DD s.next s.env
 lt:n0+3<s.next
theorem GI {sz:Nat}{L:List (List AV)}(h:∀c∈L,c.length=sz):PH (qD L) sz 0 L.length=some L:=by
 have da:∀{L:List (List AV)},(∀c∈L,c.length=sz)->L.flatten.length=L.length*sz:=by
  intro L h
  induction L with
  |nil=>simp
  |cons c r ih =>
   simp only[yA,yj,yG];rw[ih fun c hc=>h c (yp _ hc),h c yo,yN];omega
 have hv:∀l:List AV,(l.map fun v=>(⟨v,An.no⟩:SC)).map (·.v)=l:=fun l=>by simp[Function.comp_def]
 unfold PH;rw[if_pos (by rw[qD,yc,da h];omega)];congr 1;refine List.ext_getElem (by simp) fun i h1 h2=>?_
 simp only[List.getElem_map,List.getElem_range,yy];simp only[qD];rw[<- Y01,<- yW,hv]
 induction L generalizing i with
 |nil=>simp at h2
 |cons c r ih =>
  have hc:=h c yo;cases i with
  |zero=>simp[<- hc]
  |succ i =>
   simp only[yA,List.getElem_cons_succ];rw[yN,Nat.add_comm,<- hc,<- List.drop_drop];rw[List.drop_left,hc];exact ih (fun c hc=>h c (yp _ hc)) i (by simpa using h2) (by simpa using h2)
theorem wL.bC {ms:List ED}{c:AV}{s s':LC}(h:wL ms c s)(hm:∀n L,ND L=true->s.mem 88 n=some (qD L)->s'.mem 88 n=some (qD L))(hn:s.next<=s'.next):wL ms c s':=by
 rcases h with h|⟨N,h1,h2,h3,h4⟩
 ·exact .inl h
 ·exact .inr ⟨N,h1,Y06 h2 hn,h3,hm N _ (D4 _) h4⟩
theorem eL.bC {S:List BC}{L:List (List AV)}{s s':LC}(h:eL S L s)(hm:∀n L,ND L=true->s.mem 88 n=some (qD L)->s'.mem 88 n=some (qD L))(hn:s.next<=s'.next):eL S L s' :=
 ⟨h.1,fun i t c ht hc=>by obtain⟨m,h1,h2⟩:=h.2 i t c ht hc;exact⟨m,h1,h2.bC hm hn⟩⟩
theorem tail_ev {r:RV}{n0:Nat}{s0:LC}{dn:Bool}{l:List OF}(hl:oks l)(hM0:bN n0 s0.mem)(hG:DD n0 s0.gh){i:Nat}(hi:i<l.length){n8:Nat}{s:LC}{k:Ex->LC->Option RV}(h:XO n0 s0 dn l i n8 s)(hk:∀s',OfJ n0 s0 dn l i (i+1) s'->k .nrm s'=some r):WG.run (sF MC ZC) (jH MC ZC) s k=some r:=by
 obtain⟨⟨e1,m1,e2,m2,e4,e5,e6,m5,⟨cm,cg,co,cn,cl⟩,SA,lt⟩,e8,lt8,m,row,m8,ja,bg⟩:=h;have hN5:=hl.2.1;generalize hT:MH l (i:Int)=T at *
 have nz:=bg;have da:row.length=10:=by have:=congrArg List.length ja;simpa [iI]using this
 have iu:eD true 10 0 row=some ⟨.agg (iI T m),.no⟩:=by
  unfold eD;simp[da,<- ja];rw[Y0b (by rw[yc];omega)]
 have hCl:(iI T m).length=10:=rfl;have hmf:∀t n,t≠88->m.eB t n=true:=fun t n ht=>by
  rcases bg with⟨_,rfl⟩|⟨N,_,_,rfl,_⟩
  ·rfl
  ·simp[AV.eB];omega
 have hmw:m.leaf=true:=by
  rcases bg with⟨_,rfl⟩|⟨N,_,_,rfl,_⟩<;>rfl
 have wg:∀t n,t≠88->(iI T m).all (AV.eB t n)=true:=fun t n ht=>by
  refine ye.2 fun c hc=>?_
  simp only[iI,yt,Y09,or_false]at hc;rcases hc with rfl|rfl|rfl|rfl|rfl|rfl|rfl|rfl|rfl|rfl<;>first|exact hmf t n ht|rfl
 have zr:∀c∈iI T m,DB s.next c:=fun c hc=>by
  simp only[iI,yt,Y09,or_false]at hc;rcases hc with rfl|rfl|rfl|rfl|rfl|rfl|rfl|rfl|rfl|rfl<;>first|exact nz.low|exact pT rfl
 have ov:∀c∈iI T m,c.leaf=true:=fun c hc=>by
  simp only[iI,yt,Y09,or_false]at hc;rcases hc with rfl|rfl|rfl|rfl|rfl|rfl|rfl|rfl|rfl|rfl<;>first|exact hmw|rfl
 have ga:pD 120 (i+1)=true:=by rw[XC];omega
 have bi:(AV.agg (iI T m)).whole=true:=rfl;rcases m5 with⟨pg,a,h5,hp5⟩|⟨N,L,pg,h5,ak,hN,wo,hLl,lc⟩
 ·subst pg;have helC:kD 10 [iI T m]=true:=rfl;have jl:PH (qD [iI T m]) 10 0 1=some [iI T m]:=GI (L:=[iI T m]) (by simp [hCl]);generalize hC:iI T m=C at *
  have hC2:C.length=10:=hCl;simp[WG,-J,-yb,-y9,y0,-eD,-KC,FC,HC,JC,DC,e5,e8,h5,m8,iu,AV.QB,jl,ga,helC,hC2];have ep:∀x∈qD [C],GA s.next x.v:=r6 (fun c hc=>by simp only[yU]at hc;subst hc;exact zr) (fun c hc=>by simp only[yU]at hc;subst hc;exact ov);refine hk _ ⟨?_,?_,?_,?_,?_,?_,?_,.inr ⟨s.next,[C],by omega,by simp,by omega,by dsimp only;omega,by simp,rfl,?_⟩,⟨?_,?_,?_,?_,?_⟩,?_,?_⟩
  ·simp[e1]
  ·simp[m1]
  ·simp[e2]
  ·simpa using m2
  ·simp[e4]
  ·simp[e5]
  ·simp[e6]
  ·refine⟨rfl,fun j t c ht hc=>?_⟩;have hj:j=0:=by
    rcases yZ j with h0|h0
    ·exact h0
    ·rw[Y08 (by simp;omega)]at hc;cases hc
   subst hj;simp at ht hc;subst ht;subst hc;rw[show MH l (0:Int)=T from hT];exact⟨m,hC.symm,bg.keep (fun N hN=>by simp) (by dsimp only;omega)⟩
  ·repeat (first|exact cm|refine dF.set ?_ (by omega))
  ·exact cg
  ·exact co
  ·dsimp only;omega
  ·exact((((cl.set ep).set ep).mono (Nat.le_succ _)).set fun x hx=>by simp at hx;subst hx;exact cS (by omega))
  ·dsimp only;have hag:GA s.next (.agg C):=NZ zr
   repeat (first|exact SA.mono (by omega)|refine DD.put ?_ (fun _ _ _=>rfl)|refine DD.put ?_ (FF (by omega))|refine DD.put ?_ (cS (by omega))|refine DD.put ?_ (XK (by omega) hag))
  ·dsimp only;omega
 ·have dd:∀ c∈L,c.length=10:=fun c hc=>by simpa using ye.1 lc.els c hc
  have helC:kD 10 [iI T m]=true:=rfl;have jl:PH (qD [iI T m]) 10 0 1=some [iI T m]:=GI (L:=[iI T m]) (by simp[hCl]);have hraw2:PH (qD L) 10 0 i=some L:=by rw[<- hLl];exact GI dd
  have hnn2:(L++[iI T m]).flatten.all (AV.eB 168 N)=true:=by
   rw[Y0l,List.all_append,yg];refine⟨ye.2 fun v hv=>?_,by simpa using wg 168 N (by omega)⟩;obtain⟨c,hc,hv⟩:=List.mem_flatten.1 hv;obtain⟨j,hj,rfl⟩:=Y0k hc;have hjS:j<((List.range i).map fun(j:Nat)=>MH l (j:Int)).length:=by rw[lc.1];exact hj
   obtain⟨m',h1,h2⟩:=lc.2 j _ _ (yf hjS) (yf hj);rw[h1]at hv;simp only[iI,yt,Y09,or_false]at hv;rcases hv with rfl|rfl|rfl|rfl|rfl|rfl|rfl|rfl|rfl|rfl<;>first|rfl|skip
   rcases h2 with⟨_,rfl⟩|⟨N',_,_,rfl,_⟩<;>rfl
  generalize hC:iI T m=C at *
  have hC2:C.length=10:=hCl;simp[WG,-J,-yb,-y9,y0,-eD,-KC,FC,HC,JC,DC,e5,e8,h5,m8,iu,AV.QB,jl,hraw2,wo,ga,helC,hC2,hnn2,-ye,-Y0l,-List.all_flatten,-List.all_append];have hgh:DV 168 N s.gh=s.gh:=by rw[cg];exact hG.same ak
  have sb:∀(s':LC),s'.mem=DN (DN (FV 168 N (DN s.mem 167 s.next (qD [C]))) 168 s.next (qD (L++[C]))) 5 (n0+3) [⟨.ref 168 s.next 10 0 (i+1) (i+1),.no⟩]->∀n L,ND L=true->s.mem 88 n=some (qD L)->s'.mem 88 n=some (qD L):=fun s' po n L' hL' h'=>by
   rw[po];simp[h',D1 hL']
  have ep:∀x∈qD [C],GA s.next x.v:=r6 (fun c hc=>by simp only[yU]at hc;subst hc;exact zr) (fun c hc=>by simp only[yU]at hc;subst hc;exact ov);have hlowR2:∀x∈qD (L++[C]),GA s.next x.v:=fun x hx=>by
   rw[qD,Y0l,Y03]at hx;rcases yu.1 hx with hx|hx
   ·exact cl 168 N _ wo x hx
   ·exact ep x hx
  refine hk _ ⟨?_,?_,?_,?_,?_,?_,?_,.inr ⟨s.next,L++[C],by omega,by simp,by omega,by dsimp only;omega,by simp,by simp[hLl],?_⟩,⟨?_,?_,?_,?_,?_⟩,?_,?_⟩
  ·simp[PD,e1,AV.kill,AV.rA]
  ·simp[UD,m1,AV.kill,AV.rA]
  ·simp[PD,e2,AV.kill,AV.rA]
  ·obtain⟨a,m2,p2⟩:=m2;exact⟨a,by simp[UD,m2,AV.kill,AV.rA],p2⟩
  ·simp[PD,e4,AV.kill,AV.rA]
  ·simp[PD,e5,AV.kill,AV.rA]
  ·simp[PD,e6,AV.kill,AV.rA]
  ·rw[y0,Y03,ym,yQ,hT];subst hC;exact(lc.bC (sb _ rfl) (by dsimp only;omega)).snoc (bg.bC (sb _ rfl) (by dsimp only;omega))
  ·exact(((cm.set (by omega)).kill hM0 ak).set (by omega)).set (by omega)
  ·show DV 168 N s.gh=s0.gh;rw[hgh];exact cg
  ·exact co
  ·dsimp only;omega
  ·exact((((cl.set ep).kill.set hlowR2).mono (Nat.le_succ _)).set fun x hx=>by simp at hx;subst hx;exact cS (by omega))
  ·dsimp only;have hag:GA s.next (.agg C):=NZ zr;have wz:N<s.next + 1:=by omega
   repeat (first|exact SA.mono (by omega)|refine DD.kill ?_|refine DD.put ?_ (fun _ _ _=>rfl)|refine DD.put ?_ (FF (by omega))|refine DD.put ?_ (cS (by omega))|refine DD.put ?_ (XK (by omega) hag))
  ·dsimp only;omega
end
section
set_option maxHeartbeats 4000000
theorem head_ev {r:RV}{n0:Nat}{s0:LC}{dn:Bool}{l:List OF}(hl:oks l)(hM:bN n0 s0.mem)(hP:Re n0 s0.mem)(hG:DD n0 s0.gh)(hG':iZ s0.gh){i:Nat}(hi:i<l.length){s:LC}{k:Ex->LC->Option RV}(h:r7 n0 s0 dn l i s)(hk:∀s',OfJ n0 s0 dn l i (i+1) s'->k .nrm s'=some r):JE.run (sF MC ZC) (jH MC ZC) s k=some r:=by
 have ht:∀n8 s',XO n0 s0 dn l i n8 s'->WG.run (sF MC ZC) (jH MC ZC) s' k=some r:=fun n8 s' h'=>tail_ev hl hM hG hi h' hk
 have hx:=IK hl hi;have hr:1<=(TD l (i:Int)).kind/\(TD l (i:Int)).kind<=9:=by
  have:=hx.1.1;simp only[OF.kind];omega
 by_cases h1:(TD l (i:Int)).kind=1
 ·exact Uz hl hi h h1 ht
 by_cases h2:(TD l (i:Int)).kind=2
 ·exact Iz hl hi h h2 ht
 by_cases h3:(TD l (i:Int)).kind=3
 ·exact Oz hl hi h h3 ht
 by_cases h4:(TD l (i:Int)).kind=4
 ·exact Pz hl hG' hP hi h h4 ht
 by_cases h5:(TD l (i:Int)).kind=5
 ·exact Az hl hG hi h h5 ht
 by_cases h6:(TD l (i:Int)).kind=6
 ·exact Sz hl hG hi h h6 ht
 by_cases h7:(TD l (i:Int)).kind=7
 ·exact Dz hl hi h h7 ht
 by_cases h8:(TD l (i:Int)).kind=8
 ·by_cases hc:mT l (TD l (i:Int)).b<0
  ·exact Us hl hi h h8 hc ht
  ·exact Ps hl hi h h8 hc ht
 ·exact Fz hl hi h (by omega) ht
theorem OfJ.toI {n0:Nat}{s0:LC}{dn:Bool}{l:List OF}{i j:Nat}{s:LC}(h:OfJ n0 s0 dn l i j s){E:Nat->SC}{nx:Nat}(hE:∀t,t<9->¬t=6->(E t).v=(s.env t).v)(h6:(E 6).v=.int .i64 j)(hL:DD nx E)(hn:s.next<=nx):r7 n0 s0 dn l j ⟨E,s.mem,nx,s.obj,s.gh⟩:=by
 obtain⟨e1,m1,e2,m2,e4,e5,e6,m5,⟨cm,cg,co,cn,cl⟩,SA,lt⟩:=h;exact⟨(hE 1 (by omega) (by omega)).trans e1,m1,(hE 2 (by omega) (by omega)).trans e2,m2,(hE 4 (by omega) (by omega)).trans e4,(hE 5 (by omega) (by omega)).trans e5,h6,m5.keep rfl (fun _ _=>rfl) (fun _ _=>rfl) hn,⟨cm,cg,co,by dsimp only;omega,cl.mono hn⟩,hL,by dsimp only;omega⟩
theorem r7.toJ {n0:Nat}{s0:LC}{dn:Bool}{l:List OF}{i:Nat}{s:LC}(h:r7 n0 s0 dn l i s):OfJ n0 s0 dn l i i s:=⟨h.e1,h.m1,h.e2,h.m2,h.e4,h.e5,h.e6,h.m5,h.calm,h.SA,h.lt⟩
def PE (l:List OF):List BC:=(List.range l.length).map fun(j:Nat)=>MH l (j:Int)
structure OfEnd (s0:LC)(l:List OF)(s:LC):Prop where
 calm:Co s0.next s0 s
 e2:(s.env 2).v=.ptr 2 s0.next 0
 e3:(s.env 3).v=.bool true
 lt:s0.next<s.next
 typs:∃N L,s.mem 2 s0.next=some [⟨.ref 168 N 10 0 l.length l.length,.no⟩]/\s0.next<=N/\N<s.next/\s.mem 168 N=some (qD L)/\L.length=l.length/\eL (PE l) L s
theorem of_run {r:RV}{dn:Bool}{l:List OF}(hl:oks l)(s0:LC)(h0:(s0.env 0).v=.agg (TG dn l))(hM:bN s0.next s0.mem)(hP:Re s0.next s0.mem)(hE:DD s0.next s0.env)(hG:DD s0.next s0.gh)(hG':iZ s0.gh)(k:Ex->LC->Option RV)(hk:∀s',OfEnd s0 l s'->k .ret s'=some r):wI.code.run (sF MC ZC) (jH MC ZC) s0 k=some r:=by
 have hN1:=hl.1;have hN5:=hl.2.1;have c1:¬(l.length:Int)<1:=by omega
 have c2:¬5<(l.length:Int):=by omega
 simp only[TG]at h0;simp[wI,-J,-yb,-y9,y0,h0,c1,c2];refine zE l.length (fun i s=>r7 s0.next s0 dn l i s) (fun e s=>e=.exit 0/\r7 s0.next s0 dn l l.length s) (fun i hi s k' h ih sf=>?_) _ _ ?_ (fun e s h=>?_)
 ·refine wD ?_;rw [of_L2];by_cases ba:i<l.length
  ·have aq:=rE (i:=i);simp [-J,-yb,-y9,y0,h.e4,h.e6,ba];refine head_ev hl hM hP hG hG' ba (h.toJ.toI (fun t ht h6=>?_) ?_ ?_ ?_) (fun s' hj=>?_)
   ·have q:∀ c,9<=c->¬ t=c:=fun c hc=>by omega
    simp[q]
   ·simp[h.e6]
   ·try dsimp only
    repeat (first|exact h.SA.mono (by omega)|refine DD.put ?_ (fun _ _ _=>rfl))
   ·(try dsimp only);omega
   ·simp [-J,-yb,-y9,y0,hj.e6,aq];refine ih ba _ (hj.toI (fun t ht h6=>?_) ?_ ?_ ?_)
    ·have q:∀ c,9<=c->¬ t=c:=fun c hc=>by omega
     simp[q,h6]
    ·simp
    ·try dsimp only
     repeat (first|exact hj.SA.mono (by omega)|refine DD.put ?_ (fun _ _ _=>rfl))
    ·(try dsimp only);omega
  ·have dr:i=l.length:=by omega
   subst dr;simp[-J,-yb,-y9,y0,h.e4,h.e6];refine sf _ _ ⟨rfl,h.toJ.toI (fun t ht h6=>?_) ?_ ?_ ?_⟩
   ·have q:∀ c,9<=c->¬ t=c:=fun c hc=>by omega
    simp[q]
   ·simp[h.e6]
   ·try dsimp only
    repeat (first|exact h.SA.mono (by omega)|refine DD.put ?_ (fun _ _ _=>rfl))
   ·(try dsimp only);omega
 ·refine ⟨?_,?_,?_,⟨.ex,?_,H8 _⟩,?_,?_,?_,.inl ⟨rfl,.ex,?_,H8 _⟩,⟨?_,?_,?_,?_,?_⟩,?_,?_⟩
  all_goals first|(simp;done)|skip
  ·dsimp only
   repeat (first|exact dF.refl|refine dF.set ?_ (by omega))
  ·dsimp only;omega
  ·exact(((((hM.mono (by dsimp only;omega)).set NC).set NC).set NC))
  ·dsimp only
   repeat (first|exact hE.mono (by omega)|refine DD.put ?_ (fun _ _ _=>rfl)|refine DD.put ?_ (FF (by omega)))
 ·obtain ⟨rfl,h⟩:=h;obtain ⟨e1,m1,e2,⟨a2,m2,p2⟩,e4,e5,e6,m5,⟨cm,cg,co,cn,cl⟩,SA,lt⟩:=h;rcases m5 with ⟨pg,_⟩ | ⟨N,L,pg,h5,ak,hN,wo,hLl,lc⟩
  ·omega
  simp[-J,-yb,-y9,y0,e5,h5,e2,m2];refine hk _ ⟨⟨?_,?_,?_,?_,?_⟩,?_,?_,?_,N,L,?_,ak,?_,?_,hLl,?_⟩
  ·exact cm.set (yl _)
  ·exact cg
  ·exact co
  ·dsimp only;omega
  ·exact(cl.mono (Nat.le_succ _)).set fun x hx=>by simp at hx;subst hx;exact cS (by omega)
  ·simp[e2]
  ·simp
  ·dsimp only;omega
  ·simp
  ·dsimp only;omega
  ·simp[wo]
  ·exact lc.keep (fun N _=>by simp) (by dsimp only;omega)
end
section
set_option maxHeartbeats 4000000
theorem of_bad {r:RV}{dn:Bool}{l:List OF}(hl:¬(1<=l.length/\l.length<=5))(s0:LC)(h0:(s0.env 0).v=.agg (TG dn l))(hM:bN s0.next s0.mem)(k:Ex->LC->Option RV)(hk:∀s',Co s0.next s0 s'->(s'.env 2).v=.ptr 2 s0.next 0->(s'.env 3).v=.bool false->s'.mem 2 s0.next=some [⟨.sl true [],.no⟩]->k .ret s'=some r):wI.code.run (sF MC ZC) (jH MC ZC) s0 k=some r:=by
 simp only[TG]at h0;by_cases c1:(l.length:Int)<1
 ·have c1':l.length=0:=by omega
  have c1'':l=[]:=Y04 c1';subst c1'';simp[wI,-J,-yb,-y9,y0,h0];refine hk _ ⟨?_,rfl,rfl,?_,?_⟩ ?_ ?_ ?_
  ·dsimp only
   repeat (first|exact dF.refl|refine dF.set ?_ (by omega))
  ·dsimp only;omega
  ·exact(((hM.mono (by dsimp only;omega)).set NC).set NC).set NC
  ·simp
  ·simp
  ·simp
 ·have c2:5<(l.length:Int):=by omega
  simp[wI,-J,-yb,-y9,y0,h0,c1,c2];refine hk _ ⟨?_,rfl,rfl,?_,?_⟩ ?_ ?_ ?_
  ·dsimp only
   repeat (first|exact dF.refl|refine dF.set ?_ (by omega))
  ·dsimp only;omega
  ·exact(((hM.mono (by dsimp only;omega)).set NC).set NC).set NC
  ·simp
  ·simp
  ·simp
end
theorem X4 {sz:Nat}{L:List (List AV)}(h:kD sz L=true){k:Nat}{c:List AV}(hk:L[k]?=some c):
  qD L=qD (L.take k)++(c.map (⟨·,.no⟩)++qD (L.drop (k+1)))/\(qD (L.take k)).length=k*sz/\k<L.length/\c.length=sz:=by
 obtain⟨ba,he⟩:=yn.1 hk;have h1:kD sz (L.take k)=true:=ye.2 fun x hx=>ye.1 h x (Y0i hx)
 refine⟨?_,?_,ba,?_⟩
 ·have:L=L.take k++(c :: L.drop (k + 1)):=by rw [<- he,<- yv ba,Y0c]
  have h2:=congrArg qD this;rw[AN]at h2;rw[h2];simp[qD]
 ·rw[BJ h1,yz,Nat.min_eq_left (by omega)]
 ·have:=ye.1 h c (yr hk);simpa using this
theorem Pc {L:List (List AV)}{k:Nat}(hk:k<L.length)(c:List AV):qD (L.take k)++(c.map (⟨·,.no⟩)++qD (L.drop (k+1)))=qD (L.set k c):=by
 have:L.set k c=L.take k++(c::L.drop (k+1)):=by
  rw[List.set_eq_take_append_cons_drop,if_pos hk]
 rw[this,AN];simp[qD]
section
variable {sz:Nat} {L:List (List AV)} (h:kD sz L=true) {k j:Nat} {c:List AV} (hk:L[k]?=some c)
include sz L h k j c hk
theorem Oc {v:AV}(hj:c[j]?=some v)(z:Nat):eD false z (k*sz+j) (qD L)=some ⟨v,.no⟩:=by
 obtain⟨h1,h2,h3,h4⟩:=X4 h hk;obtain⟨kt,_⟩:=yn.1 hj;rw[h1,FC,yP (by omega),h2,Y0g,yT (by simpa using kt),yk,hj];rfl
theorem K8 (hj:j<c.length){x:AV}(hx:x.leaf=true)(z:Nat):KC false z (k*sz+j) (qD L) x .no=some (qD (L.set k (c.set j x))):=by
 obtain⟨h1,h2,h3,h4⟩:=X4 h hk;rw[<- Pc h3,h1];unfold KC;simp only[yM,if_false];rw[if_pos ⟨hx,by simp only[yj,yc,h2];omega⟩];congr 1;rw[List.set_append_right (h:=by omega),h2,Y0g,List.set_append_left (h:=by simpa using hj),List.map_set]
end
theorem Z4 (row:List SC)(sz off len:Nat):KG row sz off len=if row.all (fun x=>x.v.tA)=true then PH row sz off len else none:=by
 unfold KG PH;by_cases h1:off+len*sz<=row.length<;>by_cases h2:row.all (fun x=>x.v.tA)=true<;>simp only[h1,h2,true_and,false_and,and_true,and_false,if_true,if_false,yM]
theorem s4 {s:LC}{v:AV}(h:v.tA=true):AV.xA s v=v:=by
 cases v<;>first|rfl|(simp[AV.tA]at h;done)
theorem frz_row {s:LC}{t n sz c:Nat}{L:List (List AV)}(h:kD sz L=true)(hm:s.mem t n=some (qD L))(hf:(L.map fun c=>c.map (AV.xA s)).flatten.all AV.tA=true):AV.lA s (.ref t n sz 0 L.length c)=.sl false (L.map fun c=>c.map (AV.xA s)):=by
 have hr:PH (qD L) sz 0 L.length=some L:=GI fun c hc=>by simpa using ye.1 h c hc
 simp only[AV.lA,hm,J,Z4];by_cases nb:(qD L).all (fun x=>x.v.tA)=true
 ·rw[if_pos nb,hr];have:(L.map fun c=>c.map (AV.xA s))=L.map id:=yE fun c hc=>by
   have:c.map (AV.xA s)=c.map id:=yE fun v hv=>s4 (by
    have:=ye.1 nb ⟨v,.no⟩ (yD.2 ⟨v,List.mem_flatten.2 ⟨c,hc,hv⟩,rfl⟩);exact this)
   rwa [List.map_id]at this
  rw[this,List.map_id]
 ·rw[if_neg nb];simp only[fT,hr,J];rw[if_pos hf]
def rwM (n:Nat)(a b:ED):Prop:=b.id=a.id/\b.name=a.name/\b.gB=a.gB/\(b=a\/(0<=b.ty/\b.ty<n/\b.has=false/\b.dflt=Vl.zero))
def rwL (n:Nat)(xs bs:List ED):Prop:=xs.length=bs.length/\∀(i:Nat) a b,xs[i]?=some a->bs[i]?=some b->rwM n a b
theorem N8 (n:Nat)(xs:List ED):rwL n xs xs:=⟨rfl,fun i a b h h'=>by
 rw[h]at h';injection h' with h';subst h';exact⟨rfl,rfl,rfl,.inl rfl⟩⟩
def ED.xB (m:ED)(ty:Int):ED:=⟨m.id,m.name,ty,m.gB,false,Vl.zero⟩
theorem rwL_set {n:Nat}{xs bs:List ED}(h:rwL n xs bs){k:Nat}{m:ED}(hk:bs[k]?=some m){ty:Int}(h0:0<=ty)(h1:ty<n):rwL n xs (bs.set k (m.xB ty)):=by
 obtain⟨hl,h⟩:=h;refine⟨by simpa using hl,fun i a b ha hb=>?_⟩;rw[List.getElem?_set]at hb;split at hb
 ·rename_i e;subst e;split at hb
  ·injection hb with hb;subst hb;obtain⟨g1,g2,g3,_⟩:=h k a m ha hk;exact⟨g1,g2,g3,.inr ⟨h0,h1,rfl,rfl⟩⟩
  ·cases hb
 ·exact h i a b ha hb
def MemsR (n:Nat)(xs:List ED)(c:AV)(s:LC):Prop :=
 (xs=[]/\c=.sl true [])\/∃N bs,xs≠[]/\rwL n xs bs/\c=.ref 88 N 13 0 xs.length xs.length/\s.mem 88 N=some (qD (bs.map rD))
def GU (n:Nat)(S:List BC)(L:List (List AV))(s:LC):Prop:=S.length=L.length/\∀(i:Nat)(t:BC)(c:List AV),S[i]?=some t->L[i]?=some c->∃m,c=iI t m/\MemsR n t.qA m s
theorem eL.toR {S:List BC}{L:List (List AV)}{s:LC}(h:eL S L s)(n:Nat):GU n S L s:=⟨h.1,fun i t c ht hc=>by
 obtain⟨m,h1,h2⟩:=h.2 i t c ht hc;refine⟨m,h1,?_⟩;rcases h2 with h2|⟨N,g1,_,g3,g4⟩
 ·exact .inl h2
 ·exact .inr ⟨N,_,g1,N8 n _,g3,g4⟩⟩
theorem GU.els {n:Nat}{S:List BC}{L:List (List AV)}{s:LC}(h:GU n S L s):kD 10 L=true:=by
 refine ye.2 fun c hc=>?_
 obtain⟨i,hi,rfl⟩:=Y0k hc;have da:=h.1;obtain⟨m,h1,_⟩:=h.2 i S[i] L[i] (yf (by omega)) (yf hi);rw[h1];rfl
theorem GU.keep {n:Nat}{S:List BC}{L:List (List AV)}{s s':LC}(h:GU n S L s)(hm:∀N,s'.mem 88 N=s.mem 88 N):GU n S L s':=⟨h.1,fun i t c ht hc=>by
 obtain⟨m,h1,h2⟩:=h.2 i t c ht hc;refine⟨m,h1,?_⟩;rcases h2 with h2|⟨N,bs,g1,g2,g3,g4⟩
 ·exact .inl h2
 ·exact .inr ⟨N,bs,g1,g2,g3,(hm N).trans g4⟩⟩
theorem Cz {a b:List ED}(h:qD (a.map rD)=qD (b.map rD))(hl:a.length=b.length):a.map rD=b.map rD:=by
 have h1:=GI (sz:=13) (L:=a.map rD) (by simp[rD]);have h2:=GI (sz:=13) (L:=b.map rD) (by simp[rD]);rw[h]at h1;simp only[yc]at h1 h2;rw[hl,h2]at h1;injection h1 with h1;exact h1.symm
theorem GU.store {n:Nat}{S:List BC}{L:List (List AV)}{s s':LC}(h:GU n S L s){N k:Nat}{bs:List ED}{m:ED}(hN:s.mem 88 N=some (qD (bs.map rD)))(hk:bs[k]?=some m){ty:Int}(h0:0<=ty)(h1:ty<n)(hm:∀N',s'.mem 88 N'=if N'=N then some (qD ((bs.set k (m.xB ty)).map rD))else s.mem 88 N'):GU n S L s':=⟨h.1,fun i t c ht hc=>by
 obtain⟨m',g1,g2⟩:=h.2 i t c ht hc;refine⟨m',g1,?_⟩;rcases g2 with g2|⟨N',bs',g2,g3,g4,g5⟩
 ·exact .inl g2
 ·by_cases e:N'=N
  ·subst e;rw[hN]at g5;injection g5 with g5;have da:bs.length=bs'.length:=by
    have e1:=congrArg List.length g5;rw[BJ (dG _),BJ (dG _)]at e1;simp only[yc]at e1;omega
   have nz:=Cz g5 da;have sf:k<bs'.length:=by rw[<- da];exact(yn.1 hk).1
   have fj:rD bs'[k]=rD m:=by
    have:=congrArg (·[k]?) nz;simp only[yk,hk,yf sf,yB,Option.some.injEq]at this;exact this.symm
   refine .inr ⟨N',bs'.set k (bs'[k].xB ty),g2,rwL_set g3 (yf sf) h0 h1,g4,?_⟩;rw[hm,if_pos rfl,List.map_set,List.map_set,nz];have:rD (m.xB ty)=rD (bs'[k].xB ty):=by
    simp only[rD,List.cons.injEq,AV.int.injEq,AV.str.injEq,AV.bool.injEq,true_and]at fj;simp only[rD,ED.xB,fj.1,fj.2.1,fj.2.2.2.1]
   rw[this]
  ·exact .inr ⟨N',bs',g2,g3,g4,by rw[hm,if_neg e];exact g5⟩⟩
def rwT (n:Nat)(a b:BC):Prop:=∃bs,rwL n a.qA bs/\b={ a with mn:=bs.isEmpty,qA:=bs }
def rwS (n:Nat)(S T:List BC):Prop:=S.length=T.length/\∀(i:Nat) a b,S[i]?=some a->T[i]?=some b->rwT n a b
end Go.Proofs.YtpmklcpajcfpjaaGreatDoor
