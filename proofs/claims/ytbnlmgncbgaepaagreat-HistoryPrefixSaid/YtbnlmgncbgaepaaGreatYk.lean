/- A part of the proof. -/
import Derived.Test.YtbnlmgncbgaepaaGreatYf
set_option linter.all false
set_option maxRecDepth 100000
set_option maxHeartbeats 8000000
open Option renaming bind_some → V, map_eq_some_iff → yf, map_some → yx
open List renaming range_succ → J, map_map → y0, getElem?_eq_getElem → y4, all_eq_true → y5, getElem_mem → y6, drop_eq_getElem_cons → y9, getElem?_eq_some_iff → yb, getElem?_map → yc, drop_eq_nil_of_le → ye, mem_cons → yh, map_cons → yj, mem_of_getElem? → yk, mem_cons_self → yl, map_congr_left → ym, length_map → yo, length_append → yp, mem_cons_of_mem → yr, map_nil → yt, mem_append → yw, length_take → yz, mem_map → yA, getElem_of_mem → yB, take_of_length_le → yD, length_cons → yE, flatten_cons → yF, getElem?_append_left → yG, take_append_getElem → yI, not_mem_nil → yJ, map_take → yM, append_nil → yN, mem_singleton → yO, getElem?_eq_none → yP, eq_nil_of_length_eq_zero → yS, map_append → yU, getElem?_append_right → yW
open Int renaming toNat_lt → y3, tmod_eq_emod_of_nonneg → yy, emod_nonneg → yL, emod_lt_of_pos → yQ
open Bool renaming and_eq_true → y8, false_eq_true → yq
open Nat renaming le_refl → yn, succ_mul → yu, le_trans → yC, zero_add → yH, eq_zero_or_pos → yK, lt_of_lt_of_le → yZ
namespace Go.Proofs.YtbnlmgncbgaepaaGreat
open Go
structure KP where
 id:Int
 ty:Int
 flag:Int
structure jC where
 k:Int
 a:Int
 b:Int
 c:Int
 pn:Bool
 parts:List KP
def GD (x:KP):List AV:=[.int .u8 x.id,.int .u8 x.ty,.int .u8 x.flag]
def HC (x:jC):List AV:=[.int .u8 x.k,.int .u8 x.a,.int .u8 x.b,.int .u8 x.c,.sl x.pn (x.parts.map GD)]
def OF (n:Bool) (l:List jC):List AV:=[.sl n (l.map HC)]
def u8 (n:Int):Prop:=0<=n/\n<=255
def KP.ok (x:KP):Prop:=u8 x.id/\u8 x.ty/\u8 x.flag
def jC.ok (x:jC):Prop:=u8 x.k/\u8 x.a/\u8 x.b/\u8 x.c/\x.parts.length<=9223372036854775807/\∀ p∈x.parts,p.ok
def jC.kind (x:jC):Int:=1 + x.k % 9
def jC.low (x:jC):Int:=x.a % 7 - 3
def jC.high (x:jC):Int:=x.low + x.b % 6
theorem T7 {x:jC} (h:x.ok):1<=x.kind/\x.kind<=9:=by
 obtain ⟨⟨h1,h2⟩,_⟩:=h;simp only [jC.kind];omega
theorem u8_mod (n m:Int) (h:u8 n) (hm:0<m) (uf:m<=255):n.tmod m=n % m/\IntKind.u8.wrap (n % m)=n % m:=by
 obtain ⟨h1,h2⟩:=h;have e:=yy h1 (b:=m);have g1:=yL n (b:=m) (by omega);have g2:=yQ n hm;refine ⟨e,?_⟩;simp only [IntKind.wrap,IntKind.bits,IntKind.signed];simp;omega
theorem kind_ev (dn:Bool) (l:List jC) (z:Int) (x:jC) (hz:0<=z) (h:l[z.toNat]?=some x) (hx:x.ok):fA 87 [.agg (OF dn l),.int .i64 z] (.int .i64 x.kind):=by
 refine wA (c:=lL) rfl rfl ?_;have g:(l.map HC)[z.toNat]?=some (HC x):=by simp [h]
 obtain ⟨e1,e2⟩:=u8_mod x.k 9 hx.1 (by omega) (by omega);simp only [HC] at g;simp [lL,OF,-V,-y3,-y0,J,g,hz,e1];have:=hx.1;simp only [u8] at this;rw [IntWalk.i64_in (x.k % 9) (by omega),IntWalk.i64_in _ (by omega)];rfl
theorem JZ (k:Int):fA 172 [.int .i64 k] (.bool (decide (7<=k))):=by
 refine wA (c:=qJ) rfl rfl ?_;simp [qJ,-V,-y3,-y0,J]
theorem low_ev (x:jC) (hx:x.ok):fA 89 [.agg (HC x)] (.int .i64 x.low):=by
 refine wA (c:=JM) rfl rfl ?_;obtain ⟨e1,e2⟩:=u8_mod x.a 7 hx.2.1 (by omega) (by omega);simp [JM,HC,-V,-y3,-y0,J,e1];rw [IntWalk.i64_in (x.a % 7) (by omega),IntWalk.i64_in _ (by omega)];rfl
theorem high_ev (x:jC) (hx:x.ok):fA 90 [.agg (HC x)] (.int .i64 x.high):=by
 refine wA (c:=kL) rfl rfl ?_;obtain ⟨e1,e2⟩:=u8_mod x.b 6 hx.2.2.1 (by omega) (by omega);have:=low_ev x hx;simp only [HC] at this;simp [kL,HC,-V,-y3,-y0,J,e1,this];rw [IntWalk.i64_in (x.b % 6) (by omega),IntWalk.i64_in _ (by simp only [jC.low]; omega)];rfl
def bitZ (a:Int) (i:Nat):Bool:=decide (a / 2 ^ i % 2=1)
def eW (a:Int):Nat->List Int
 | 0=>[]
 | i + 1=>eW a i++if bitZ a i then [((i + 1:Nat):Int)] else []
def qF (a:Int):List Int:=if eW a 6=[] then [1] else eW a 6
def LK (n:Int):List AV:=[.int .i64 n]
theorem rW (a:Int):∀ i,(eW a i).length<=i
 | 0=>yn _
 | i + 1=>by
  have:=rW a i;rw [eW,yp];split <;> simp <;> omega
theorem els_int (l:List Int):gB 1 (l.map LK)=true:=tC _ _ _ fun _=>rfl
theorem ids7_ev (x:jC) (hx:x.ok):fA 91 [.agg (HC x)] (.sl false ((qF x.a).map LK)):=by
 refine wA (c:=GM) rfl rfl ?_;obtain ⟨hk,ha,hb,hc,hp,hpp⟩:=hx;obtain ⟨ha1,ha2⟩:=ha;simp [GM,HC,-V,-y3,-y0,J];refine lA 6 (fun i s=>(s.env 1).v=.ptr 1 1 0/\s.mem 1 1=some [⟨.int .u8 x.k,.no⟩,⟨.int .u8 x.a,.no⟩,⟨.int .u8 x.b,.no⟩,⟨.int .u8 x.c,.no⟩,⟨.sl x.pn (x.parts.map GD),.no⟩]/\(s.env 4).v=.int .i64 i/\(s.env 3).v=.sl (eW x.a i).isEmpty ((eW x.a i).map LK)/\(eW x.a i=[]/\(s.env 3).a=.ex\/¬ eW x.a i=[]/\(s.env 3).a=.own 19 3))
  (fun e s=>e=.exit 0/\(s.env 3).v=.sl (eW x.a 6).isEmpty ((eW x.a 6).map LK)/\(eW x.a 6=[]/\(s.env 3).a=.ex\/¬ eW x.a 6=[]/\(s.env 3).a=.own 19 3)) (fun i hi s k h ih hk=>?_) _ _ ?_ (fun e s h=>?_)
 ·obtain ⟨e1,m1,e4,e3,an⟩:=h;refine tA ?_;by_cases fa:i<6
  ·have ga:(i:Int)<6:=by omega
   have hsh:shN .u8 i=i:=by simp [shN,IntKind.bits]; omega
   have hy:x.a.fdiv (2 ^ i)=x.a / 2 ^ i:=Int.fdiv_eq_ediv_of_nonneg _ (Int.pow_nonneg (by omega));have fi:0<=x.a / 2 ^ i:=Int.ediv_nonneg ha1 (Int.pow_nonneg (by omega));have hm:(x.a / 2 ^ i).tmod 2=x.a / 2 ^ i % 2:=yy fi;have ng:=ZA (i:=i);have hl:=rW x.a i;have ja:uB 8 ((eW x.a i).length + 1)=true:=by rw [TA]; omega
   have ud:=els_int (eW x.a i);have dj:eW x.a (i + 1)=eW x.a i++if bitZ x.a i then [((i + 1:Nat):Int)] else []:=rfl
   have hb:bitZ x.a i=decide (x.a / 2 ^ i % 2=1):=rfl;generalize hI:eW x.a i=L at *
   generalize hJ:eW x.a (i + 1)=L' at *
   generalize x.a / 2 ^ i=y at *
   by_cases c:y % 2=1
   ·rcases an with ⟨a0,a3⟩ | ⟨a0,a3⟩
    ·subst a0;have ff:uB 8 1=true:=by rw [TA]; omega
     simp [LG,-V,-y3,-y0,J,e1,m1,e4,e3,a3,ga,hsh,hy,hm,ng,c,ff];refine ih fa _ ⟨?_,?_,?_,?_,?_⟩ <;> simp [e1,m1,dj,hb,c,LK,An.strip]
    ·have hem:L.isEmpty=false:=by
      cases L with
      | nil=>exact absurd rfl a0
      | cons=>rfl
     rw [hem] at e3;simp [LG,-V,-y3,-y0,J,e1,m1,e4,e3,a0,a3,ga,hsh,hy,hm,ng,c,ja,ud];refine ih fa _ ⟨?_,?_,?_,?_,?_⟩ <;> simp [e1,m1,dj,hb,c,LK,An.strip]
   ·simp [LG,-V,-y3,-y0,J,e1,m1,e4,e3,ga,hsh,hy,hm,ng,c];refine ih fa _ ⟨?_,?_,?_,?_,?_⟩ <;> simp [e1,m1,e3,an,dj,hb,c,LK,An.strip]
  ·have hi6:i=6:=by omega
   subst hi6;simp [LG,-V,-y3,-y0,J,e4];exact hk _ _ ⟨rfl,by simpa using e3,by simpa using an⟩
 ·simp [eW]
 ·obtain ⟨rfl,e3,an⟩:=h;have hl:=rW x.a 6;generalize hI:eW x.a 6=L at *
  rcases an with ⟨a0,a3⟩ | ⟨a0,a3⟩
  ·subst a0;have ff:uB 8 1=true:=by rw [TA]; omega
   simp [-V,-y3,-y0,J,e3,a3,ff,qF,hI,LK]
  ·simp [-V,-y3,-y0,J,e3,a3,a0,qF,hI]
def dC (l:List jC) (z:Int):Int:=match l[z.toNat]? with
 | some x=>x.kind
 | none=>0
def oks (l:List jC):Prop:=1<=l.length/\l.length<=5/\∀ x∈l,x.ok
theorem cH {dn:Bool} {l:List jC} (hl:oks l) {z:Int} (h0:0<=z) (h1:z<l.length):fA 87 [.agg (OF dn l),.int .i64 z] (.int .i64 (dC l z)):=by
 have fa:z.toNat<l.length:=by omega
 have g:l[z.toNat]?=some l[z.toNat]:=y4 fa;have:=kind_ev dn l z _ h0 g (hl.2.2 _ (y6 fa));rw [dC,g];exact this
theorem E7 {l:List jC} (hl:oks l) {z:Int} (h0:0<=z) (h1:z<l.length):1<=dC l z/\dC l z<=9:=by
 have fa:z.toNat<l.length:=by omega
 have g:l[z.toNat]?=some l[z.toNat]:=y4 fa;rw [dC,g];exact T7 (hl.2.2 _ (y6 fa))
def uV (k:Int):Bool:=decide (1<=k/\k<=4)
def MF (l:List jC) (code:Int):Nat->Nat->Int
 | 0,_=>-1
 | n + 1,k=>if uV (dC l ((code + k) % l.length))=true then (code + k) % l.length else MF l code n (k + 1)
def aK (l:List jC) (code:Int):Int:=MF l code l.length 0
theorem dP {l:List jC} (hl:oks l) (code:Int):∀ n k,-1<=MF l code n k/\MF l code n k<l.length
 | 0,k=>by have:=hl.1; simp only [MF]; omega
 | n + 1,k=>by
  have hp:=hl.1;have h1:=yL (code + k) (b:=(l.length:Int)) (by omega);have h2:=yQ (code + k) (b:=(l.length:Int)) (by omega);have:=dP hl code n (k + 1);simp only [MF];split <;> omega
theorem key_ev (dn:Bool) (l:List jC) (hl:oks l) (code:Int) (hc:u8 code):fA 93 [.agg (OF dn l),.int .u8 code] (.int .i64 (aK l code)):=by
 refine wA (c:=HM) rfl rfl ?_;obtain ⟨hc0,pq⟩:=hc;have hN:=hl.1;have hN5:=hl.2.1;have zb:=fun z h0 h1=>cH (dn:=dn) hl (z:=z) h0 h1
 simp only [fA,OF] at zb ⊢;simp [HM,-V,-y3,-y0,J];refine lA l.length (fun i s=>(s.env 2).v=.ptr 2 1 0/\s.mem 2 1=some [⟨.sl dn (l.map HC),.no⟩]/\(s.env 1).v=.int .u8 code/\(s.env 5).v=.int .i64 l.length/\(s.env 6).v=.int .i64 i/\MF l code (l.length - i) i=aK l code)
  (fun e s=>(e=.exit 0/\aK l code=-1)\/(e=.ret/\(s.env 4).v=.int .i64 (aK l code))) (fun i hi s k h ih hk=>?_) _ _ ?_ (fun e s h=>?_)
 ·obtain ⟨e2,m2,e1,e5,e6,hs⟩:=h;refine tA ?_;by_cases fa:i<l.length
  ·have ga:(i:Int)<l.length:=by omega
   have ng:=ZA (i:=i);have bj:IntKind.i64.wrap code=code:=IntWalk.i64_in _ (by omega);have hwa:IntKind.i64.wrap (code + i)=code + i:=IntWalk.i64_in _ (by omega);have hm:(code + (i:Int)).tmod l.length=(code + i) % l.length:=yy (by omega);have ec:=yL (code + i) (b:=(l.length:Int)) (by omega);have bo:=yQ (code + i) (b:=(l.length:Int)) (by omega);have po:¬ (l.length:Int)=0:=by omega
   have ub:=zb _ ec bo;rw [show l.length - i=l.length - (i + 1) + 1 from by omega,MF] at hs;generalize (code + (i:Int)) % l.length=z at *
   have bc:=tX (dC l z);rw [show decide (1<=dC l z/\dC l z<=4)=uV (dC l z) from rfl] at bc;obtain ⟨N,ri⟩:∃ N:Int,N=l.length:=⟨_,rfl⟩;rw [<- ri] at e5 ga hm po;cases hb:uV (dC l z) with
   | true =>
    rw [hb] at bc;rw [if_pos hb] at hs;simp [wJ,-V,-y3,-y0,J,e2,m2,e1,e5,e6,ga,bj,hwa,hm,po,ub,bc];exact hk _ _ (.inr ⟨rfl,by simp [hs]⟩)
   | false =>
    rw [hb] at bc;rw [hb,if_neg (by decide)] at hs;simp [wJ,-V,-y3,-y0,J,e2,m2,e1,e5,e6,ga,bj,hwa,hm,po,ub,bc,ng];refine ih fa _ ⟨?_,?_,?_,?_,?_,hs⟩ <;> simp [e2,m2,e1,e5,ri]
  ·have ga:¬ (i:Int)<l.length:=by omega
   simp [wJ,-V,-y3,-y0,J,e5,e6,ga];refine hk _ _ (.inl ⟨rfl,?_⟩);rw [<- hs,show l.length - i=0 from by omega,MF]
 ·simp [aK]
 ·rcases h with ⟨rfl,h1⟩ | ⟨rfl,h1⟩ <;> simp [-V,-y3,-y0,J,h1]
def bF (l:List jC):Nat->Nat->Int
 | 0,_=>-1
 | n + 1,k=>if 7<=dC l k then k else bF l n (k + 1)
def PI (l:List jC) (i code:Int):Int:=if 7<=dC l (code % l.length)\/code % l.length<i then code % l.length else if 0<i then code % l.length % i else bF l l.length 0
theorem tV {l:List jC} (hl:oks l):∀ n k,n + k<=l.length->-1<=bF l n k/\bF l n k<l.length
 | 0,k,_=>by have:=hl.1; simp only [bF]; omega
 | n + 1,k,h=>by
  have:=tV hl n (k + 1) (by omega);simp only [bF];split <;> omega
theorem GP {l:List jC} (hl:oks l) (i code:Int) (hi:i<l.length):-1<=PI l i code/\PI l i code<l.length:=by
 have hp:=hl.1;have h1:=yL code (b:=(l.length:Int)) (by omega);have h2:=yQ code (b:=(l.length:Int)) (by omega);have h3:=tV hl l.length 0 (by omega);simp only [PI];split
 ·omega
 ·split
  ·rename_i h;have h4:=yL (code % l.length) (b:=i) (by omega);have h5:=yQ (code % l.length) h;omega
  ·exact h3
theorem target_ev (dn:Bool) (l:List jC) (hl:oks l) (i0:Int) (zi:0<=i0) (kf:i0<l.length) (code:Int) (hc:u8 code):fA 141 [.agg (OF dn l),.int .i64 i0,.int .u8 code] (.int .i64 (PI l i0 code)):=by
 refine wA (c:=EE) rfl rfl ?_;obtain ⟨hc0,pq⟩:=hc;have hN:=hl.1;have hN5:=hl.2.1;have zb:=fun z h0 h1=>cH (dn:=dn) hl (z:=z) h0 h1
 simp only [fA,OF] at zb ⊢;have ec:=yL code (b:=(l.length:Int)) (by omega);have bo:=yQ code (b:=(l.length:Int)) (by omega);have bj:IntKind.i64.wrap code=code:=IntWalk.i64_in _ (by omega);have hm:code.tmod l.length=code % l.length:=yy (by omega);have po:¬ (l.length:Int)=0:=by omega
 have pg:¬ l=[]:=by intro e; rw [e] at hN; simp at hN
 have ub:=zb _ ec bo;unfold PI;generalize code % (l.length:Int)=z at *
 have hh:=JZ (dC l z);have hmi:0<i0->z.tmod i0=z % i0:=fun _=>yy ec
 by_cases c1:7<=dC l z
 ·simp [EE,-V,-y3,-y0,J,bj,hm,pg,ub,hh,c1]
 ·rw [decide_eq_false c1] at hh;by_cases c2:z<i0
  ·simp [EE,-V,-y3,-y0,J,bj,hm,pg,ub,hh,c1,c2]
  ·by_cases c3:0<i0
   ·simp [EE,-V,-y3,-y0,J,bj,hm,pg,ub,hh,c1,c2,c3,hmi c3,show ¬ i0=0 from by omega]
   ·simp [EE,-V,-y3,-y0,J,bj,hm,pg,ub,hh,c1,c2,c3];clear ub hh c1 c2;refine lA l.length (fun i s=>(s.env 3).v=.ptr 3 1 0/\s.mem 3 1=some [⟨.sl dn (l.map HC),.no⟩]/\(s.env 7).v=.int .i64 l.length/\(s.env 9).v=.int .i64 i/\bF l (l.length - i) i=bF l l.length 0)
     (fun e s=>(e=.exit 0/\bF l l.length 0=-1)\/(e=.ret/\(s.env 6).v=.int .i64 (bF l l.length 0))) (fun i hi s k h ih hk=>?_) _ _ ?_ (fun e s h=>?_)
    ·obtain ⟨e3,m3,e7,e9,hs⟩:=h;refine tA ?_;by_cases fa:i<l.length
     ·have ga:(i:Int)<l.length:=by omega
      have ng:=ZA (i:=i);have ub:=zb i (by omega) ga;rw [show l.length - i=l.length - (i + 1) + 1 from by omega,bF] at hs;have hh:=JZ (dC l i);by_cases hb:7<=dC l i
      ·rw [decide_eq_true hb] at hh;rw [if_pos hb] at hs;simp [PG,-V,-y3,-y0,J,e3,m3,e7,e9,fa,ub,hh];exact hk _ _ (.inr ⟨rfl,by simp [hs]⟩)
      ·rw [decide_eq_false hb] at hh;rw [if_neg hb] at hs;simp [PG,-V,-y3,-y0,J,e3,m3,e7,e9,fa,ub,hh,ng];refine ih fa _ ⟨?_,?_,?_,?_,hs⟩ <;> simp [e3,m3,e7]
     ·have ga:¬ (i:Int)<l.length:=by omega
      simp [PG,-V,-y3,-y0,J,e7,e9,fa];refine hk _ _ (.inl ⟨rfl,?_⟩);rw [<- hs,show l.length - i=0 from by omega,bF]
    ·simp
    ·rcases h with ⟨rfl,h1⟩ | ⟨rfl,h1⟩ <;> simp [-V,-y3,-y0,J,h1]
section
set_option maxHeartbeats 2000000
def Vl.of (k:Int) (b:Bool) (i:Int) (s:ByteArray) (d:Int):Vl:=.mk k b i s d true [] true [] true []
theorem LA (k:Int) (b:Bool) (i:Int) (s:ByteArray) (d:Int):zA (.of k b i s d)=[.int .i64 k,.bool b,.int .i64 i,.str s,.int .i64 d,.sl true [],.sl true [],.sl true []]:=by
 rw [uA];rfl
def GA (l:List jC) (z:Int):jC:=match l[z.toNat]? with
 | some x=>x
 | none=>⟨0,0,0,0,true,[]⟩
def inK (l:List jC) (t:Int):Int:=if dC l t=8/\aK l 0<0 then 7 else dC l t
def idAt (a code:Int):Int:=(qF a)[(code % (qF a).length).toNat]?.getD 0
def LJ (l:List jC) (t code:Int):Vl × Bool :=
 if dC l t=5\/dC l t=6 then (.of 0 false 0 ⟨#[]⟩ 0,false) else
 (.of (inK l t) (decide (dC l t=1/\code % 2=1)) (if dC l t=2 then (GA l t).low + code % ((GA l t).b % 6 + 1) else 0) (if dC l t=3/\0<(GA l t).a % 4/\code % 2=1 then ⟨#[97]⟩ else ⟨#[]⟩) (if dC l t=4 then idAt (GA l t).a code else 0),true)
theorem xS (a:Int):1<=(qF a).length/\(qF a).length<=6:=by
 have:=rW a 6;unfold qF;split
 ·simp
 ·rename_i h;refine ⟨?_,this⟩;cases h2:eW a 6 with
  | nil=>exact absurd h2 h
  | cons=>simp
theorem initial_ev (dn:Bool) (l:List jC) (hl:oks l) (t:Int) (pb:0<=t) (za:t<l.length) (code:Int) (hc:u8 code):fA 142 [.agg (OF dn l),.int .i64 t,.int .u8 code] (.tup [.agg (zA (LJ l t code).1),.bool (LJ l t code).2]):=by
 refine wA (c:=SB) rfl rfl ?_;have zb:=cH (dn:=dn) hl pb za;have su:=E7 hl pb za;have bc:=key_ev dn l hl 0 ⟨by omega,by omega⟩;have fa:t.toNat<l.length:=by omega
 have g:l[t.toNat]?=some l[t.toNat]:=y4 fa;have hx:(GA l t).ok:=by rw [GA,g]; exact hl.2.2 _ (y6 fa)
 have gm:(l.map HC)[t.toNat]?=some (HC (GA l t)):=by rw [GA,g]; simp [g]
 obtain ⟨hc0,pq⟩:=hc;unfold LJ inK;generalize GA l t=x at *
 generalize dC l t=kk at *
 have oe:=low_ev x hx;have wk:=high_ev x hx;have zg:=ids7_ev x hx;have hlr:-3<=x.low/\x.low<=3:=by have:=hx.2.1; simp only [jC.low,u8] at *; omega
 have hhr:x.low<=x.high/\x.high<=x.low + 5:=by have:=hx.2.2.1; simp only [jC.high,u8] at *; omega
 have hd:x.high - x.low + 1=x.b % 6 + 1:=by simp only [jC.high]; omega
 have bj:IntKind.i64.wrap code=code:=IntWalk.i64_in _ (by omega);have hws:IntKind.i64.wrap (x.high - x.low)=x.high - x.low:=IntWalk.i64_in _ (by omega);have hws1:IntKind.i64.wrap (x.high - x.low + 1)=x.high - x.low + 1:=IntWalk.i64_in _ (by omega);have hm:code.tmod (x.high - x.low + 1)=code % (x.b % 6 + 1):=by rw [hd]; exact yy hc0
 have hmz:=yL code (b:=x.b % 6 + 1) (by omega);have uq:=yQ code (b:=x.b % 6 + 1) (by omega);have hwl:IntKind.i64.wrap (x.low + code % (x.b % 6 + 1))=x.low + code % (x.b % 6 + 1):=IntWalk.i64_in _ (by omega);have oa:¬ x.high - x.low + 1=0:=by omega
 have uf:code.tmod 2=code % 2:=yy hc0;have nv:x.a.tmod 4=x.a % 4:=yy hx.2.1.1;simp only [fA,OF,HC] at zb bc gm oe wk zg ⊢;have hk:kk=1\/kk=2\/kk=3\/kk=4\/kk=5\/kk=6\/kk=7\/kk=8\/kk=9:=by omega
 rcases hk with rfl | rfl | rfl | rfl | rfl | rfl | rfl | rfl | rfl
 ·simp [SB,-V,-y3,-y0,J,gm,pb,zb,uf,LA]
 ·generalize code % (x.b % 6 + 1)=y at *
  simp [SB,-V,-y3,-y0,J,gm,pb,zb,LA,oe,wk,bj,hws,hws1,hm,oa,hwl]
 ·by_cases c1:0<x.a % 4 <;> by_cases c2:code % 2=1 <;> simp [SB,-V,-y3,-y0,J,gm,pb,zb,uf,nv,c1,c2,LA]
 ·have og:=xS x.a;have hmi:code.tmod (qF x.a).length=code % (qF x.a).length:=yy hc0;have ec:=yL code (b:=((qF x.a).length:Int)) (by omega);have bo:=yQ code (b:=((qF x.a).length:Int)) (by omega);have pg:¬ ((qF x.a).length:Int)=0:=by omega
  unfold idAt;generalize code % ((qF x.a).length:Int)=z at *
  have gz:(qF x.a)[z.toNat]?=some (qF x.a)[z.toNat]:=y4 (by omega);have gi:((qF x.a).map LK)[z.toNat]?=some [.int .i64 (qF x.a)[z.toNat]]:=by rw [yc,gz]; rfl
  rw [gz];generalize (qF x.a)[z.toNat]=y at *
  have hlm:((qF x.a).map LK).length=(qF x.a).length:=by simp
  generalize (qF x.a).map LK=M at *
  obtain ⟨N,hN⟩:∃ N:Int,N=(qF x.a).length:=⟨_,rfl⟩;rw [<- hN] at hmi pg;simp [SB,-V,-y3,-y0,J,gm,pb,zb,LA,zg,bj,hlm,<- hN,hmi,pg,ec,gi]
 ·simp [SB,-V,-y3,-y0,J,gm,pb,zb,LA]
 ·simp [SB,-V,-y3,-y0,J,gm,pb,zb,LA]
 ·simp [SB,-V,-y3,-y0,J,gm,pb,zb,LA]
 ·by_cases c1:aK l 0<0 <;> simp [SB,-V,-y3,-y0,J,gm,pb,zb,bc,c1,LA]
 ·simp [SB,-V,-y3,-y0,J,gm,pb,zb,LA]
end
def F7 (m:Nat) (v:AV):Prop:=∀ t n,m<=n->v.kill0 t n=v
def lowV (m:Nat) (v:AV):Prop:=∀ t n,m<=n->v.kill t n=v
theorem FI {m m':Nat} (h:m<=m') {v:AV} (hv:lowV m v):lowV m' v:=fun t n hn=>hv t n (yC h hn)
theorem low0_ptr {m t n o:Nat} (h:n<m):F7 m (.ptr t n o):=fun t' n' h'=>by simp only [AV.kill0]; rw [if_neg (by omega)]
theorem G7 {m t n z o l c:Nat} (h:n<m):F7 m (.ref t n z o l c):=fun t' n' h'=>by simp only [AV.kill0]; rw [if_neg (by omega)]
theorem qQ {m:Nat} {v:AV} (h:v.free0=true):F7 m v:=fun t n _=>iX h t n
theorem xN {m:Nat} {v:AV} (h:v.free=true):lowV m v:=fun t n _=>u0 h t n
theorem lowV_of {m:Nat} {v:AV} (h:F7 m v):(v.leaf=true)->lowV m v:=fun hl t n hn=>by
 have:=h t n hn;cases v <;> first | exact this | (simp [AV.leaf] at hl; done)
theorem fX {m:Nat} {cs:List AV} (h:∀ c∈cs,F7 m c):lowV m (.agg cs):=fun t n hn=>by
 have:cs.map (AV.kill0 t n)=cs.map id:=ym fun c hc=>h c hc t n hn
 rw [List.map_id] at this;exact congrArg AV.agg this
theorem fC {m t n o:Nat} (h:n<m):lowV m (.ptr t n o):=low0_ptr h
theorem cN {m t n z o l c:Nat} (h:n<m):lowV m (.ref t n z o l c):=G7 h
theorem wQ {m t n:Nat} (hn:m<=n) {v:AV} (hv:lowV m v):v.kill t n=v:=hv t n hn
theorem kill0_comm (v:AV) (t n t' n':Nat):(v.kill0 t n).kill0 t' n'=(v.kill0 t' n').kill0 t n:=by
 cases v with
 | ptr a b o=>by_cases h1:(a=t/\b=n) <;> by_cases h2:(a=t'/\b=n') <;> first | (simp only [AV.kill0,if_pos h1,if_pos h2]; done) | (simp only [AV.kill0,if_pos h1,if_neg h2]; done) | (simp only [AV.kill0,if_neg h1,if_pos h2]; done) | (simp only [AV.kill0,if_neg h1,if_neg h2]; done)
 | ref a b z o l c=>by_cases h1:(a=t/\b=n) <;> by_cases h2:(a=t'/\b=n') <;> first | (simp only [AV.kill0,if_pos h1,if_pos h2]; done) | (simp only [AV.kill0,if_pos h1,if_neg h2]; done) | (simp only [AV.kill0,if_neg h1,if_pos h2]; done) | (simp only [AV.kill0,if_neg h1,if_neg h2]; done)
 | mp a b=>by_cases h1:(a=t/\b=n) <;> by_cases h2:(a=t'/\b=n') <;> first | (simp only [AV.kill0,if_pos h1,if_pos h2]; done) | (simp only [AV.kill0,if_pos h1,if_neg h2]; done) | (simp only [AV.kill0,if_neg h1,if_pos h2]; done) | (simp only [AV.kill0,if_neg h1,if_neg h2]; done)
 | _=>rfl
theorem fP (l:List AV) (t n t' n':Nat):(l.map (AV.kill0 t n)).map (AV.kill0 t' n')=(l.map (AV.kill0 t' n')).map (AV.kill0 t n):=by
 rw [y0,y0];exact ym fun x _=>kill0_comm x t n t' n'
theorem kill1_comm (v:AV) (t n t' n':Nat):(v.kill1 t n).kill1 t' n'=(v.kill1 t' n').kill1 t n:=by
 cases v with
 | agg cs=>exact congrArg AV.agg (fP cs t n t' n')
 | ptr a b o=>by_cases h1:(a=t/\b=n) <;> by_cases h2:(a=t'/\b=n') <;> first | (simp only [AV.kill1,AV.kill0,if_pos h1,if_pos h2]; done) | (simp only [AV.kill1,AV.kill0,if_pos h1,if_neg h2]; done) | (simp only [AV.kill1,AV.kill0,if_neg h1,if_pos h2]; done) | (simp only [AV.kill1,AV.kill0,if_neg h1,if_neg h2]; done)
 | ref a b z o l c=>by_cases h1:(a=t/\b=n) <;> by_cases h2:(a=t'/\b=n') <;> first | (simp only [AV.kill1,AV.kill0,if_pos h1,if_pos h2]; done) | (simp only [AV.kill1,AV.kill0,if_pos h1,if_neg h2]; done) | (simp only [AV.kill1,AV.kill0,if_neg h1,if_pos h2]; done) | (simp only [AV.kill1,AV.kill0,if_neg h1,if_neg h2]; done)
 | mp a b=>by_cases h1:(a=t/\b=n) <;> by_cases h2:(a=t'/\b=n') <;> first | (simp only [AV.kill1,AV.kill0,if_pos h1,if_pos h2]; done) | (simp only [AV.kill1,AV.kill0,if_pos h1,if_neg h2]; done) | (simp only [AV.kill1,AV.kill0,if_neg h1,if_pos h2]; done) | (simp only [AV.kill1,AV.kill0,if_neg h1,if_neg h2]; done)
 | _=>rfl
theorem kill_comm (v:AV) (t n t' n':Nat):(v.kill t n).kill t' n'=(v.kill t' n').kill t n:=by
 cases v with
 | agg cs=>exact congrArg AV.agg (fP cs t n t' n')
 | fn f cs=>exact congrArg (AV.fn f) (fP cs t n t' n')
 | tup vs =>
  refine congrArg AV.tup ?_;rw [y0,y0];exact ym fun x _=>kill1_comm x t n t' n'
 | ptr a b o=>by_cases h1:(a=t/\b=n) <;> by_cases h2:(a=t'/\b=n') <;> first | (simp only [AV.kill,AV.kill0,if_pos h1,if_pos h2]; done) | (simp only [AV.kill,AV.kill0,if_pos h1,if_neg h2]; done) | (simp only [AV.kill,AV.kill0,if_neg h1,if_pos h2]; done) | (simp only [AV.kill,AV.kill0,if_neg h1,if_neg h2]; done)
 | ref a b z o l c=>by_cases h1:(a=t/\b=n) <;> by_cases h2:(a=t'/\b=n') <;> first | (simp only [AV.kill,AV.kill0,if_pos h1,if_pos h2]; done) | (simp only [AV.kill,AV.kill0,if_pos h1,if_neg h2]; done) | (simp only [AV.kill,AV.kill0,if_neg h1,if_pos h2]; done) | (simp only [AV.kill,AV.kill0,if_neg h1,if_neg h2]; done)
 | mp a b=>by_cases h1:(a=t/\b=n) <;> by_cases h2:(a=t'/\b=n') <;> first | (simp only [AV.kill,AV.kill0,if_pos h1,if_pos h2]; done) | (simp only [AV.kill,AV.kill0,if_pos h1,if_neg h2]; done) | (simp only [AV.kill,AV.kill0,if_neg h1,if_pos h2]; done) | (simp only [AV.kill,AV.kill0,if_neg h1,if_neg h2]; done)
 | _=>rfl
theorem aV {m t n:Nat} {v:AV} (hv:lowV m v):lowV m (v.kill t n):=fun t' n' h=>by rw [kill_comm,hv t' n' h]
def pB (m:Nat) (e:Nat->qA):Prop:=∀ t,lowV m (e t).v
def dL (m:Nat) (M:Nat->Nat->Option (List qA)):Prop:=∀ t n r,M t n=some r->∀ x∈r,lowV m x.v
def xC (m:Nat) (M0 M:Nat->Nat->Option (List qA)):Prop:=∀ t n,n<m->M t n=M0 t n
theorem pB.put {m:Nat} {e:Nat->qA} {d:Nat} {x:qA} (h:pB m e) (hx:lowV m x.v):pB m (putE e d x):=fun t=>by
 rw [qG];split
 ·exact hx
 ·exact h t
theorem pB.mono {m m':Nat} (hm:m<=m') {e:Nat->qA} (h:pB m e):pB m' e:=fun t=>FI hm (h t)
theorem pB.kill {m:Nat} {e:Nat->qA} (h:pB m e) {t n:Nat}:pB m (iV t n e):=fun j=>by
 rw [eB,qA.kill_v];exact aV (h j)
theorem pB.same {m:Nat} {e:Nat->qA} (h:pB m e) {t n:Nat} (hn:m<=n):iV t n e=e:=funext fun j=>by
 rw [eB];show (⟨(e j).v.kill t n,(e j).a⟩:qA)=e j;rw [wQ hn (h j)]
theorem dL.set {m:Nat} {M:Nat->Nat->Option (List qA)} {t n:Nat} {r:List qA} (h:dL m M) (hr:∀ x∈r,lowV m x.v):dL m (XV M t n r):=fun t' n' r' he=>by
 rw [DA] at he;split at he
 ·injection he with he; subst he; exact hr
 ·exact h t' n' r' he
theorem dL.mono {m m':Nat} (hm:m<=m') {M:Nat->Nat->Option (List qA)} (h:dL m M):dL m' M:=fun t n r he x hx=>FI hm (h t n r he x hx)
theorem dL.kill {m:Nat} {M:Nat->Nat->Option (List qA)} (h:dL m M) {t n:Nat}:dL m (pV t n M):=fun t' n' r' he x hx=>by
 rw [tB] at he;split at he
 ·cases he
 ·obtain ⟨r,hr,rfl⟩:=yf.1 he;obtain ⟨y,hy,rfl⟩:=yA.1 hx;rw [qA.kill_v];exact aV (h t' n' r hr y hy)
theorem xC.refl {m:Nat} {M:Nat->Nat->Option (List qA)}:xC m M M:=fun _ _ _=>rfl
theorem xC.set {m:Nat} {M0 M:Nat->Nat->Option (List qA)} {t n:Nat} {r:List qA} (h:xC m M0 M) (hn:m<=n):xC m M0 (XV M t n r):=fun t' n' h'=>by
 rw [DA,if_neg (by omega)];exact h t' n' h'
theorem xC.kill {m:Nat} {M0 M:Nat->Nat->Option (List qA)} (h:xC m M0 M) (h0:dL m M0) {t n:Nat} (hn:m<=n):xC m M0 (pV t n M):=fun t' n' h'=>by
 rw [tB,if_neg (by omega),h t' n' h'];cases hr:M0 t' n' with
 | none=>rfl
 | some r =>
  refine congrArg some ?_;have:r.map (qA.kill t n)=r.map id:=ym fun x hx=>by
   show (⟨x.v.kill t n,x.a⟩:qA)=x;rw [wQ hn (h0 t' n' r hr x hx)]
  rwa [List.map_id] at this
theorem K2 {m:Nat} {l:List (List AV)} (h:∀ c∈l,∀ v∈c,F7 m v) (h2:∀ c∈l,∀ v∈c,v.leaf=true):∀ x∈sA l,lowV m x.v:=fun x hx=>by
 obtain ⟨v,hv,rfl⟩:=yA.1 hx;obtain ⟨c,hc,hv⟩:=List.mem_flatten.1 hv;exact lowV_of (h c hc v hv) (h2 c hc v hv)
theorem K9 {v:AV} (h:v.free0=true):v.leaf=true:=by
 cases v <;> first | rfl | (simp [AV.free0] at h; done)
theorem LD {m:Nat} {l:List (List AV)} (h:nD l=true):∀ x∈sA l,lowV m x.v :=
 K2 (fun c hc v hv=>qQ (y5.1 (y5.1 h c hc) v hv)) (fun c hc v hv=>K9 (y5.1 (y5.1 h c hc) v hv))
structure Calm (m:Nat) (s0 s:pA):Prop where
 mem:xC m s0.mem s.mem
 gh:s.gh=s0.gh
 obj:s.obj=s0.obj
 next:m<=s.next
 low:dL s.next s.mem
section
set_option maxHeartbeats 4000000
def bN (id:Int):ByteArray:=⟨#[109]⟩++Utf8.encode (97 + id)
def xJ (l:List jC) (i id:Int) (p:KP):Bool:=decide (1 + p.id % 12=id/\0<=PI l i p.ty)
def TL (l:List jC) (i:Int) (rc:Bool) (id:Int) (p:KP):uC :=
 ⟨id,bN id,PI l i p.ty,rc&&decide (p.flag % 4=1),rc&&decide (2<=p.flag % 4)&&(LJ l (PI l i p.ty) (p.flag / 4)).2,if (rc&&decide (2<=p.flag % 4))=true then (LJ l (PI l i p.ty) (p.flag / 4)).1 else Vl.zero⟩
def lP (l:List jC) (i:Int) (rc:Bool) (id:Int) (ps:List KP):List uC:=match ps.find? (xJ l i id) with
 | some p=>[TL l i rc id p]
 | none=>[]
def QJ (l:List jC) (i:Int) (rc:Bool) (ps:List KP):Nat->List uC
 | 0=>[]
 | n + 1=>QJ l i rc ps n++lP l i rc ((n + 1:Nat):Int) ps
def PE (l:List jC) (i:Int) (rc:Bool) (ps:List KP):List uC:=QJ l i rc ps 12
theorem memAt_len (l:List jC) (i:Int) (rc:Bool) (id:Int) (ps:List KP):(lP l i rc id ps).length<=1:=by
 unfold lP;split <;> simp
theorem CM (l:List jC) (i:Int) (rc:Bool) (ps:List KP):∀ n,(QJ l i rc ps n).length<=n
 | 0=>yn _
 | n + 1=>by
  have:=CM l i rc ps n;have:=memAt_len l i rc ((n + 1:Nat):Int) ps;rw [QJ,yp];omega
def gW (n0:Nat) (ms:List uC) (x:qA) (s:pA):Prop :=
 (ms=[]/\x.v=.sl true []/\x.a=.ex)\/∃ N,ms≠[]/\n0<=N/\N<s.next/\x.v=.ref 88 N 13 0 ms.length ms.length/\s.mem 88 N=some (sA (ms.map bA))
structure MK (n0:Nat) (s0:pA) (dn:Bool) (l:List jC) (i0:Int) (rc:Bool) (x:jC) (id:Int) (ms:List uC) (s:pA):Prop where
 e1:(s.env 1).v=.int .i64 i0
 e2:(s.env 2).v=.bool rc
 e3:(s.env 3).v=.ptr 3 n0 0
 m3:s.mem 3 n0=some [⟨.sl dn (l.map HC),.no⟩]
 e7:(s.env 7).v=.ptr 7 (n0 + 1) 0
 m7:s.mem 7 (n0 + 1)=some [⟨.int .u8 x.k,.no⟩,⟨.int .u8 x.a,.no⟩,⟨.int .u8 x.b,.no⟩,⟨.int .u8 x.c,.no⟩,⟨.sl x.pn (x.parts.map GD),.no⟩]
 e9:(s.env 9).v=.int .i64 id
 lst:gW n0 ms (s.env 8) s
 calm:Calm n0 s0 s
 lt:n0 + 1<s.next
theorem gW.of {n0:Nat} {ms:List uC} {x x':qA} {s s':pA} (h:gW n0 ms x s) (hx:x'=x) (hm:∀ N,s'.mem 88 N=s.mem 88 N) (hn:s.next<=s'.next):gW n0 ms x' s':=by
 subst hx;rcases h with h | ⟨N,h1,h2,h3,h4,h5⟩
 ·exact .inl h
 ·exact .inr ⟨N,h1,h2,yZ h3 hn,h4,(hm N).trans h5⟩
theorem aA {m:Nat} {r:List qA} (h:r.all (fun x=>x.v.free)=true:=by simp [AV.free,AV.free0]):∀ x∈r,lowV m x.v:=fun x hx=>xN (y5.1 h x hx)
theorem OW (n:Int):(Utf8.encode n).size<=4:=by
 unfold Utf8.encode;dsimp only;generalize (if Utf8.valid n=true then n.toNat else Utf8.runeError)=c;split
 ·exact (by decide:(1:Nat)<=4)
 ·split
  ·exact (by decide:(2:Nat)<=4)
  ·split
   ·exact (by decide:(3:Nat)<=4)
   ·exact (by decide:(4:Nat)<=4)
theorem BW (n:Int) (h:-2147483648<=n/\n<=2147483647):IntKind.i32.wrap n=n:=by
 simp [IntKind.wrap,IntKind.bits,IntKind.signed];omega
theorem parts_in {r:RV} {n0:Nat} {s0:pA} {dn:Bool} {l:List jC} (hl:oks l) {i0:Int} (zi:0<=i0) (kf:i0<l.length) {rc:Bool} {x:jC} (hx:x.ok) (hM:dL n0 s0.mem) (hG:pB n0 s0.gh) {id:Int} (HZ:1<=id/\id<=12) {ms:List uC} (wq:ms.length<=12) (s:pA) (k:Ex->pA->Option RV) (h:MK n0 s0 dn l i0 rc x id ms s) (br:(s.env 10).v=.int .i64 0)
  (hk:∀ s',MK n0 s0 dn l i0 rc x id (ms++lP l i0 rc id x.parts) s'->k (.exit 2) s'=some r):TH gA eA dB s k=some r:=by
 refine lA x.parts.length (fun j s=>MK n0 s0 dn l i0 rc x id ms s/\(s.env 10).v=.int .i64 j/\(x.parts.drop j).find? (xJ l i0 id)=x.parts.find? (xJ l i0 id))
  (fun e s=>e=.exit 2/\MK n0 s0 dn l i0 rc x id (ms++lP l i0 rc id x.parts) s) (fun j hj s k h ih hk=>?_) s k ⟨h,by simpa using br,rfl⟩ (fun e s h=>by obtain ⟨rfl,h⟩:=h; exact hk s h)
 obtain ⟨⟨e1,e2,e3,m3,e7,m7,e9,lst,calm,lt⟩,e10,hf⟩:=h;have wo:=hx.2.2.2.2.1;refine tA ?_;by_cases fa:j<x.parts.length
 ·have ga:(j:Int)<x.parts.length:=by omega
  have rx:=ZA (i:=j);have hp:=hx.2.2.2.2.2 _ (y6 fa);have g1:(x.parts.map GD)[j]?=some (GD x.parts[j]):=by simp [fa]
  rw [y9 fa,List.find?_cons] at hf;generalize x.parts[j]=p at *
  simp only [GD] at g1;have du:=target_ev dn l hl i0 zi kf p.ty hp.2.1;have hti:=GP hl i0 p.ty kf;have gq:=fun pb=>initial_ev dn l hl (PI l i0 p.ty) pb hti.2 (p.flag / 4) ⟨by have:=hp.2.2.1; omega,by have:=hp.2.2.2; omega⟩
  simp only [fA,OF] at du gq;have bi:p.id.tmod 12=p.id % 12:=yy hp.1.1;have jk:IntKind.i64.wrap (p.id % 12)=p.id % 12:=IntWalk.i64_in _ (by omega);have dh:IntKind.i64.wrap (1 + p.id % 12)=1 + p.id % 12:=IntWalk.i64_in _ (by omega);have uj:IntKind.i64.wrap id=id:=IntWalk.i64_in _ (by omega);obtain ⟨z,hz⟩:∃ z:Int,z=j:=⟨_,rfl⟩;have ec:0<=z:=by omega
  have xq:IntKind.i64.wrap (z + 1)=((j + 1:Nat):Int):=by rw [hz]; exact rx
  rw [<- hz] at e10 ga;rw [show j=z.toNat from by omega] at g1;have calm':=calm;obtain ⟨cm,cg,co,cn,cl⟩:=calm;have next:∀ s',MK n0 s0 dn l i0 rc x id ms s'->(s'.env 10).v=.int .i64 ((j + 1:Nat):Int)->xJ l i0 id p=false->TH gA eA dB s' k=some r:=fun s' h1 h2 h3=>by
   rw [h3] at hf;exact ih fa s' ⟨h1,h2,hf⟩
  by_cases c1:1 + p.id % 12=id
  ·by_cases c2:PI l i0 p.ty<0
   ·have ot:xJ l i0 id p=false:=by simp [xJ,c1]; omega
    simp [dB,-V,-y3,-y0,J,e1,e2,e3,m3,e7,m7,e9,e10,ga,g1,ec,du,bi,jk,dh,c1,c2,xq,uj];refine next _ ⟨?_,?_,?_,?_,?_,?_,?_,lst.of ?_ ?_ ?_,⟨?_,?_,?_,?_,?_⟩,?_⟩ ?_ ot
    ·simp [e1]
    ·simp [e2]
    ·simp [e3]
    ·simp [DA,m3]
    ·simp [e7]
    ·simp [DA,m7]
    ·simp [e9]
    ·simp
    ·intro N; simp [DA]
    ·simp only; omega
    ·exact (cm.set (by omega)).set (by omega)
    ·exact cg
    ·exact co
    ·simp only; omega
    ·exact ((cl.mono (by dsimp only; omega)).set aA).set aA
    ·simp only; omega
    ·simp
   ·have hip:xJ l i0 id p=true:=by simp [xJ,c1]; omega
    rw [hip] at hf;have dw:lP l i0 rc id x.parts=[TL l i0 rc id p]:=by rw [lP,<- hf]
    rw [dw] at hk;have gq:=gq (by omega);have hq4:p.flag.tmod 4=p.flag % 4:=yy hp.2.2.1;have hv4:p.flag.tdiv 4=p.flag / 4:=Int.tdiv_eq_ediv_of_nonneg hp.2.2.1;have zu:IntKind.u8.wrap (p.flag / 4)=p.flag / 4:=by have:=hp.2.2.1; have:=hp.2.2.2; simp [IntKind.wrap,IntKind.bits,IntKind.signed]; omega
    have kq:IntKind.i64.wrap (97 + id)=97 + id:=IntWalk.i64_in _ (by omega);have gv:IntKind.i32.wrap (97 + id)=97 + id:=BW _ (by omega);have dz:=OW (97 + id);have ic:(⟨#[109]⟩:ByteArray).size=1:=rfl;have ab:(⟨#[109]⟩:ByteArray).size + (Utf8.encode (97 + id)).size<=9223372036854775807:=by omega
    unfold TL bN at hk;generalize hE:Utf8.encode (97 + id)=nm at *
    generalize LJ l (PI l i0 p.ty) (p.flag / 4)=iz at *
    obtain ⟨iv,ib⟩:=iz;simp only [uA] at gq;generalize PI l i0 p.ty=t at *
    rcases lst with ⟨lm,l1,l2⟩ | ⟨N,lm,l1,l2,l3,l4⟩
    ·subst lm;have ja:uB 160 1=true:=by rw [TA]; omega
     cases rc with
     | false =>
      simp [dB,-V,-y3,-y0,J,e1,e2,e3,m3,e7,m7,e9,e10,ga,g1,ec,du,bi,jk,dh,c1,c2,uj,kq,gv,hE,ab,l1,ja,l2];refine hk _ _ ⟨rfl,?_,?_,?_,?_,?_,?_,?_,.inr ⟨s.next + 1 + 1 + 1 + 1 + 1 + 1 + 1,?_,?_,?_,?_,?_⟩,⟨?_,?_,?_,?_,?_⟩,?_⟩
      ·simp [e1]
      ·simp [e2]
      ·simp [e3]
      ·simp [DA,m3]
      ·simp [e7]
      ·simp [DA,m7]
      ·simp [e9]
      ·simp
      ·omega
      ·dsimp only; omega
      ·simp
      ·simp [DA,bA,Vl.zero,Vl.kind,Vl.b,Vl.i,Vl.s,Vl.id,Vl.kn,Vl.keys,Vl.xn,Vl.items,Vl.rn,Vl.rest]
      ·repeat (first | exact cm | refine xC.set ?_ (by omega) | refine xC.kill ?_ hM (by omega))
      ·exact cg
      ·exact co
      ·dsimp only; omega
      ·exact (((((cl.mono (by dsimp only; omega)).set aA).set aA).set aA).set aA).set (LD (by simp [nD,AV.free0,bA]))
      ·dsimp only; omega
     | true =>
      by_cases f1:p.flag % 4=1
      ·simp [dB,-V,-y3,-y0,J,e1,e2,e3,m3,e7,m7,e9,e10,ga,g1,ec,du,bi,jk,dh,c1,c2,uj,kq,gv,hE,ab,l1,ja,l2,hq4,f1];refine hk _ _ ⟨rfl,?_,?_,?_,?_,?_,?_,?_,.inr ⟨s.next + 1 + 1 + 1 + 1 + 1 + 1 + 1 + 1,?_,?_,?_,?_,?_⟩,⟨?_,?_,?_,?_,?_⟩,?_⟩
       ·simp [e1]
       ·simp [e2]
       ·simp [e3]
       ·simp [DA,m3]
       ·simp [e7]
       ·simp [DA,m7]
       ·simp [e9]
       ·simp
       ·omega
       ·dsimp only; omega
       ·simp
       ·simp [DA,bA,Vl.zero,Vl.kind,Vl.b,Vl.i,Vl.s,Vl.id,Vl.kn,Vl.keys,Vl.xn,Vl.items,Vl.rn,Vl.rest,f1]
       ·repeat (first | exact cm | refine xC.set ?_ (by omega) | refine xC.kill ?_ hM (by omega))
       ·exact cg
       ·exact co
       ·dsimp only; omega
       ·exact ((((((cl.mono (by dsimp only; omega)).set aA).set aA).set aA).set aA).set aA).set (LD (by simp [nD,AV.free0,bA]))
       ·dsimp only; omega
      ·by_cases f2:2<=p.flag % 4
       ·simp [dB,-V,-y3,-y0,J,e1,e2,e3,m3,e7,m7,e9,e10,ga,g1,ec,du,bi,jk,dh,c1,c2,uj,kq,gv,hE,ab,l1,ja,l2,hq4,f1,f2,hv4,zu,gq];refine hk _ _ ⟨rfl,?_,?_,?_,?_,?_,?_,?_,.inr ⟨s.next + 1 + 1 + 1 + 1 + 1 + 1 + 1 + 1,?_,?_,?_,?_,?_⟩,⟨?_,?_,?_,?_,?_⟩,?_⟩
        ·simp [e1]
        ·simp [e2]
        ·simp [e3]
        ·simp [DA,m3]
        ·simp [e7]
        ·simp [DA,m7]
        ·simp [e9]
        ·simp
        ·omega
        ·dsimp only; omega
        ·simp
        ·simp [DA,bA,Vl.zero,Vl.kind,Vl.b,Vl.i,Vl.s,Vl.id,Vl.kn,Vl.keys,Vl.xn,Vl.items,Vl.rn,Vl.rest,f1,f2]
        ·repeat (first | exact cm | refine xC.set ?_ (by omega) | refine xC.kill ?_ hM (by omega))
        ·exact cg
        ·exact co
        ·dsimp only; omega
        ·exact (((((((cl.mono (by dsimp only; omega)).set aA).set aA).set aA).set aA).set aA).set aA).set (LD (by simp [nD,AV.free0,bA]))
        ·dsimp only; omega
       ·simp [dB,-V,-y3,-y0,J,e1,e2,e3,m3,e7,m7,e9,e10,ga,g1,ec,du,bi,jk,dh,c1,c2,uj,kq,gv,hE,ab,l1,ja,l2,hq4,f1,f2];refine hk _ _ ⟨rfl,?_,?_,?_,?_,?_,?_,?_,.inr ⟨s.next + 1 + 1 + 1 + 1 + 1 + 1 + 1,?_,?_,?_,?_,?_⟩,⟨?_,?_,?_,?_,?_⟩,?_⟩
        ·simp [e1]
        ·simp [e2]
        ·simp [e3]
        ·simp [DA,m3]
        ·simp [e7]
        ·simp [DA,m7]
        ·simp [e9]
        ·simp
        ·omega
        ·dsimp only; omega
        ·simp
        ·simp [DA,bA,Vl.zero,Vl.kind,Vl.b,Vl.i,Vl.s,Vl.id,Vl.kn,Vl.keys,Vl.xn,Vl.items,Vl.rn,Vl.rest,f1,f2]
        ·repeat (first | exact cm | refine xC.set ?_ (by omega) | refine xC.kill ?_ hM (by omega))
        ·exact cg
        ·exact co
        ·dsimp only; omega
        ·exact (((((cl.mono (by dsimp only; omega)).set aA).set aA).set aA).set aA).set (LD (by simp [nD,AV.free0,bA]))
        ·dsimp only; omega
    ·have uq:(ms.map bA).length=ms.length:=by simp
     have ja:uB 160 (ms.length + 1)=true:=by rw [TA]; omega
     have ud:=wW ms;have ax:nD (ms.map bA)=true:=KK bA ms fun m=>by simp [bA,AV.free0]
     have jg:sD (sA (ms.map bA)) 13 0 ms.length=some (ms.map bA):=by have:=nG ud ax; rwa [uq] at this
     cases rc with
     | false =>
      simp [dB,-V,-y3,-y0,J,e1,e2,e3,m3,e7,m7,e9,e10,ga,g1,ec,du,bi,jk,dh,c1,c2,uj,kq,gv,hE,ab,l3,ja,l4,jg];refine hk _ _ ⟨rfl,?_,?_,?_,?_,?_,?_,?_,.inr ⟨s.next + 1 + 1 + 1 + 1 + 1 + 1 + 1,?_,?_,?_,?_,?_⟩,⟨?_,?_,?_,?_,?_⟩,?_⟩
      ·simp [eB,tB,qA.kill_v,qA.kill_mk,AV.kill,AV.kill0,e1]
      ·simp [eB,tB,qA.kill_v,qA.kill_mk,AV.kill,AV.kill0,e2]
      ·simp [eB,tB,qA.kill_v,qA.kill_mk,AV.kill,AV.kill0,e3]
      ·simp [eB,tB,qA.kill_v,qA.kill_mk,AV.kill,AV.kill0,DA,m3]
      ·simp [eB,tB,qA.kill_v,qA.kill_mk,AV.kill,AV.kill0,e7]
      ·simp [eB,tB,qA.kill_v,qA.kill_mk,AV.kill,AV.kill0,DA,m7]
      ·simp [eB,tB,qA.kill_v,qA.kill_mk,AV.kill,AV.kill0,e9]
      ·simp
      ·omega
      ·dsimp only; omega
      ·simp
      ·simp [DA,bA,Vl.zero,Vl.kind,Vl.b,Vl.i,Vl.s,Vl.id,Vl.kn,Vl.keys,Vl.xn,Vl.items,Vl.rn,Vl.rest]
      ·repeat (first | exact cm | refine xC.set ?_ (by omega) | refine xC.kill ?_ hM (by omega))
      ·dsimp only; rw [cg]; exact hG.same (by omega)
      ·exact co
      ·dsimp only; omega
      ·exact ((((((cl.mono (by dsimp only; omega)).set aA).set aA).set aA).set aA).kill).set (LD (by simp [nD,AV.free0,bA]))
      ·dsimp only; omega
     | true =>
      by_cases f1:p.flag % 4=1
      ·simp [dB,-V,-y3,-y0,J,e1,e2,e3,m3,e7,m7,e9,e10,ga,g1,ec,du,bi,jk,dh,c1,c2,uj,kq,gv,hE,ab,l3,ja,l4,jg,hq4,f1];refine hk _ _ ⟨rfl,?_,?_,?_,?_,?_,?_,?_,.inr ⟨s.next + 1 + 1 + 1 + 1 + 1 + 1 + 1 + 1,?_,?_,?_,?_,?_⟩,⟨?_,?_,?_,?_,?_⟩,?_⟩
       ·simp [eB,tB,qA.kill_v,qA.kill_mk,AV.kill,AV.kill0,e1]
       ·simp [eB,tB,qA.kill_v,qA.kill_mk,AV.kill,AV.kill0,e2]
       ·simp [eB,tB,qA.kill_v,qA.kill_mk,AV.kill,AV.kill0,e3]
       ·simp [eB,tB,qA.kill_v,qA.kill_mk,AV.kill,AV.kill0,DA,m3]
       ·simp [eB,tB,qA.kill_v,qA.kill_mk,AV.kill,AV.kill0,e7]
       ·simp [eB,tB,qA.kill_v,qA.kill_mk,AV.kill,AV.kill0,DA,m7]
       ·simp [eB,tB,qA.kill_v,qA.kill_mk,AV.kill,AV.kill0,e9]
       ·simp
       ·omega
       ·dsimp only; omega
       ·simp
       ·simp [DA,bA,Vl.zero,Vl.kind,Vl.b,Vl.i,Vl.s,Vl.id,Vl.kn,Vl.keys,Vl.xn,Vl.items,Vl.rn,Vl.rest,f1]
       ·repeat (first | exact cm | refine xC.set ?_ (by omega) | refine xC.kill ?_ hM (by omega))
       ·dsimp only; rw [cg]; exact hG.same (by omega)
       ·exact co
       ·dsimp only; omega
       ·exact (((((((cl.mono (by dsimp only; omega)).set aA).set aA).set aA).set aA).set aA).kill).set (LD (by simp [nD,AV.free0,bA]))
       ·dsimp only; omega
      ·by_cases f2:2<=p.flag % 4
       ·simp [dB,-V,-y3,-y0,J,e1,e2,e3,m3,e7,m7,e9,e10,ga,g1,ec,du,bi,jk,dh,c1,c2,uj,kq,gv,hE,ab,l3,ja,l4,jg,hq4,f1,f2,hv4,zu,gq];refine hk _ _ ⟨rfl,?_,?_,?_,?_,?_,?_,?_,.inr ⟨s.next + 1 + 1 + 1 + 1 + 1 + 1 + 1 + 1,?_,?_,?_,?_,?_⟩,⟨?_,?_,?_,?_,?_⟩,?_⟩
        ·simp [eB,tB,qA.kill_v,qA.kill_mk,AV.kill,AV.kill0,e1]
        ·simp [eB,tB,qA.kill_v,qA.kill_mk,AV.kill,AV.kill0,e2]
        ·simp [eB,tB,qA.kill_v,qA.kill_mk,AV.kill,AV.kill0,e3]
        ·simp [eB,tB,qA.kill_v,qA.kill_mk,AV.kill,AV.kill0,DA,m3]
        ·simp [eB,tB,qA.kill_v,qA.kill_mk,AV.kill,AV.kill0,e7]
        ·simp [eB,tB,qA.kill_v,qA.kill_mk,AV.kill,AV.kill0,DA,m7]
        ·simp [eB,tB,qA.kill_v,qA.kill_mk,AV.kill,AV.kill0,e9]
        ·simp
        ·omega
        ·dsimp only; omega
        ·simp
        ·simp [DA,bA,Vl.zero,Vl.kind,Vl.b,Vl.i,Vl.s,Vl.id,Vl.kn,Vl.keys,Vl.xn,Vl.items,Vl.rn,Vl.rest,f1,f2]
        ·repeat (first | exact cm | refine xC.set ?_ (by omega) | refine xC.kill ?_ hM (by omega))
        ·dsimp only; rw [cg]; exact hG.same (by omega)
        ·exact co
        ·dsimp only; omega
        ·exact ((((((((cl.mono (by dsimp only; omega)).set aA).set aA).set aA).set aA).set aA).set aA).kill).set (LD (by simp [nD,AV.free0,bA]))
        ·dsimp only; omega
       ·simp [dB,-V,-y3,-y0,J,e1,e2,e3,m3,e7,m7,e9,e10,ga,g1,ec,du,bi,jk,dh,c1,c2,uj,kq,gv,hE,ab,l3,ja,l4,jg,hq4,f1,f2];refine hk _ _ ⟨rfl,?_,?_,?_,?_,?_,?_,?_,.inr ⟨s.next + 1 + 1 + 1 + 1 + 1 + 1 + 1,?_,?_,?_,?_,?_⟩,⟨?_,?_,?_,?_,?_⟩,?_⟩
        ·simp [eB,tB,qA.kill_v,qA.kill_mk,AV.kill,AV.kill0,e1]
        ·simp [eB,tB,qA.kill_v,qA.kill_mk,AV.kill,AV.kill0,e2]
        ·simp [eB,tB,qA.kill_v,qA.kill_mk,AV.kill,AV.kill0,e3]
        ·simp [eB,tB,qA.kill_v,qA.kill_mk,AV.kill,AV.kill0,DA,m3]
        ·simp [eB,tB,qA.kill_v,qA.kill_mk,AV.kill,AV.kill0,e7]
        ·simp [eB,tB,qA.kill_v,qA.kill_mk,AV.kill,AV.kill0,DA,m7]
        ·simp [eB,tB,qA.kill_v,qA.kill_mk,AV.kill,AV.kill0,e9]
        ·simp
        ·omega
        ·dsimp only; omega
        ·simp
        ·simp [DA,bA,Vl.zero,Vl.kind,Vl.b,Vl.i,Vl.s,Vl.id,Vl.kn,Vl.keys,Vl.xn,Vl.items,Vl.rn,Vl.rest,f1,f2]
        ·repeat (first | exact cm | refine xC.set ?_ (by omega) | refine xC.kill ?_ hM (by omega))
        ·dsimp only; rw [cg]; exact hG.same (by omega)
        ·exact co
        ·dsimp only; omega
        ·exact ((((((cl.mono (by dsimp only; omega)).set aA).set aA).set aA).set aA).kill).set (LD (by simp [nD,AV.free0,bA]))
        ·dsimp only; omega
  ·have ot:xJ l i0 id p=false:=by simp [xJ,c1]
   simp [dB,-V,-y3,-y0,J,e1,e2,e3,m3,e7,m7,e9,e10,ga,g1,ec,du,bi,jk,dh,c1,xq];refine next _ ⟨?_,?_,?_,?_,?_,?_,?_,lst.of ?_ ?_ ?_,⟨?_,?_,?_,?_,?_⟩,?_⟩ ?_ ot
   ·simp [e1]
   ·simp [e2]
   ·simp [e3]
   ·simp [DA,m3]
   ·simp [e7]
   ·simp [DA,m7]
   ·simp [e9]
   ·simp
   ·intro N; simp [DA]
   ·simp only; omega
   ·exact (cm.set (by omega)).set (by omega)
   ·exact cg
   ·exact co
   ·simp only; omega
   ·exact ((cl.mono (by dsimp only; omega)).set aA).set aA
   ·simp only; omega
   ·simp
 ·have ga:¬ (j:Int)<x.parts.length:=by omega
  simp [dB,-V,-y3,-y0,J,e7,m7,e10,fa];rw [ye (by omega),List.find?_nil] at hf;have hnil:lP l i0 rc id x.parts=[]:=by rw [lP,<- hf]
  refine hk _ _ ⟨rfl,?_⟩;rw [hnil,yN];obtain ⟨cm,cg,co,cn,cl⟩:=calm;refine ⟨?_,?_,?_,?_,?_,?_,?_,lst.of ?_ ?_ ?_,⟨?_,?_,?_,?_,?_⟩,?_⟩
  ·simp [e1]
  ·simp [e2]
  ·simp [e3]
  ·simp [m3]
  ·simp [e7]
  ·simp [m7]
  ·simp [e9]
  ·simp
  ·intro N; simp
  ·simp
  ·exact cm
  ·exact cg
  ·exact co
  ·simp only; omega
  ·exact cl.mono (by dsimp only; omega)
  ·simp only; omega
end
section
set_option maxHeartbeats 4000000
theorem MK.of {n0:Nat} {s0:pA} {dn:Bool} {l:List jC} {i0:Int} {rc:Bool} {x:jC} {id id':Int} {ms:List uC} {s s':pA} (h:MK n0 s0 dn l i0 rc x id ms s)
  (h1:(s'.env 1).v=(s.env 1).v) (h2:(s'.env 2).v=(s.env 2).v) (h3:(s'.env 3).v=(s.env 3).v) (h7:(s'.env 7).v=(s.env 7).v) (h8:s'.env 8=s.env 8) (h9:(s'.env 9).v=.int .i64 id') (hm:s'.mem=s.mem) (hg:s'.gh=s.gh) (ho:s'.obj=s.obj) (hn:s.next<=s'.next):MK n0 s0 dn l i0 rc x id' ms s':=by
 obtain ⟨e1,e2,e3,m3,e7,m7,e9,lst,⟨cm,cg,co,cn,cl⟩,lt⟩:=h;refine ⟨by rw [h1,e1],by rw [h2,e2],by rw [h3,e3],by rw [hm,m3],by rw [h7,e7],by rw [hm,m7],h9,lst.of h8 (fun N=>by rw [hm]) hn,⟨by rw [hm]; exact cm,by rw [hg,cg],by rw [ho,co],by omega,by rw [hm]; exact cl.mono hn⟩,by omega⟩
theorem j8 {r:RV} {dn:Bool} {l:List jC} (hl:oks l) {i0:Int} (zi:0<=i0) (kf:i0<l.length) {rc:Bool} {x:jC} (hx:l[i0.toNat]?=some x) {a1 a2 a3:An} (s0:pA) (hM:dL s0.next s0.mem) (hG:pB s0.next s0.gh) (k:qA->pA->Option RV)
  (hk:∀ y s',Calm s0.next s0 s'->gW s0.next (PE l i0 rc x.parts) y s'->k y s'=some r):i7 gA eA 92 [⟨.agg (OF dn l),a1⟩,⟨.int .i64 i0,a2⟩,⟨.bool rc,a3⟩] s0 k=some r:=by
 refine zH cK rfl rfl ?_;have hxo:x.ok:=hl.2.2 _ (yk hx);have g:(l.map HC)[i0.toNat]?=some (HC x):=by simp [hx]
 simp only [HC] at g;simp [cK,OF,-V,-y3,-y0,J,g,zi];refine lA 12 (fun i s=>MK s0.next s0 dn l i0 rc x ((i + 1:Nat):Int) (QJ l i0 rc x.parts i) s)
  (fun e s=>e=.exit 0/\∃ id,MK s0.next s0 dn l i0 rc x id (PE l i0 rc x.parts) s) (fun i hi s k' h ih hk=>?_) _ _ ?_ (fun e s h=>?_)
 ·refine tA ?_;by_cases fa:i<12
  ·have HZ:((i + 1:Nat):Int)<=12:=by omega
   have e9:=h.e9;have hw:IntKind.i64.wrap (((i + 1:Nat):Int) + 1)=((i + 1 + 1:Nat):Int):=ZA (by omega);obtain ⟨z,hz⟩:∃ z:Int,z=((i + 1:Nat):Int):=⟨_,rfl⟩;rw [<- hz] at e9 HZ hw;simp [qK,-V,-y3,-y0,J,e9,HZ];refine parts_in hl zi kf hxo hM hG (id:=z) (by omega) (yC (CM l i0 rc x.parts i) hi) _ _ (h.of ?_ ?_ ?_ ?_ ?_ ?_ ?_ ?_ ?_ ?_) ?_ (fun s' h'=>?_)
   ·simp
   ·simp
   ·simp
   ·simp
   ·simp
   ·simp [e9]
   ·rfl
   ·rfl
   ·rfl
   ·dsimp only; omega
   ·simp
   ·have e9':=h'.e9;simp [-V,-y3,-y0,J,e9',hw];rw [hz] at h';refine ih fa _ (MK.of (ms:=QJ l i0 rc x.parts (i + 1)) h' ?_ ?_ ?_ ?_ ?_ ?_ ?_ ?_ ?_ ?_)
    ·simp
    ·simp
    ·simp
    ·simp
    ·simp
    ·simp
    ·rfl
    ·rfl
    ·rfl
    ·dsimp only; omega
  ·have hi12:i=12:=by omega
   subst hi12;have e9:=h.e9;simp at e9;simp [qK,-V,-y3,-y0,J,e9];refine hk _ _ ⟨rfl,13,MK.of (id':=13) h ?_ ?_ ?_ ?_ ?_ ?_ ?_ ?_ ?_ ?_⟩
   ·simp
   ·simp
   ·simp
   ·simp
   ·simp
   ·simp [e9]
   ·rfl
   ·rfl
   ·rfl
   ·dsimp only; omega
 ·refine ⟨?_,?_,?_,?_,?_,?_,?_,.inl ⟨rfl,?_,?_⟩,⟨?_,?_,?_,?_,?_⟩,?_⟩
  ·simp
  ·simp
  ·simp
  ·simp [DA]
  ·simp
  ·simp [DA]
  ·simp
  ·simp
  ·simp
  ·exact (((xC.refl).set (by omega)).set (by omega)).set (by omega)
  ·rfl
  ·rfl
  ·dsimp only; omega
  ·exact (((hM.mono (by dsimp only; omega)).set aA).set aA).set aA
  ·dsimp only; omega
 ·obtain ⟨rfl,id,h⟩:=h;obtain ⟨e1,e2,e3,m3,e7,m7,e9,lst,⟨cm,cg,co,cn,cl⟩,lt⟩:=h;simp [-V,-y3,-y0,J,rL,zO,aL];refine hk _ _ ⟨cm,cg,co,?_,cl.mono ?_⟩ (lst.of ?_ (fun N=>?_) ?_)
  ·dsimp only; omega
  ·dsimp only; omega
  ·rfl
  ·rfl
  ·dsimp only; omega
end
def ON (x:qA):Prop:=∀ k,x.strip k=x
def kW (e:Nat->qA):Prop:=∀ t,ON (e t)
def PureM (m:Nat) (M:Nat->Nat->Option (List qA)):Prop:=∀ t n r,n<m->M t n=some r->∀ x∈r,ON x
theorem rT (v:AV):ON ⟨v,.no⟩:=fun _=>rfl
theorem x8 (v:AV):ON ⟨v,.ex⟩:=fun _=>rfl
theorem kW.same {e:Nat->qA} (h:kW e) (k:Nat):mY k e=e:=funext fun t=>by rw [Q1]; exact h t k
theorem QY (k:Nat) (M:Nat->Nat->Option (List qA)) (t n:Nat):OU k M t n=(M t n).map (·.map (qA.strip k)):=rfl
theorem xC.strip {m:Nat} {M0 M:Nat->Nat->Option (List qA)} (h:xC m M0 M) (h0:PureM m M0) (k:Nat):xC m M0 (OU k M):=fun t n hn=>by
 rw [QY,h t n hn];cases hr:M0 t n with
 | none=>rfl
 | some r =>
  refine congrArg some ?_;have:r.map (qA.strip k)=r.map id:=ym fun x hx=>h0 t n r hn hr x hx k
  rwa [List.map_id] at this
theorem dL.strip {m:Nat} {M:Nat->Nat->Option (List qA)} (h:dL m M) (k:Nat):dL m (OU k M):=fun t n r he x hx=>by
 rw [QY] at he;obtain ⟨r0,hr,rfl⟩:=yf.1 he;obtain ⟨y,hy,rfl⟩:=yA.1 hx;exact h t n r0 hr y hy
theorem pB.strip {m:Nat} {e:Nat->qA} (h:pB m e) (k:Nat):pB m (mY k e):=fun t=>h t
theorem dY {l:List (List AV)} (h:nD l=true) (t n:Nat):(sA l).map (qA.kill t n)=sA l:=by
 have:(sA l).map (qA.kill t n)=(sA l).map id:=ym fun x hx=>by
  have:=LD (m:=0) h x hx t n (Nat.zero_le _);show (⟨x.v.kill t n,x.a⟩:qA)=x;rw [this]
 rwa [List.map_id] at this
def ZJ (i:Int):ByteArray:=Utf8.encode (65 + i)
def sName (d:Int):ByteArray:=⟨#[115]⟩++Utf8.encode (97 + d)
def qI (a:Int):List NV:=(qF a).map fun d=>⟨d,sName d⟩
def dA.of (k:Int) (nm:ByteArray):dA:=⟨k,nm,0,0,0,true,[],true,[],0,0,false⟩
def zB (l:List jC) (i:Int):dA :=
 let x:=GA l i
 let n:Int:=l.length
 match x.kind with
 | 1=>.of 1 ⟨#[]⟩
 | 2=>{ dA.of 2 ⟨#[]⟩ with low:=x.low,high:=x.high }
 | 3=>{ dA.of 3 ⟨#[]⟩ with max:=x.a % 4 }
 | 4=>{ dA.of 4 (ZJ i) with opn:=decide (x.b % 2=1),sn:=false,syms:=qI x.a }
 | 5=>{ dA.of 5 (ZJ i) with mn:=(PE l i true x.parts).isEmpty,mems:=PE l i true x.parts }
 | 6=>if (PE l i false x.parts).isEmpty=true then .of 5 (ZJ i) else { dA.of 6 (ZJ i) with opn:=decide (x.b % 2=1),mn:=false,mems:=PE l i false x.parts }
 | 7=>{ dA.of 7 ⟨#[]⟩ with max:=x.a % 4,elem:=x.c % n }
 | 8=>if aK l x.b<0 then { dA.of 7 ⟨#[]⟩ with max:=x.a % 4,elem:=x.c % n } else { dA.of 8 ⟨#[]⟩ with max:=x.a % 4,key:=aK l x.b,elem:=x.c % n }
 | _=>{ dA.of 9 ⟨#[]⟩ with elem:=x.c % n }
def dF (t:dA) (c:AV):List AV:=[.int .i64 t.kind,.str t.name,.int .i64 t.low,.int .i64 t.high,.int .i64 t.max,.sl t.sn (t.syms.map lD),c,.int .i64 t.key,.int .i64 t.elem,.bool t.opn]
theorem typL_C (t:dA):dF t (.sl t.mn (t.mems.map bA))=rA t:=rfl
def LI (ms:List uC) (c:AV) (s:pA):Prop :=
 (ms=[]/\c=.sl true [])\/∃ N,ms≠[]/\N<s.next/\c=.ref 88 N 13 0 ms.length ms.length/\s.mem 88 N=some (sA (ms.map bA))
theorem gW.mems {n0:Nat} {ms:List uC} {x:qA} {s:pA} (h:gW n0 ms x s):LI ms x.v s:=by
 rcases h with ⟨h1,h2,_⟩ | ⟨N,h1,_,h3,h4,h5⟩
 ·exact .inl ⟨h1,h2⟩
 ·exact .inr ⟨N,h1,h3,h4,h5⟩
theorem Q0 (ms:List uC):nD (ms.map bA)=true:=KK bA ms fun m=>by simp [bA,AV.free0]
theorem LI.keep {ms:List uC} {c:AV} {s s':pA} (h:LI ms c s) (hm:∀ N,N<s.next->s'.mem 88 N=s.mem 88 N) (hn:s.next<=s'.next):LI ms c s':=by
 rcases h with h | ⟨N,h1,h2,h3,h4⟩
 ·exact .inl h
 ·exact .inr ⟨N,h1,yZ h2 hn,h3,(hm N h2).trans h4⟩
theorem LI.low {ms:List uC} {c:AV} {s:pA} (h:LI ms c s):F7 s.next c:=by
 rcases h with ⟨_,rfl⟩ | ⟨N,_,h2,rfl,_⟩
 ·exact qQ rfl
 ·exact G7 h2
def ZI (S:List dA) (L:List (List AV)) (s:pA):Prop:=S.length=L.length/\∀ (i:Nat) (t:dA) (c:List AV),S[i]?=some t->L[i]?=some c->∃ m,c=dF t m/\LI t.mems m s
theorem ZI.snoc {S:List dA} {L:List (List AV)} {s:pA} (h:ZI S L s) {t:dA} {m:AV} (hm:LI t.mems m s):ZI (S++[t]) (L++[dF t m]) s:=by
 obtain ⟨h1,h2⟩:=h;refine ⟨by simp [h1],fun i t' c' ht hc=>?_⟩;rcases Nat.lt_or_ge i S.length with fa | se
 ·rw [yG fa] at ht;rw [yG (by omega)] at hc;exact h2 i t' c' ht hc
 ·rw [yW se] at ht;rw [yW (by omega)] at hc;have hi:i - S.length=0:=by
   rcases yK (i - S.length) with h0 | h0
   ·exact h0
   ·rw [yP (by simp; omega)] at ht; cases ht
  rw [hi] at ht;rw [<- h1,hi] at hc;injection ht with ht;injection hc with hc;exact ⟨m,by rw [<- ht,<- hc],by rw [<- ht]; exact hm⟩
theorem ZI.keep {S:List dA} {L:List (List AV)} {s s':pA} (h:ZI S L s) (hm:∀ N,N<s.next->s'.mem 88 N=s.mem 88 N) (hn:s.next<=s'.next):ZI S L s' :=
 ⟨h.1,fun i t c ht hc=>by obtain ⟨m,h1,h2⟩:=h.2 i t c ht hc; exact ⟨m,h1,h2.keep hm hn⟩⟩
theorem ZI.els {S:List dA} {L:List (List AV)} {s:pA} (h:ZI S L s):gB 10 L=true:=by
 refine y5.2 fun c hc=>?_
 obtain ⟨i,hi,rfl⟩:=yB hc;have ia:=h.1;have hiS:i<S.length:=by omega
 obtain ⟨m,h1,_⟩:=h.2 i S[i] L[i] (y4 (by omega)) (y4 hi);rw [h1];rfl
section
set_option maxHeartbeats 4000000
def sQ (p n8:Nat) (M M':Nat->Nat->Option (List qA)):Prop:=∀ t n,¬ (t=p/\n=n8)->(∀ r,M t n=some r->∀ x∈r,ON x)->M' t n=M t n
theorem sQ.refl {p n8:Nat} {M:Nat->Nat->Option (List qA)}:sQ p n8 M M:=fun _ _ _ _=>rfl
theorem sQ.strip {p n8:Nat} {M M':Nat->Nat->Option (List qA)} (h:sQ p n8 M M') (k:Nat):sQ p n8 M (OU k M'):=fun t n h1 h2=>by
 rw [W1,h t n h1 h2];cases hr:M t n with
 | none=>rfl
 | some r =>
  refine congrArg some ?_;have:r.map (qA.strip k)=r.map id:=ym fun x hx=>h2 r hr x hx k
  rwa [List.map_id] at this
theorem sQ.set {p n8:Nat} {M M':Nat->Nat->Option (List qA)} (h:sQ p n8 M M') {r:List qA}:sQ p n8 M (XV M' p n8 r):=fun t n h1 h2=>by
 rw [DA,if_neg h1];exact h t n h1 h2
def zJ (nm:ByteArray) (op:Bool) (S:List NV) (b:Bool) (a:An):List qA:=[⟨.int .i64 4,.no⟩,⟨.str nm,.no⟩,⟨.int .i64 0,.no⟩,⟨.int .i64 0,.no⟩,⟨.int .i64 0,.no⟩,⟨.sl b (S.map lD),a⟩,⟨.sl true [],.no⟩,⟨.int .i64 0,.no⟩,⟨.int .i64 0,.no⟩,⟨.bool op,.no⟩]
theorem idl_rng (a:Int):∀ i,∀ d∈eW a i,1<=d/\d<=i
 | 0,d,h=>by cases h
 | i + 1,d,h=>by
  rw [eW] at h;rcases yw.1 h with h | h
  ·have:=idl_rng a i d h; omega
  ·split at h
   ·simp at h; omega
   ·cases h
theorem idsZ_rng (a:Int):∀ d∈qF a,1<=d/\d<=6:=fun d h=>by
 unfold qF at h;split at h
 ·simp at h; omega
 ·have:=idl_rng a 6 d h; omega
theorem esyms_ev {r:RV} {a:Int} {n8:Nat} {nm:ByteArray} {op:Bool} (s0:pA) (k:Ex->pA->Option RV)
  (h9:(s0.env 9).v=.sl false ((qF a).map LK)) (br:(s0.env 10).v=.int .i64 0) (h8:(s0.env 8).v=.ptr 8 n8 0) (fa:n8<s0.next) (hm:s0.mem 8 n8=some (zJ nm op [] true .no)) (hG:kW s0.gh) (hL:dL s0.next s0.mem) (hE:pB s0.next s0.env)
  (hk:∀ s',(∀ t,t<9->(s'.env t).v=(s0.env t).v)->sQ 8 n8 s0.mem s'.mem->s'.gh=s0.gh->s'.obj=s0.obj->s0.next<=s'.next->dL s'.next s'.mem->pB s'.next s'.env->(∃ an,s'.mem 8 n8=some (zJ nm op (qI a) false an))->k (.exit 3) s'=some r):TH gA eA cG s0 k=some r:=by
 have og:=xS a;refine lA (qF a).length (fun i s=>(∀ t,t<10->(s.env t).v=(s0.env t).v)/\(s.env 10).v=.int .i64 i/\sQ 8 n8 s0.mem s.mem/\s.gh=s0.gh/\s.obj=s0.obj/\s0.next<=s.next/\dL s.next s.mem/\pB s.next s.env/\(i=0/\s.mem 8 n8=some (zJ nm op [] true .no)\/¬ i=0/\s.mem 8 n8=some (zJ nm op ((qI a).take i) false (.own 91 137))))
  (fun e s=>e=.exit 3/\(∀ t,t<9->(s.env t).v=(s0.env t).v)/\sQ 8 n8 s0.mem s.mem/\s.gh=s0.gh/\s.obj=s0.obj/\s0.next<=s.next/\dL s.next s.mem/\pB s.next s.env/\∃ an,s.mem 8 n8=some (zJ nm op (qI a) false an)) (fun i hi s k h ih hk=>?_) s0 k ⟨fun _ _=>rfl,by simpa using br,sQ.refl,rfl,rfl,yn _,hL,hE,.inl ⟨rfl,hm⟩⟩ (fun e s h=>by obtain ⟨rfl,h1,h2,h3,h4,h5,h6,h7,h8⟩:=h; exact hk s h1 h2 h3 h4 h5 h6 h7 h8)
 obtain ⟨he,e10,jb,hg,ho,hn,hL,hE,ka⟩:=h;have e9:=(he 9 (by omega)).trans h9;have e8:=(he 8 (by omega)).trans h8;refine tA ?_;by_cases ga:i<(qF a).length
 ·have ew:(i:Int)<(qF a).length:=by omega
  have ng:=ZA (i:=i);have g1:((qF a).map LK)[i]?=some (LK (qF a)[i]):=by simp [ga]
  have hd:=idsZ_rng a _ (y6 ga);have ik:(qI a).take (i + 1)=(qI a).take i++[⟨(qF a)[i],sName (qF a)[i]⟩]:=by
   have hl:i<(qI a).length:=by simpa [qI] using ga
   rw [<- yI hl];simp [qI]
  have be:((qI a).take i).length=i:=by simp [qI]; omega
  generalize (qF a)[i]=d at *
  have hlm:((qF a).map LK).length=(qF a).length:=by simp
  generalize (qF a).map LK=D at *
  generalize hS:(qI a).take i=S at *
  obtain ⟨z,hz⟩:∃ z:Int,z=i:=⟨_,rfl⟩;have ec:0<=z:=by omega
  have xq:IntKind.i64.wrap (z + 1)=((i + 1:Nat):Int):=by rw [hz]; exact ng
  rw [<- hz] at e10 ew;rw [show i=z.toNat from by omega] at g1;simp only [LK] at g1;have hw97:IntKind.i64.wrap (97 + d)=97 + d:=IntWalk.i64_in _ (by omega);have ll:IntKind.i32.wrap (97 + d)=97 + d:=BW _ (by omega);have dz:=OW (97 + d);have ic:(⟨#[115]⟩:ByteArray).size=1:=rfl;have ab:(⟨#[115]⟩:ByteArray).size + (Utf8.encode (97 + d)).size<=9223372036854775807:=by omega
  unfold sName at ik;generalize hEn:Utf8.encode (97 + d)=en at *
  have ja:uB 24 (i + 1)=true:=by rw [TA]; omega
  have ud:=els_sym S;rcases ka with ⟨zi,hr⟩ | ⟨zi,hr⟩
  ·have hS0:S=[]:=by rw [<- hS,zi]; rfl
   subst hS0;subst zi;simp only [zJ,yt] at hr;simp [cG,-V,-y3,-y0,J,e8,e9,e10,hlm,ew,ec,g1,hw97,ll,hEn,ab,hr,ja,xq];refine ih ga _ ⟨fun t ht=>?_,?_,?_,?_,ho,?_,?_,?_,.inr ⟨by omega,?_⟩⟩
   ·have:=he t ht;have q:∀ c,10<=c->¬ t=c:=fun c hc=>by omega
    simp [q,this]
   ·simp
   ·repeat (first | exact jb | refine sQ.set ?_ | refine sQ.strip ?_ _)
   ·simp only [hg,hG.same]
   ·dsimp only; omega
   ·exact ((hL.mono (by dsimp only; omega)).strip 91).set aA
   ·dsimp only
    repeat (first | exact hE.mono (by omega) | refine pB.put ?_ (fun _ _ _=>rfl) | refine pB.put ?_ (fC (by omega)) | refine pB.strip ?_ _)
   ·simp [zJ,ik,lD]
  ·simp only [zJ] at hr;simp [cG,-V,-y3,-y0,J,e8,e9,e10,hlm,ew,ec,g1,hw97,ll,hEn,ab,hr,be,ud,ja,xq];refine ih ga _ ⟨fun t ht=>?_,?_,?_,?_,ho,?_,?_,?_,.inr ⟨by omega,?_⟩⟩
   ·have:=he t ht;have q:∀ c,10<=c->¬ t=c:=fun c hc=>by omega
    simp [q,this]
   ·simp
   ·repeat (first | exact jb | refine sQ.set ?_ | refine sQ.strip ?_ _)
   ·simp only [hg,hG.same]
   ·dsimp only; omega
   ·exact (((hL.mono (by dsimp only; omega)).strip 91).strip 91).set aA
   ·dsimp only
    repeat (first | exact hE.mono (by omega) | refine pB.put ?_ (fun _ _ _=>rfl) | refine pB.put ?_ (fC (by omega)) | refine pB.strip ?_ _)
   ·simp [zJ,ik,lD]
 ·have bg:i=(qF a).length:=by omega
  have ew:¬ (i:Int)<(qF a).length:=by omega
  simp [cG,-V,-y3,-y0,J,e9,e10,ga];have zi:¬ i=0:=by omega
  rcases ka with ⟨h0,_⟩ | ⟨_,hr⟩
  ·exact absurd h0 zi
  ·rw [yD (by simp [qI]; omega)] at hr;refine hk _ _ ⟨rfl,fun t ht=>?_,jb,hg,ho,by dsimp only; omega,hL.mono (by dsimp only; omega),?_,_,hr⟩
   ·have:=he t (by omega);simp [show ¬ t=69 from by omega,show ¬ t=70 from by omega,show ¬ t=71 from by omega,show ¬ t=72 from by omega,this]
   ·dsimp only
    repeat (first | exact hE.mono (by omega) | refine pB.put ?_ (fun _ _ _=>rfl))
end
section
set_option maxHeartbeats 4000000
def PD:C:=.reg [oF 164 0 5,oL 165 164,oA 166 10 8,oS 167 (.bslr 10 zze 1 [(0,(.t 166))]),oS 168 (.appn .any 132 10 120 (.t 165) (.t 167)),oF 169 0 5,oW 169 168]
def ZB:C:=oR [oF 26 0 1,oL 27 26,oM 28 6,oI 29 5 27 28,oA 30 5 29,oY 7 zzd,oV 5 7 30] (oR [oA 31 1 1,oM 32 6,oC2 33 87 31 32,oS 34 (.build zze [(0,(1,(.t 33)))]),oY 8 zze,oV 10 8 34] (.seq (oR [oF 35 0 8,oL 36 35,oC1 37 88 36] (oD 37 (.reg [oM 38 6,oS 39 (.bin .add false (.c (.int .i64 65)) (.t 38)),oS 40 (.conv (.some .i32) (.t 39)),oS 41 (.rstr (.t 40)),oF 42 1 8,oW 42 41]) .skip)) (.seq (oR [oF 43 0 8,oL 44 43] (.block 2 (oR [oC 46 .eql 44 2,oM 45 46] (oD 45 (.reg [oS 47 (.load (.root 7) true 5 (.t 7)),oC1 48 89 47,oS 49 (.load (.root 7) true 5 (.t 7)),oC1 50 90 49,oF 51 2 8,oN (.store (.root 8) false 1 (.t 51) (.t 48)),oF 52 3 8,oN (.store (.root 8) false 1 (.t 52) (.t 50))]) (oR [oC 54 .eql 44 3,oM 53 54] (oD 53 (.reg [oF 55 1 7,oL 56 55,oS 57 (.bin .rem false (.t 56) (.c (.int .u8 4))),oS 58 (.conv (.some .i64) (.t 57)),oF 59 4 8,oW 59 58]) (oR [oC 61 .eql 44 4,oM 60 61] (oD 60 (oR [oF 62 2 7,oL 63 62,oS 64 (.bin .rem false (.t 63) (.c (.int .u8 2))),oS 65 (.bin .eql false (.t 64) (.c (.int .u8 1))),oF 66 9 8,oW 66 65] (oR [oA 67 5 7,oC1 68 91 67,oM 9 68] (oR [oJ 10 0] (.block 3 (.loop cG))))) (oR [oC 94 .eql 44 5,oM 93 94] (oD 93 (.reg [oA 95 1 1,oM 96 6,oS 97 (.callh 171 (.c (.fn 92 [])) [(.t 95),(.t 96),(.c (.bool true))]),oF 98 6 8,oW 98 97]) (oR [oC 100 .eql 44 6,oM 99 100] (oD 99 (oR [oF 101 2 7,oL 102 101,oS 103 (.bin .rem false (.t 102) (.c (.int .u8 2))),oS 104 (.bin .eql false (.t 103) (.c (.int .u8 1))),oF 105 9 8,oW 105 104] (oR [oA 106 1 1,oM 107 6,oS 108 (.callh 171 (.c (.fn 92 [])) [(.t 106),(.t 107),(.c (.bool false))]),oF 109 6 8,oW 109 108] (oR [oF 110 6 8,oL 111 110,oH 112 111,oC 113 .eql 112 0] (oD 113 (.reg [oF 114 1 8,oL 115 114,oS 116 (.build zze [(0,(1,(.c (.int .i64 5)))),(1,(1,(.t 115)))]),oV 10 8 116]) .skip)))) (oR [oC 118 .eql 44 7,oM 117 118] (oD 117 (.reg [oF 119 1 7,oLr 120 7 1 119,oS 121 (.bin .rem false (.t 120) (.c (.int .u8 4))),oS 122 (.conv (.some .i64) (.t 121)),oF 123 3 7,oLr 124 7 1 123,oS 125 (.conv (.some .i64) (.t 124)),oM 126 4,oB 127 .rem 125 126,oF 128 4 8,oN (.store (.root 8) false 1 (.t 128) (.t 122)),oF 129 8 8,oN (.store (.root 8) false 1 (.t 129) (.t 127))]) (oR [oC 131 .eql 44 8,oM 130 131] (oD 130 (oR [oF 132 1 7,oLr 133 7 1 132,oS 134 (.bin .rem false (.t 133) (.c (.int .u8 4))),oS 135 (.conv (.some .i64) (.t 134)),oS 136 (.load (.root 1) true 1 (.t 1)),oF 137 2 7,oLr 138 7 1 137,oC2 139 93 136 138,oF 140 3 7,oLr 141 7 1 140,oS 142 (.conv (.some .i64) (.t 141)),oM 143 4,oB 144 .rem 142 143,oF 145 4 8,oN (.store (.root 8) false 1 (.t 145) (.t 135)),oF 146 7 8,oN (.store (.root 8) false 1 (.t 146) (.t 139)),oF 147 8 8,oN (.store (.root 8) false 1 (.t 147) (.t 144))] (oR [oF 148 7 8,oL 149 148,oC 150 .lss 149 0] (oD 150 (.reg [oF 151 4 8,oL 152 151,oF 153 8 8,oL 154 153,oS 155 (.build zze [(0,(1,(.c (.int .i64 7)))),(4,(1,(.t 152))),(8,(1,(.t 154)))]),oV 10 8 155]) .skip))) (oR [oC 157 .eql 44 9,oM 156 157] (oD 156 (.reg [oF 158 3 7,oL 159 158,oS 160 (.conv (.some .i64) (.t 159)),oM 161 4,oB 162 .rem 160 161,oF 163 8 8,oW 163 162]) .skip)))))))))))))))))) PD)))
theorem of_L2:ZQ=.seq (.seq (.reg [⟨(.some 21),(.mv (.t 6)),.none⟩,⟨(.some 22),(.mv (.t 4)),.none⟩,⟨(.some 23),(.bin .lss .false (.t 21) (.t 22)),.none⟩]) (.cond (.t 23) .skip (.exit 0))) (.seq (.block 1 ZB) (.reg [⟨(.some 24),(.mv (.t 6)),.none⟩,⟨(.some 25),(.bin .add .false (.t 24) (.c (.int .i64 1))),.none⟩,⟨(.some 6),(.mv (.t 25)),.none⟩])):=rfl
def M5I (n0:Nat) (l:List jC) (i:Nat) (s:pA):Prop :=
 (i=0/\∃ a,s.mem 5 (n0 + 3)=some [⟨.sl true [],a⟩]/\ON ⟨.sl true [],a⟩)\/∃ N L,¬ i=0/\s.mem 5 (n0 + 3)=some [⟨.ref 168 N 10 0 i i,.no⟩]/\n0<=N/\N<s.next/\s.mem 168 N=some (sA L)/\L.length=i/\ZI ((List.range i).map fun (j:Nat)=>zB l (j:Int)) L s
theorem M5I.keep {n0:Nat} {l:List jC} {i:Nat} {s s':pA} (h:M5I n0 l i s) (h5:s'.mem 5 (n0 + 3)=s.mem 5 (n0 + 3)) (rk:∀ N,N<s.next->s'.mem 168 N=s.mem 168 N) (h88:∀ N,N<s.next->s'.mem 88 N=s.mem 88 N) (hn:s.next<=s'.next):M5I n0 l i s':=by
 rcases h with ⟨h1,a,h2,h3⟩ | ⟨N,L,h1,h2,h0,h3,h4,h6,h7⟩
 ·exact .inl ⟨h1,a,h5.trans h2,h3⟩
 ·exact .inr ⟨N,L,h1,h5.trans h2,h0,yZ h3 hn,(rk N h3).trans h4,h6,h7.keep h88 hn⟩
structure C3 (n0:Nat) (s0:pA) (dn:Bool) (l:List jC) (i:Nat) (s:pA):Prop where
 e1:(s.env 1).v=.ptr 1 n0 0
 m1:s.mem 1 n0=some [⟨.sl dn (l.map HC),.no⟩]
 e2:(s.env 2).v=.ptr 2 n0 0
 m2:∃ a,s.mem 2 n0=some [⟨.sl true [],a⟩]/\ON ⟨.sl true [],a⟩
 e4:(s.env 4).v=.int .i64 l.length
 e5:(s.env 5).v=.ptr 5 (n0 + 3) 0
 e6:(s.env 6).v=.int .i64 i
 m5:M5I n0 l i s
 calm:Calm n0 s0 s
 lowE:pB s.next s.env
 lt:n0 + 3<s.next
structure PM (n0:Nat) (s0:pA) (dn:Bool) (l:List jC) (i:Nat) (n8:Nat) (s:pA):Prop where
 ofI:C3 n0 s0 dn l i s
 e8:(s.env 8).v=.ptr 8 n8 0
 lt8:n8<s.next
 row:∃ m r,s.mem 8 n8=some r/\r.map (·.v)=dF (zB l (i:Int)) m/\LI (zB l (i:Int)).mems m s
theorem kind1_ev {r:RV} {n0:Nat} {s0:pA} {dn:Bool} {l:List jC} (hl:oks l) {i:Nat} (hi:i<l.length) {s:pA} {k:Ex->pA->Option RV} (h:C3 n0 s0 dn l i s) (jc:(GA l (i:Int)).kind=1) (hk:∀ n8 s',PM n0 s0 dn l i n8 s'->PD.run (UF gA eA) (KJ gA eA) s' k=some r):ZB.run (UF gA eA) (KJ gA eA) s k=some r:=by
 obtain ⟨e1,m1,e2,m2,e4,e5,e6,m5,⟨cm,cg,co,cn,cl⟩,lowE,lt⟩:=h;have zb:=cH (dn:=dn) hl (z:=(i:Int)) (by omega) (by omega);have g:l[i]?=some l[i]:=y4 hi;have gm:(l.map HC)[i]?=some (HC (GA l (i:Int))):=by simp [GA,g]
 have ub:dC l (i:Int)=1:=by rw [<- jc]; simp [dC,GA,g]
 have tb:zB l (i:Int)=dA.of 1 ⟨#[]⟩:=by simp only [zB,jc]
 rw [ub] at zb;generalize GA l (i:Int)=x at *
 have ab:=pD 1;simp only [fA,OF,HC] at zb gm;obtain ⟨z,hz⟩:∃ z:Int,z=i:=⟨_,rfl⟩;have ec:0<=z:=by omega
 rw [<- hz] at e6 zb;rw [show i=z.toNat from by omega] at gm;simp [ZB,-V,-y3,-y0,J,e1,m1,e4,e6,ec,gm,zb,ab];refine hk (s.next + 1) _ ⟨⟨?_,?_,?_,?_,?_,?_,?_,?_,⟨?_,?_,?_,?_,?_⟩,?_,?_⟩,?_,?_,?_⟩
 ·simp [e1]
 ·simp [m1]
 ·simp [e2]
 ·simpa using m2
 ·simp [e4]
 ·simp [e5]
 ·simp [e6,hz]
 ·exact m5.keep (by simp) (fun N _=>by simp) (fun N _=>by simp) (by dsimp only; omega)
 ·repeat (first | exact cm | refine xC.set ?_ (by omega))
 ·exact cg
 ·exact co
 ·dsimp only; omega
 ·exact ((((cl.mono (by dsimp only; omega)).set aA).set aA).set aA).set aA
 ·dsimp only
  repeat (first | exact lowE.mono (by omega) | refine pB.put ?_ (fun _ _ _=>rfl) | refine pB.put ?_ (fC (by omega)))
 ·dsimp only; omega
 ·simp
 ·dsimp only; omega
 ·refine ⟨.sl true [],_,by simp; rfl,?_,.inl ⟨?_,rfl⟩⟩
  ·rw [tb]; simp [dF,dA.of]
  ·rw [tb]; rfl
end
section
set_option maxHeartbeats 4000000
theorem i9 (x:jC) (hx:x.ok):u8 x.k/\u8 x.a/\u8 x.b/\u8 x.c/\True:=⟨hx.1,hx.2.1,hx.2.2.1,hx.2.2.2.1,trivial⟩
theorem nF {l:List jC} (hl:oks l) {i:Nat} (hi:i<l.length):(GA l (i:Int)).ok:=by
 have g:l[i]?=some l[i]:=y4 hi;simp only [GA,Int.toNat_natCast,g];exact hl.2.2 _ (y6 hi)
section
variable {r:RV} {n0:Nat} {s0:pA} {dn:Bool} {l:List jC} (hl:oks l) {i:Nat} (hi:i<l.length) {s:pA} {k:Ex->pA->Option RV} (h:C3 n0 s0 dn l i s)
include r n0 s0 dn l hl i hi s k h
theorem kind2_ev (jc:(GA l (i:Int)).kind=2) (hk:∀ n8 s',PM n0 s0 dn l i n8 s'->PD.run (UF gA eA) (KJ gA eA) s' k=some r):ZB.run (UF gA eA) (KJ gA eA) s k=some r:=by
 obtain ⟨e1,m1,e2,m2,e4,e5,e6,m5,⟨cm,cg,co,cn,cl⟩,lowE,lt⟩:=h;have zb:=cH (dn:=dn) hl (z:=(i:Int)) (by omega) (by omega);have g:l[i]?=some l[i]:=y4 hi;have gm:(l.map HC)[i]?=some (HC (GA l (i:Int))):=by simp [GA,g]
 have ub:dC l (i:Int)=2:=by rw [<- jc]; simp [dC,GA,g]
 have tb:zB l (i:Int)={ dA.of 2 ⟨#[]⟩ with low:=(GA l (i:Int)).low,high:=(GA l (i:Int)).high }:=by simp only [zB,jc]
 have hx:=nF hl hi;rw [ub] at zb;generalize GA l (i:Int)=x at *
 have ab:=pD 2;obtain ⟨xk,xa,xb,xc,_⟩:=i9 x hx;have oe:=low_ev x hx;have wk:=high_ev x hx;simp only [fA,HC] at oe wk;simp only [fA,OF,HC] at zb gm;obtain ⟨z,hz⟩:∃ z:Int,z=i:=⟨_,rfl⟩;have ec:0<=z:=by omega
 rw [<- hz] at e6 zb;rw [show i=z.toNat from by omega] at gm;simp [ZB,-V,-y3,-y0,J,e1,m1,e4,e6,ec,gm,zb,ab,oe,wk];refine hk (s.next + 1) _ ⟨⟨?_,?_,?_,?_,?_,?_,?_,?_,⟨?_,?_,?_,?_,?_⟩,?_,?_⟩,?_,?_,?_⟩
 ·simp [e1]
 ·simp [m1]
 ·simp [e2]
 ·simpa using m2
 ·simp [e4]
 ·simp [e5]
 ·simp [e6,hz]
 ·exact m5.keep (by simp) (fun N _=>by simp) (fun N _=>by simp) (by dsimp only; omega)
 ·repeat (first | exact cm | refine xC.set ?_ (by omega))
 ·exact cg
 ·exact co
 ·dsimp only; omega
 ·exact ((((((cl.mono (by dsimp only; omega)).set aA).set aA).set aA).set aA).set aA).set aA
 ·dsimp only
  repeat (first | exact lowE.mono (by omega) | refine pB.put ?_ (fun _ _ _=>rfl) | refine pB.put ?_ (fC (by omega)))
 ·dsimp only; omega
 ·simp
 ·dsimp only; omega
 ·refine ⟨.sl true [],_,by simp; rfl,?_,.inl ⟨?_,rfl⟩⟩
  ·rw [tb]; simp [dF,dA.of]
  ·rw [tb]; rfl
theorem kind3_ev (jc:(GA l (i:Int)).kind=3) (hk:∀ n8 s',PM n0 s0 dn l i n8 s'->PD.run (UF gA eA) (KJ gA eA) s' k=some r):ZB.run (UF gA eA) (KJ gA eA) s k=some r:=by
 obtain ⟨e1,m1,e2,m2,e4,e5,e6,m5,⟨cm,cg,co,cn,cl⟩,lowE,lt⟩:=h;have zb:=cH (dn:=dn) hl (z:=(i:Int)) (by omega) (by omega);have g:l[i]?=some l[i]:=y4 hi;have gm:(l.map HC)[i]?=some (HC (GA l (i:Int))):=by simp [GA,g]
 have ub:dC l (i:Int)=3:=by rw [<- jc]; simp [dC,GA,g]
 have tb:zB l (i:Int)={ dA.of 3 ⟨#[]⟩ with max:=(GA l (i:Int)).a % 4 }:=by simp only [zB,jc]
 have hx:=nF hl hi;rw [ub] at zb;generalize GA l (i:Int)=x at *
 have ab:=pD 3;obtain ⟨xk,xa,xb,xc,_⟩:=i9 x hx;have nv:x.a.tmod 4=x.a % 4:=yy xa.1;have zu:IntKind.i64.wrap (x.a % 4)=x.a % 4:=IntWalk.i64_in _ (by omega);simp only [fA,OF,HC] at zb gm;obtain ⟨z,hz⟩:∃ z:Int,z=i:=⟨_,rfl⟩;have ec:0<=z:=by omega
 rw [<- hz] at e6 zb;rw [show i=z.toNat from by omega] at gm;simp [ZB,-V,-y3,-y0,J,e1,m1,e4,e6,ec,gm,zb,ab,nv,zu];refine hk (s.next + 1) _ ⟨⟨?_,?_,?_,?_,?_,?_,?_,?_,⟨?_,?_,?_,?_,?_⟩,?_,?_⟩,?_,?_,?_⟩
 ·simp [e1]
 ·simp [m1]
 ·simp [e2]
 ·simpa using m2
 ·simp [e4]
 ·simp [e5]
 ·simp [e6,hz]
 ·exact m5.keep (by simp) (fun N _=>by simp) (fun N _=>by simp) (by dsimp only; omega)
 ·repeat (first | exact cm | refine xC.set ?_ (by omega))
 ·exact cg
 ·exact co
 ·dsimp only; omega
 ·exact (((((cl.mono (by dsimp only; omega)).set aA).set aA).set aA).set aA).set aA
 ·dsimp only
  repeat (first | exact lowE.mono (by omega) | refine pB.put ?_ (fun _ _ _=>rfl) | refine pB.put ?_ (fC (by omega)))
 ·dsimp only; omega
 ·simp
 ·dsimp only; omega
 ·refine ⟨.sl true [],_,by simp; rfl,?_,.inl ⟨?_,rfl⟩⟩
  ·rw [tb]; simp [dF,dA.of]
  ·rw [tb]; rfl
theorem kind7_ev (jc:(GA l (i:Int)).kind=7) (hk:∀ n8 s',PM n0 s0 dn l i n8 s'->PD.run (UF gA eA) (KJ gA eA) s' k=some r):ZB.run (UF gA eA) (KJ gA eA) s k=some r:=by
 obtain ⟨e1,m1,e2,m2,e4,e5,e6,m5,⟨cm,cg,co,cn,cl⟩,lowE,lt⟩:=h;have zb:=cH (dn:=dn) hl (z:=(i:Int)) (by omega) (by omega);have g:l[i]?=some l[i]:=y4 hi;have gm:(l.map HC)[i]?=some (HC (GA l (i:Int))):=by simp [GA,g]
 have ub:dC l (i:Int)=7:=by rw [<- jc]; simp [dC,GA,g]
 have tb:zB l (i:Int)={ dA.of 7 ⟨#[]⟩ with max:=(GA l (i:Int)).a % 4,elem:=(GA l (i:Int)).c % l.length }:=by simp only [zB,jc]
 have hx:=nF hl hi;rw [ub] at zb;generalize GA l (i:Int)=x at *
 have ab:=pD 7;obtain ⟨xk,xa,xb,xc,_⟩:=i9 x hx;have nv:x.a.tmod 4=x.a % 4:=yy xa.1;have zu:IntKind.i64.wrap (x.a % 4)=x.a % 4:=IntWalk.i64_in _ (by omega);have bj:IntKind.i64.wrap x.c=x.c:=IntWalk.i64_in _ (by simp only [u8] at xc; omega);have iT:x.c.tmod l.length=x.c % l.length:=yy xc.1;have oq:¬ (l.length:Int)=0:=by omega
 have pg:¬ l=[]:=by intro e; rw [e] at hi; simp at hi
 simp only [fA,OF,HC] at zb gm;obtain ⟨z,hz⟩:∃ z:Int,z=i:=⟨_,rfl⟩;have ec:0<=z:=by omega
 rw [<- hz] at e6 zb;rw [show i=z.toNat from by omega] at gm;simp [ZB,-V,-y3,-y0,J,e1,m1,e4,e6,ec,gm,zb,ab,nv,zu,bj,iT,oq,pg];refine hk (s.next + 1) _ ⟨⟨?_,?_,?_,?_,?_,?_,?_,?_,⟨?_,?_,?_,?_,?_⟩,?_,?_⟩,?_,?_,?_⟩
 ·simp [e1]
 ·simp [m1]
 ·simp [e2]
 ·simpa using m2
 ·simp [e4]
 ·simp [e5]
 ·simp [e6,hz]
 ·exact m5.keep (by simp) (fun N _=>by simp) (fun N _=>by simp) (by dsimp only; omega)
 ·repeat (first | exact cm | refine xC.set ?_ (by omega))
 ·exact cg
 ·exact co
 ·dsimp only; omega
 ·exact ((((((cl.mono (by dsimp only; omega)).set aA).set aA).set aA).set aA).set aA).set aA
 ·dsimp only
  repeat (first | exact lowE.mono (by omega) | refine pB.put ?_ (fun _ _ _=>rfl) | refine pB.put ?_ (fC (by omega)))
 ·dsimp only; omega
 ·simp
 ·dsimp only; omega
 ·refine ⟨.sl true [],_,by simp; rfl,?_,.inl ⟨?_,rfl⟩⟩
  ·rw [tb]; simp [dF,dA.of]
  ·rw [tb]; rfl
theorem kind9_ev (jc:(GA l (i:Int)).kind=9) (hk:∀ n8 s',PM n0 s0 dn l i n8 s'->PD.run (UF gA eA) (KJ gA eA) s' k=some r):ZB.run (UF gA eA) (KJ gA eA) s k=some r:=by
 obtain ⟨e1,m1,e2,m2,e4,e5,e6,m5,⟨cm,cg,co,cn,cl⟩,lowE,lt⟩:=h;have zb:=cH (dn:=dn) hl (z:=(i:Int)) (by omega) (by omega);have g:l[i]?=some l[i]:=y4 hi;have gm:(l.map HC)[i]?=some (HC (GA l (i:Int))):=by simp [GA,g]
 have ub:dC l (i:Int)=9:=by rw [<- jc]; simp [dC,GA,g]
 have tb:zB l (i:Int)={ dA.of 9 ⟨#[]⟩ with elem:=(GA l (i:Int)).c % l.length }:=by simp only [zB,jc]
 have hx:=nF hl hi;rw [ub] at zb;generalize GA l (i:Int)=x at *
 have ab:=pD 9;obtain ⟨xk,xa,xb,xc,_⟩:=i9 x hx;have bj:IntKind.i64.wrap x.c=x.c:=IntWalk.i64_in _ (by simp only [u8] at xc; omega);have iT:x.c.tmod l.length=x.c % l.length:=yy xc.1;have oq:¬ (l.length:Int)=0:=by omega
 have pg:¬ l=[]:=by intro e; rw [e] at hi; simp at hi
 simp only [fA,OF,HC] at zb gm;obtain ⟨z,hz⟩:∃ z:Int,z=i:=⟨_,rfl⟩;have ec:0<=z:=by omega
 rw [<- hz] at e6 zb;rw [show i=z.toNat from by omega] at gm;simp [ZB,-V,-y3,-y0,J,e1,m1,e4,e6,ec,gm,zb,ab,bj,iT,oq,pg];refine hk (s.next + 1) _ ⟨⟨?_,?_,?_,?_,?_,?_,?_,?_,⟨?_,?_,?_,?_,?_⟩,?_,?_⟩,?_,?_,?_⟩
 ·simp [e1]
 ·simp [m1]
 ·simp [e2]
 ·simpa using m2
 ·simp [e4]
 ·simp [e5]
 ·simp [e6,hz]
 ·exact m5.keep (by simp) (fun N _=>by simp) (fun N _=>by simp) (by dsimp only; omega)
 ·repeat (first | exact cm | refine xC.set ?_ (by omega))
 ·exact cg
 ·exact co
 ·dsimp only; omega
 ·exact (((((cl.mono (by dsimp only; omega)).set aA).set aA).set aA).set aA).set aA
 ·dsimp only
  repeat (first | exact lowE.mono (by omega) | refine pB.put ?_ (fun _ _ _=>rfl) | refine pB.put ?_ (fC (by omega)))
 ·dsimp only; omega
 ·simp
 ·dsimp only; omega
 ·refine ⟨.sl true [],_,by simp; rfl,?_,.inl ⟨?_,rfl⟩⟩
  ·rw [tb]; simp [dF,dA.of]
  ·rw [tb]; rfl
theorem kind8n_ev (jc:(GA l (i:Int)).kind=8) (hc:aK l (GA l (i:Int)).b<0) (hk:∀ n8 s',PM n0 s0 dn l i n8 s'->PD.run (UF gA eA) (KJ gA eA) s' k=some r):ZB.run (UF gA eA) (KJ gA eA) s k=some r:=by
 obtain ⟨e1,m1,e2,m2,e4,e5,e6,m5,⟨cm,cg,co,cn,cl⟩,lowE,lt⟩:=h;have zb:=cH (dn:=dn) hl (z:=(i:Int)) (by omega) (by omega);have g:l[i]?=some l[i]:=y4 hi;have gm:(l.map HC)[i]?=some (HC (GA l (i:Int))):=by simp [GA,g]
 have ub:dC l (i:Int)=8:=by rw [<- jc]; simp [dC,GA,g]
 have tb:zB l (i:Int)={ dA.of 7 ⟨#[]⟩ with max:=(GA l (i:Int)).a % 4,elem:=(GA l (i:Int)).c % l.length }:=by simp only [zB,jc]; rw [if_pos hc]
 have hx:=nF hl hi;rw [ub] at zb;generalize GA l (i:Int)=x at *
 have ab:=pD 8;obtain ⟨xk,xa,xb,xc,_⟩:=i9 x hx;have nv:x.a.tmod 4=x.a % 4:=yy xa.1;have zu:IntKind.i64.wrap (x.a % 4)=x.a % 4:=IntWalk.i64_in _ (by omega);have bj:IntKind.i64.wrap x.c=x.c:=IntWalk.i64_in _ (by simp only [u8] at xc; omega);have iT:x.c.tmod l.length=x.c % l.length:=yy xc.1;have oq:¬ (l.length:Int)=0:=by omega
 have pg:¬ l=[]:=by intro e; rw [e] at hi; simp at hi
 have bc:=key_ev dn l hl x.b xb;simp only [fA,OF] at bc;simp only [fA,OF,HC] at zb gm;obtain ⟨z,hz⟩:∃ z:Int,z=i:=⟨_,rfl⟩;have ec:0<=z:=by omega
 rw [<- hz] at e6 zb;rw [show i=z.toNat from by omega] at gm;simp [ZB,-V,-y3,-y0,J,e1,m1,e4,e6,ec,gm,zb,ab,nv,zu,bj,iT,oq,pg,bc,hc];refine hk (s.next + 1) _ ⟨⟨?_,?_,?_,?_,?_,?_,?_,?_,⟨?_,?_,?_,?_,?_⟩,?_,?_⟩,?_,?_,?_⟩
 ·simp [e1]
 ·simp [m1]
 ·simp [e2]
 ·simpa using m2
 ·simp [e4]
 ·simp [e5]
 ·simp [e6,hz]
 ·exact m5.keep (by simp) (fun N _=>by simp) (fun N _=>by simp) (by dsimp only; omega)
 ·repeat (first | exact cm | refine xC.set ?_ (by omega))
 ·exact cg
 ·exact co
 ·dsimp only; omega
 ·exact ((((((((cl.mono (by dsimp only; omega)).set aA).set aA).set aA).set aA).set aA).set aA).set aA).set aA
 ·dsimp only
  repeat (first | exact lowE.mono (by omega) | refine pB.put ?_ (fun _ _ _=>rfl) | refine pB.put ?_ (fC (by omega)))
 ·dsimp only; omega
 ·simp
 ·dsimp only; omega
 ·refine ⟨.sl true [],_,by simp; rfl,?_,.inl ⟨?_,rfl⟩⟩
  ·rw [tb]; simp [dF,dA.of]
  ·rw [tb]; rfl
theorem kind8p_ev (jc:(GA l (i:Int)).kind=8) (hc:¬ aK l (GA l (i:Int)).b<0) (hk:∀ n8 s',PM n0 s0 dn l i n8 s'->PD.run (UF gA eA) (KJ gA eA) s' k=some r):ZB.run (UF gA eA) (KJ gA eA) s k=some r:=by
 obtain ⟨e1,m1,e2,m2,e4,e5,e6,m5,⟨cm,cg,co,cn,cl⟩,lowE,lt⟩:=h;have zb:=cH (dn:=dn) hl (z:=(i:Int)) (by omega) (by omega);have g:l[i]?=some l[i]:=y4 hi;have gm:(l.map HC)[i]?=some (HC (GA l (i:Int))):=by simp [GA,g]
 have ub:dC l (i:Int)=8:=by rw [<- jc]; simp [dC,GA,g]
 have tb:zB l (i:Int)={ dA.of 8 ⟨#[]⟩ with max:=(GA l (i:Int)).a % 4,key:=aK l (GA l (i:Int)).b,elem:=(GA l (i:Int)).c % l.length }:=by simp only [zB,jc]; rw [if_neg hc]
 have hx:=nF hl hi;rw [ub] at zb;generalize GA l (i:Int)=x at *
 have ab:=pD 8;obtain ⟨xk,xa,xb,xc,_⟩:=i9 x hx;have nv:x.a.tmod 4=x.a % 4:=yy xa.1;have zu:IntKind.i64.wrap (x.a % 4)=x.a % 4:=IntWalk.i64_in _ (by omega);have bj:IntKind.i64.wrap x.c=x.c:=IntWalk.i64_in _ (by simp only [u8] at xc; omega);have iT:x.c.tmod l.length=x.c % l.length:=yy xc.1;have oq:¬ (l.length:Int)=0:=by omega
 have pg:¬ l=[]:=by intro e; rw [e] at hi; simp at hi
 have bc:=key_ev dn l hl x.b xb;simp only [fA,OF] at bc;simp only [fA,OF,HC] at zb gm;obtain ⟨z,hz⟩:∃ z:Int,z=i:=⟨_,rfl⟩;have ec:0<=z:=by omega
 rw [<- hz] at e6 zb;rw [show i=z.toNat from by omega] at gm;simp [ZB,-V,-y3,-y0,J,e1,m1,e4,e6,ec,gm,zb,ab,nv,zu,bj,iT,oq,pg,bc,hc];refine hk (s.next + 1) _ ⟨⟨?_,?_,?_,?_,?_,?_,?_,?_,⟨?_,?_,?_,?_,?_⟩,?_,?_⟩,?_,?_,?_⟩
 ·simp [e1]
 ·simp [m1]
 ·simp [e2]
 ·simpa using m2
 ·simp [e4]
 ·simp [e5]
 ·simp [e6,hz]
 ·exact m5.keep (by simp) (fun N _=>by simp) (fun N _=>by simp) (by dsimp only; omega)
 ·repeat (first | exact cm | refine xC.set ?_ (by omega))
 ·exact cg
 ·exact co
 ·dsimp only; omega
 ·exact (((((((cl.mono (by dsimp only; omega)).set aA).set aA).set aA).set aA).set aA).set aA).set aA
 ·dsimp only
  repeat (first | exact lowE.mono (by omega) | refine pB.put ?_ (fun _ _ _=>rfl) | refine pB.put ?_ (fC (by omega)))
 ·dsimp only; omega
 ·simp
 ·dsimp only; omega
 ·refine ⟨.sl true [],_,by simp; rfl,?_,.inl ⟨?_,rfl⟩⟩
  ·rw [tb]; simp [dF,dA.of]
  ·rw [tb]; rfl
end
end
section
set_option maxHeartbeats 4000000
theorem fY (l:List (List AV)):∀ x∈sA l,ON x:=fun x hx=>by
 obtain ⟨v,_,rfl⟩:=yA.1 hx;exact rT v
theorem LI.stay {ms:List uC} {c:AV} {s s':pA} (h:LI ms c s) (hm:∀ n r,s.mem 88 n=some r->(∀ x∈r,ON x)->s'.mem 88 n=some r) (hn:s.next<=s'.next):LI ms c s':=by
 rcases h with h | ⟨N,h1,h2,h3,h4⟩
 ·exact .inl h
 ·exact .inr ⟨N,h1,yZ h2 hn,h3,hm N _ h4 (fY _)⟩
theorem ZI.stay {S:List dA} {L:List (List AV)} {s s':pA} (h:ZI S L s) (hm:∀ n r,s.mem 88 n=some r->(∀ x∈r,ON x)->s'.mem 88 n=some r) (hn:s.next<=s'.next):ZI S L s' :=
 ⟨h.1,fun i t c ht hc=>by obtain ⟨m,h1,h2⟩:=h.2 i t c ht hc; exact ⟨m,h1,h2.stay hm hn⟩⟩
theorem M5I.stay {n0:Nat} {l:List jC} {i:Nat} {s s':pA} (h:M5I n0 l i s) (hm:∀ t n r,(t=5\/t=88\/t=168)->s.mem t n=some r->(∀ x∈r,ON x)->s'.mem t n=some r) (hn:s.next<=s'.next):M5I n0 l i s':=by
 rcases h with ⟨h1,a,h2,h3⟩ | ⟨N,L,h1,h2,h0,h3,h4,h6,h7⟩
 ·exact .inl ⟨h1,a,hm 5 _ _ (.inl rfl) h2 (by simpa using h3),h3⟩
 ·exact .inr ⟨N,L,h1,hm 5 _ _ (.inl rfl) h2 (by simpa using rT _),h0,yZ h3 hn,hm 168 _ _ (.inr (.inr rfl)) h4 (fY _),h6,h7.stay (fun n r=>hm 88 n r (.inr (.inl rfl))) hn⟩
theorem kind4_ev {r:RV} {n0:Nat} {s0:pA} {dn:Bool} {l:List jC} (hl:oks l) (hG:kW s0.gh) (hP:PureM n0 s0.mem) {i:Nat} (hi:i<l.length) {s:pA} {k:Ex->pA->Option RV} (h:C3 n0 s0 dn l i s) (jc:(GA l (i:Int)).kind=4) (hk:∀ n8 s',PM n0 s0 dn l i n8 s'->PD.run (UF gA eA) (KJ gA eA) s' k=some r):ZB.run (UF gA eA) (KJ gA eA) s k=some r:=by
 obtain ⟨e1,m1,e2,m2,e4,e5,e6,m5,⟨cm,cg,co,cn,cl⟩,lowE,lt⟩:=h;have zb:=cH (dn:=dn) hl (z:=(i:Int)) (by omega) (by omega);have g:l[i]?=some l[i]:=y4 hi;have gm:(l.map HC)[i]?=some (HC (GA l (i:Int))):=by simp [GA,g]
 have ub:dC l (i:Int)=4:=by rw [<- jc]; simp [dC,GA,g]
 have tb:zB l (i:Int)={ dA.of 4 (ZJ i) with opn:=decide ((GA l (i:Int)).b % 2=1),sn:=false,syms:=qI (GA l (i:Int)).a }:=by simp only [zB,jc]
 have hx:=nF hl hi;have hN5:=hl.2.1;rw [ub] at zb;generalize GA l (i:Int)=x at *
 have ab:=pD 4;have zg:=ids7_ev x hx;obtain ⟨xk,xa,xb,xc,_⟩:=i9 x hx;have sy:x.b.tmod 2=x.b % 2:=yy xb.1;simp only [fA,OF,HC] at zb gm zg;obtain ⟨z,hz⟩:∃ z:Int,z=i:=⟨_,rfl⟩;have ec:0<=z:=by omega
 have iu:IntKind.i64.wrap (65 + z)=65 + z:=IntWalk.i64_in _ (by omega);have ll:IntKind.i32.wrap (65 + z)=65 + z:=BW _ (by omega);rw [<- hz] at e6 zb;rw [show i=z.toNat from by omega] at gm;simp [ZB,-V,-y3,-y0,J,e1,m1,e4,e6,ec,gm,zb,ab,zg,sy,iu,ll];refine esyms_ev (a:=x.a) (n8:=s.next + 1) (nm:=Utf8.encode (65 + z)) (op:=decide (x.b % 2=1)) _ _ ?_ ?_ ?_ ?_ ?_ ?_ ?_ ?_ (fun s' h1 h2 h3 h4 h5 h6 h7 h8=>?_)
 ·simp
 ·simp
 ·simp
 ·dsimp only; omega
 ·simp [zJ]
 ·show kW s.gh;rw [cg]; exact hG
 ·exact ((((((cl.mono (by dsimp only; omega)).set aA).set aA).set aA).set aA).set aA).set aA
 ·dsimp only
  repeat (first | exact lowE.mono (by omega) | refine pB.put ?_ (fun _ _ _=>rfl) | refine pB.put ?_ (fC (by omega)))
 ·obtain ⟨an,h8⟩:=h8;simp [-V,-y3,-y0,J];have jb:∀ t n r,¬ t=8->¬ t=7->s.mem t n=some r->(∀ x∈r,ON x)->s'.mem t n=some r:=fun t n r t8 t7 hr hp=>by
   refine (h2 t n (by omega) fun r' ze=>?_).trans ?_
   ·simp [t7,t8,hr] at ze;subst ze;exact hp
   ·simp [t7,t8,hr]
  refine hk (s.next + 1) s' ⟨⟨(h1 1 (by omega)).trans (by simp [e1]),jb 1 n0 _ (by omega) (by omega) m1 (by simpa using rT _),(h1 2 (by omega)).trans (by simp [e2]),?_,(h1 4 (by omega)).trans (by simp [e4]),(h1 5 (by omega)).trans (by simp [e5]),(h1 6 (by omega)).trans (by simp [e6,hz]),?_,⟨?_,?_,?_,?_,h6⟩,h7,?_⟩,(h1 8 (by omega)).trans (by simp),?_,?_⟩
  ·obtain ⟨a,m2,p2⟩:=m2;exact ⟨a,jb 2 n0 _ (by omega) (by omega) m2 (by simpa using p2),p2⟩
  ·exact m5.stay (fun t n r ht=>jb t n r (by omega) (by omega)) (by dsimp only at h5; omega)
  ·intro t n hn;refine (h2 t n (by omega) fun r' ze=>?_).trans ?_
   ·simp [show ¬ n=s.next from by omega,show ¬ n=s.next + 1 from by omega,cm t n hn] at ze;exact hP t n r' hn ze
   ·simp [show ¬ n=s.next from by omega,show ¬ n=s.next + 1 from by omega,cm t n hn]
  ·rw [h3]; exact cg
  ·rw [h4]; exact co
  ·dsimp only at h5; omega
  ·dsimp only at h5; omega
  ·dsimp only at h5; omega
  ·refine ⟨.sl true [],_,h8,?_,.inl ⟨?_,rfl⟩⟩
   ·rw [tb,hz]; simp [dF,dA.of,zJ,ZJ]
   ·rw [tb]; rfl
end
section
set_option maxHeartbeats 4000000
theorem pB.wait {m nt:Nat} {e g:Nat->qA} (h:pB m e) (h':pB m g):pB m (TY nt e g):=fun t=>by
 rw [gE];split
 ·exact h t
 ·exact h' _
theorem pB.back {m nt:Nat} {g:Nat->qA} (h:pB m g):pB m (backE nt g):=fun t=>by
 rw [fN];split
 ·exact h t
 ·exact fun _ _ _=>rfl
theorem bG (nt:Nat) (e g:Nat->qA):uT nt (TY nt e g)=g:=funext fun t=>by
 rw [uY,gE,if_neg (by omega)];congr 1;omega
theorem xC.trans {m m':Nat} {A B C:Nat->Nat->Option (List qA)} (h:xC m A B) (h':xC m' B C) (hm:m<=m'):xC m A C:=fun t n hn=>(h' t n (by omega)).trans (h t n hn)
theorem LI.lowV {ms:List uC} {c:AV} {s:pA} (h:LI ms c s):lowV s.next c:=lowV_of h.low (by
 rcases h with ⟨_,rfl⟩ | ⟨N,_,_,rfl,_⟩ <;> rfl)
section
variable {r:RV} {n0:Nat} {s0:pA} {dn:Bool} {l:List jC} (hl:oks l) (hG:pB n0 s0.gh) {i:Nat} (hi:i<l.length) {s:pA} {k:Ex->pA->Option RV} (h:C3 n0 s0 dn l i s)
include r n0 s0 dn l hl hG i hi s k h
theorem kind5_ev (jc:(GA l (i:Int)).kind=5) (hk:∀ n8 s',PM n0 s0 dn l i n8 s'->PD.run (UF gA eA) (KJ gA eA) s' k=some r):ZB.run (UF gA eA) (KJ gA eA) s k=some r:=by
 obtain ⟨e1,m1,e2,m2,e4,e5,e6,m5,⟨cm,cg,co,cn,cl⟩,lowE,lt⟩:=h;have zb:=cH (dn:=dn) hl (z:=(i:Int)) (by omega) (by omega);have g:l[i]?=some l[i]:=y4 hi;have gm:(l.map HC)[i]?=some (HC (GA l (i:Int))):=by simp [GA,g]
 have gx:l[((i:Int)).toNat]?=some (GA l (i:Int)):=by simp [GA,g]
 have ub:dC l (i:Int)=5:=by rw [<- jc]; simp [dC,GA,g]
 have tb:zB l (i:Int)={ dA.of 5 (ZJ (i:Int)) with mn:=(PE l (i:Int) true (GA l (i:Int)).parts).isEmpty,mems:=(PE l (i:Int) true (GA l (i:Int)).parts) }:=by simp only [zB,jc]
 have hx:=nF hl hi;have hN5:=hl.2.1;rw [ub] at zb;generalize GA l (i:Int)=x at *
 have ab:=pD 5;obtain ⟨xk,xa,xb,xc,_⟩:=i9 x hx;have sy:x.b.tmod 2=x.b % 2:=yy xb.1;simp only [fA,OF,HC] at zb gm;obtain ⟨z,hz⟩:∃ z:Int,z=i:=⟨_,rfl⟩;have ec:0<=z:=by omega
 have bo:z<l.length:=by omega
 have iu:IntKind.i64.wrap (65 + z)=65 + z:=IntWalk.i64_in _ (by omega);have ll:IntKind.i32.wrap (65 + z)=65 + z:=BW _ (by omega);rw [<- hz] at e6 zb gx tb;rw [show i=z.toNat from by omega] at gm;simp [ZB,-V,-y3,-y0,J,e1,m1,e4,e6,ec,gm,zb,ab,iu,ll,sy];refine j8 hl ec bo gx _ ?_ ?_ _ (fun y s' hc hli=>?_)
 ·exact (((((cl.mono (by dsimp only; omega)).set aA).set aA).set aA).set aA).set aA
 ·dsimp only;refine pB.wait ?_ (by rw [cg]; exact hG.mono (by omega))
  repeat (first | exact lowE.mono (by omega) | refine pB.put ?_ (fun _ _ _=>rfl) | refine pB.put ?_ (fC (by omega)))
 ·obtain ⟨pk,ij,co2,cn2,cl2⟩:=hc;dsimp only at ij co2 cn2 pk;have wq:=hli.mems;have lq:=wq.lowV;have g1:(s'.gh 1).v=.ptr 1 n0 0:=by rw [ij]; simp [gE,e1]
  have g2:(s'.gh 2).v=.ptr 2 n0 0:=by rw [ij]; simp [gE,e2]
  have g4:(s'.gh 4).v=.int .i64 l.length:=by rw [ij]; simp [gE,e4]
  have g5:(s'.gh 5).v=.ptr 5 (n0 + 3) 0:=by rw [ij]; simp [gE,e5]
  have g6:(s'.gh 6).v=.int .i64 z:=by rw [ij]; simp [gE,e6]
  have g8:(s'.gh 8).v=.ptr 8 (s.next + 1) 0:=by rw [ij]; simp [gE]
  have m8:s'.mem 8 (s.next + 1)=some [⟨.int .i64 5,.no⟩,⟨.str (Utf8.encode (65 + z)),.no⟩,⟨.int .i64 0,.no⟩,⟨.int .i64 0,.no⟩,⟨.int .i64 0,.no⟩,⟨.sl true [],.no⟩,⟨.sl true [],.no⟩,⟨.int .i64 0,.no⟩,⟨.int .i64 0,.no⟩,⟨.bool false,.no⟩]:=by rw [pk 8 (s.next + 1) (by omega)]; simp
  have gw:pB s'.next s'.gh:=by
   rw [ij];refine pB.wait ?_ (by rw [cg]; exact hG.mono (by omega))
   repeat (first | exact lowE.mono (by omega) | refine pB.put ?_ (fun _ _ _=>rfl) | refine pB.put ?_ (fC (by omega)))
  have XN:∀ (E:Nat->qA) (M:Nat->Nat->Option (List qA)) (row:List qA) (nx:Nat),(∀ t,t<9->(E t).v=(s'.gh t).v)->pB s'.next E->s'.next<nx->(∀ t n,M t n=if t=8/\n=s.next + 1 then some row else s'.mem t n)->(∀ q∈row,lowV s'.next q.v)->(∃ m,row.map (·.v)=dF (zB l z) m/\LI (zB l z).mems m s')->PM n0 s0 dn l i (s.next + 1) ⟨E,M,nx,s'.obj,uT 171 s'.gh⟩:=fun E M row nx hE hEl od hM xu hr=>by
   refine ⟨⟨?_,?_,?_,?_,?_,?_,?_,?_,⟨?_,?_,?_,?_,?_⟩,?_,?_⟩,?_,?_,?_⟩
   ·exact (hE 1 (by omega)).trans g1
   ·simp [hM,pk 1 n0 (by omega),m1]
   ·exact (hE 2 (by omega)).trans g2
   ·simpa [hM,pk 2 n0 (by omega)] using m2
   ·exact (hE 4 (by omega)).trans g4
   ·exact (hE 5 (by omega)).trans g5
   ·exact (hE 6 (by omega)).trans (by rw [g6,hz])
   ·refine m5.keep (by simp [hM,pk 5 (n0 + 3) (by omega)]) (fun N hN=>by simp [hM,pk 168 N (by omega)]) (fun N hN=>by simp [hM,pk 88 N (by omega)]) (by dsimp only; omega)
   ·intro t n hn;show M t n=_;rw [hM,if_neg (by omega),pk t n (by omega)];simp [show ¬ n=s.next from by omega,show ¬ n=s.next + 1 from by omega,cm t n hn]
   ·show uT 171 s'.gh=s0.gh;rw [ij,bG];exact cg
   ·exact co2.trans co
   ·dsimp only; omega
   ·intro t n r' ze q hq;have ze:M t n=some r':=ze;rw [hM] at ze;split at ze
    ·injection ze with ze; subst ze;exact FI (by dsimp only; omega) (xu q hq)
    ·exact FI (by dsimp only; omega) (cl2 t n r' ze q hq)
   ·exact hEl.mono (by dsimp only; omega)
   ·dsimp only; omega
   ·exact (hE 8 (by omega)).trans g8
   ·dsimp only; omega
   ·obtain ⟨m,ff,ph⟩:=hr;rw [<- hz];refine ⟨m,row,by show M 8 _=_; rw [hM,if_pos ⟨rfl,rfl⟩],ff,ph.keep (fun N hN=>?_) (by dsimp only; omega)⟩;show M 88 N=_;rw [hM,if_neg (by omega)]
  rcases wq with ⟨_,e⟩ | ⟨N,_,_,e,_⟩
  ·simp [-V,-y3,-y0,J,g8,m8,e];refine hk _ _ (XN _ _ _ _ (fun t ht=>?_) ?_ (by omega) (fun t n=>by simp [DA]; rfl) (fun q hq=>?_) ?_)
   ·have q:∀ c,9<=c->¬ t=c:=fun c hc=>by omega
    simp [q,fN,show t<171 from by omega]
   ·repeat (first | exact gw.back | refine pB.put ?_ (fun _ _ _=>rfl) | refine pB.put ?_ (fC (by omega)) | refine pB.put ?_ lq | refine pB.put ?_ (by rw [<- e]; exact lq))
   ·simp only [yh,yJ,or_false] at hq;rcases hq with rfl | rfl | rfl | rfl | rfl | rfl | rfl | rfl | rfl | rfl <;> first | exact xN rfl | (rw [<- e]; exact lq)
   ·exact ⟨y.v,by rw [tb,e]; simp [dF,dA.of,ZJ],by rw [tb]; exact hli.mems⟩
  ·simp [-V,-y3,-y0,J,g8,m8,e];refine hk _ _ (XN _ _ _ _ (fun t ht=>?_) ?_ (by omega) (fun t n=>by simp [DA]; rfl) (fun q hq=>?_) ?_)
   ·have q:∀ c,9<=c->¬ t=c:=fun c hc=>by omega
    simp [q,fN,show t<171 from by omega]
   ·repeat (first | exact gw.back | refine pB.put ?_ (fun _ _ _=>rfl) | refine pB.put ?_ (fC (by omega)) | refine pB.put ?_ lq | refine pB.put ?_ (by rw [<- e]; exact lq))
   ·simp only [yh,yJ,or_false] at hq;rcases hq with rfl | rfl | rfl | rfl | rfl | rfl | rfl | rfl | rfl | rfl <;> first | exact xN rfl | (rw [<- e]; exact lq)
   ·exact ⟨y.v,by rw [tb,e]; simp [dF,dA.of,ZJ],by rw [tb]; exact hli.mems⟩
theorem kind6_ev (jc:(GA l (i:Int)).kind=6) (hk:∀ n8 s',PM n0 s0 dn l i n8 s'->PD.run (UF gA eA) (KJ gA eA) s' k=some r):ZB.run (UF gA eA) (KJ gA eA) s k=some r:=by
 obtain ⟨e1,m1,e2,m2,e4,e5,e6,m5,⟨cm,cg,co,cn,cl⟩,lowE,lt⟩:=h;have zb:=cH (dn:=dn) hl (z:=(i:Int)) (by omega) (by omega);have g:l[i]?=some l[i]:=y4 hi;have gm:(l.map HC)[i]?=some (HC (GA l (i:Int))):=by simp [GA,g]
 have gx:l[((i:Int)).toNat]?=some (GA l (i:Int)):=by simp [GA,g]
 have ub:dC l (i:Int)=6:=by rw [<- jc]; simp [dC,GA,g]
 have tb:zB l (i:Int)=if (PE l (i:Int) false (GA l (i:Int)).parts).isEmpty=true then .of 5 (ZJ (i:Int)) else { dA.of 6 (ZJ (i:Int)) with opn:=decide ((GA l (i:Int)).b % 2=1),mn:=false,mems:=(PE l (i:Int) false (GA l (i:Int)).parts) }:=by simp only [zB,jc]
 have hx:=nF hl hi;have hN5:=hl.2.1;rw [ub] at zb;generalize GA l (i:Int)=x at *
 have ab:=pD 6;obtain ⟨xk,xa,xb,xc,_⟩:=i9 x hx;have sy:x.b.tmod 2=x.b % 2:=yy xb.1;simp only [fA,OF,HC] at zb gm;obtain ⟨z,hz⟩:∃ z:Int,z=i:=⟨_,rfl⟩;have ec:0<=z:=by omega
 have bo:z<l.length:=by omega
 have iu:IntKind.i64.wrap (65 + z)=65 + z:=IntWalk.i64_in _ (by omega);have ll:IntKind.i32.wrap (65 + z)=65 + z:=BW _ (by omega);rw [<- hz] at e6 zb gx tb;rw [show i=z.toNat from by omega] at gm;simp [ZB,-V,-y3,-y0,J,e1,m1,e4,e6,ec,gm,zb,ab,iu,ll,sy];refine j8 hl ec bo gx _ ?_ ?_ _ (fun y s' hc hli=>?_)
 ·exact ((((((cl.mono (by dsimp only; omega)).set aA).set aA).set aA).set aA).set aA).set aA
 ·dsimp only;refine pB.wait ?_ (by rw [cg]; exact hG.mono (by omega))
  repeat (first | exact lowE.mono (by omega) | refine pB.put ?_ (fun _ _ _=>rfl) | refine pB.put ?_ (fC (by omega)))
 ·obtain ⟨pk,ij,co2,cn2,cl2⟩:=hc;dsimp only at ij co2 cn2 pk;have wq:=hli.mems;have lq:=wq.lowV;have g1:(s'.gh 1).v=.ptr 1 n0 0:=by rw [ij]; simp [gE,e1]
  have g2:(s'.gh 2).v=.ptr 2 n0 0:=by rw [ij]; simp [gE,e2]
  have g4:(s'.gh 4).v=.int .i64 l.length:=by rw [ij]; simp [gE,e4]
  have g5:(s'.gh 5).v=.ptr 5 (n0 + 3) 0:=by rw [ij]; simp [gE,e5]
  have g6:(s'.gh 6).v=.int .i64 z:=by rw [ij]; simp [gE,e6]
  have g8:(s'.gh 8).v=.ptr 8 (s.next + 1) 0:=by rw [ij]; simp [gE]
  have m8:s'.mem 8 (s.next + 1)=some [⟨.int .i64 6,.no⟩,⟨.str (Utf8.encode (65 + z)),.no⟩,⟨.int .i64 0,.no⟩,⟨.int .i64 0,.no⟩,⟨.int .i64 0,.no⟩,⟨.sl true [],.no⟩,⟨.sl true [],.no⟩,⟨.int .i64 0,.no⟩,⟨.int .i64 0,.no⟩,⟨.bool (decide (x.b % 2=1)),.no⟩]:=by rw [pk 8 (s.next + 1) (by omega)]; simp
  have gw:pB s'.next s'.gh:=by
   rw [ij];refine pB.wait ?_ (by rw [cg]; exact hG.mono (by omega))
   repeat (first | exact lowE.mono (by omega) | refine pB.put ?_ (fun _ _ _=>rfl) | refine pB.put ?_ (fC (by omega)))
  have XN:∀ (E:Nat->qA) (M:Nat->Nat->Option (List qA)) (row:List qA) (nx:Nat),(∀ t,t<9->(E t).v=(s'.gh t).v)->pB s'.next E->s'.next<nx->(∀ t n,M t n=if t=8/\n=s.next + 1 then some row else s'.mem t n)->(∀ q∈row,lowV s'.next q.v)->(∃ m,row.map (·.v)=dF (zB l z) m/\LI (zB l z).mems m s')->PM n0 s0 dn l i (s.next + 1) ⟨E,M,nx,s'.obj,uT 171 s'.gh⟩:=fun E M row nx hE hEl od hM xu hr=>by
   refine ⟨⟨?_,?_,?_,?_,?_,?_,?_,?_,⟨?_,?_,?_,?_,?_⟩,?_,?_⟩,?_,?_,?_⟩
   ·exact (hE 1 (by omega)).trans g1
   ·simp [hM,pk 1 n0 (by omega),m1]
   ·exact (hE 2 (by omega)).trans g2
   ·simpa [hM,pk 2 n0 (by omega)] using m2
   ·exact (hE 4 (by omega)).trans g4
   ·exact (hE 5 (by omega)).trans g5
   ·exact (hE 6 (by omega)).trans (by rw [g6,hz])
   ·refine m5.keep (by simp [hM,pk 5 (n0 + 3) (by omega)]) (fun N hN=>by simp [hM,pk 168 N (by omega)]) (fun N hN=>by simp [hM,pk 88 N (by omega)]) (by dsimp only; omega)
   ·intro t n hn;show M t n=_;rw [hM,if_neg (by omega),pk t n (by omega)];simp [show ¬ n=s.next from by omega,show ¬ n=s.next + 1 from by omega,cm t n hn]
   ·show uT 171 s'.gh=s0.gh;rw [ij,bG];exact cg
   ·exact co2.trans co
   ·dsimp only; omega
   ·intro t n r' ze q hq;have ze:M t n=some r':=ze;rw [hM] at ze;split at ze
    ·injection ze with ze; subst ze;exact FI (by dsimp only; omega) (xu q hq)
    ·exact FI (by dsimp only; omega) (cl2 t n r' ze q hq)
   ·exact hEl.mono (by dsimp only; omega)
   ·dsimp only; omega
   ·exact (hE 8 (by omega)).trans g8
   ·dsimp only; omega
   ·obtain ⟨m,ff,ph⟩:=hr;rw [<- hz];refine ⟨m,row,by show M 8 _=_; rw [hM,if_pos ⟨rfl,rfl⟩],ff,ph.keep (fun N hN=>?_) (by dsimp only; omega)⟩;show M 88 N=_;rw [hM,if_neg (by omega)]
  rcases wq with ⟨h0,e⟩ | ⟨N,h0,_,e,_⟩
  ·simp [-V,-y3,-y0,J,g8,m8,e];refine hk _ _ (XN _ _ _ _ (fun t ht=>?_) ?_ (by omega) (fun t n=>by simp [DA]; split <;> rfl) (fun q hq=>?_) ?_)
   ·have q:∀ c,9<=c->¬ t=c:=fun c hc=>by omega
    simp [q,fN,show t<171 from by omega]
   ·repeat (first | exact gw.back | refine pB.put ?_ (fun _ _ _=>rfl) | refine pB.put ?_ (fC (by omega)) | refine pB.put ?_ lq | refine pB.put ?_ (by rw [<- e]; exact lq))
   ·simp only [yh,yJ,or_false] at hq;rcases hq with rfl | rfl | rfl | rfl | rfl | rfl | rfl | rfl | rfl | rfl <;> first | exact xN rfl | (rw [<- e]; exact lq)
   ·refine ⟨.sl true [],?_,.inl ⟨?_,rfl⟩⟩
    ·rw [tb,if_pos (by simp [h0])]; simp [dF,dA.of,ZJ]
    ·rw [tb,if_pos (by simp [h0])]; rfl
  ·have pg:¬ ((PE l z false x.parts).length:Int)=0:=by
    have:=List.length_pos_iff.2 h0;omega
   simp [-V,-y3,-y0,J,g8,m8,e,pg,h0];refine hk _ _ (XN _ _ _ _ (fun t ht=>?_) ?_ (by omega) (fun t n=>by simp [DA]; rfl) (fun q hq=>?_) ?_)
   ·have q:∀ c,9<=c->¬ t=c:=fun c hc=>by omega
    simp [q,fN,show t<171 from by omega]
   ·repeat (first | exact gw.back | refine pB.put ?_ (fun _ _ _=>rfl) | refine pB.put ?_ (fC (by omega)) | refine pB.put ?_ lq | refine pB.put ?_ (by rw [<- e]; exact lq))
   ·simp only [yh,yJ,or_false] at hq;rcases hq with rfl | rfl | rfl | rfl | rfl | rfl | rfl | rfl | rfl | rfl <;> first | exact xN rfl | (rw [<- e]; exact lq)
   ·exact ⟨y.v,by rw [tb,if_neg (by simpa using h0),e]; simp [dF,dA.of,ZJ],by rw [tb,if_neg (by simpa using h0)]; exact hli.mems⟩
end
end
section
set_option maxHeartbeats 4000000
structure OfJ (n0:Nat) (s0:pA) (dn:Bool) (l:List jC) (i j:Nat) (s:pA):Prop where
 e1:(s.env 1).v=.ptr 1 n0 0
 m1:s.mem 1 n0=some [⟨.sl dn (l.map HC),.no⟩]
 e2:(s.env 2).v=.ptr 2 n0 0
 m2:∃ a,s.mem 2 n0=some [⟨.sl true [],a⟩]/\ON ⟨.sl true [],a⟩
 e4:(s.env 4).v=.int .i64 l.length
 e5:(s.env 5).v=.ptr 5 (n0 + 3) 0
 e6:(s.env 6).v=.int .i64 i
 m5:M5I n0 l j s
 calm:Calm n0 s0 s
 lowE:pB s.next s.env
 lt:n0 + 3<s.next
theorem eG {sz:Nat} {L:List (List AV)} (h:∀ c∈L,c.length=sz):eH (sA L) sz 0 L.length=some L:=by
 have ia:∀ {L:List (List AV)},(∀ c∈L,c.length=sz)->L.flatten.length=L.length * sz:=by
  intro L h
  induction L with
  | nil=>simp
  | cons c r ih =>
   simp only [yF,yp,yE];rw [ih fun c hc=>h c (yr _ hc),h c yl,yu];omega
 have hv:∀ l:List AV,(l.map fun v=>(⟨v,An.no⟩:qA)).map (·.v)=l:=fun l=>by simp [Function.comp_def]
 unfold eH;rw [if_pos (by rw [sA,yo,ia h]; omega)];congr 1;refine List.ext_getElem (by simp) fun i h1 h2=>?_
 simp only [List.getElem_map,List.getElem_range,yH];simp only [sA];rw [<- List.map_drop,<- yM,hv]
 induction L generalizing i with
 | nil=>simp at h2
 | cons c r ih =>
  have hc:=h c yl;cases i with
  | zero=>simp [<- hc]
  | succ i =>
   simp only [yF,List.getElem_cons_succ];rw [yu,Nat.add_comm,<- hc,<- List.drop_drop];rw [List.drop_left,hc];exact ih (fun c hc=>h c (yr _ hc)) i (by simpa using h2) (by simpa using h2)
theorem LI.stay2 {ms:List uC} {c:AV} {s s':pA} (h:LI ms c s) (hm:∀ n L,nD L=true->s.mem 88 n=some (sA L)->s'.mem 88 n=some (sA L)) (hn:s.next<=s'.next):LI ms c s':=by
 rcases h with h | ⟨N,h1,h2,h3,h4⟩
 ·exact .inl h
 ·exact .inr ⟨N,h1,yZ h2 hn,h3,hm N _ (Q0 _) h4⟩
theorem ZI.stay2 {S:List dA} {L:List (List AV)} {s s':pA} (h:ZI S L s) (hm:∀ n L,nD L=true->s.mem 88 n=some (sA L)->s'.mem 88 n=some (sA L)) (hn:s.next<=s'.next):ZI S L s' :=
 ⟨h.1,fun i t c ht hc=>by obtain ⟨m,h1,h2⟩:=h.2 i t c ht hc; exact ⟨m,h1,h2.stay2 hm hn⟩⟩
theorem tail_ev {r:RV} {n0:Nat} {s0:pA} {dn:Bool} {l:List jC} (hl:oks l) (hM0:dL n0 s0.mem) (hG:pB n0 s0.gh) {i:Nat} (hi:i<l.length) {n8:Nat} {s:pA} {k:Ex->pA->Option RV} (h:PM n0 s0 dn l i n8 s) (hk:∀ s',OfJ n0 s0 dn l i (i + 1) s'->k .nrm s'=some r):PD.run (UF gA eA) (KJ gA eA) s k=some r:=by
 obtain ⟨⟨e1,m1,e2,m2,e4,e5,e6,m5,⟨cm,cg,co,cn,cl⟩,lowE,lt⟩,e8,lt8,m,row,m8,ka,wq⟩:=h;have hN5:=hl.2.1;generalize hT:zB l (i:Int)=T at *
 have bt:=wq;have ia:row.length=10:=by have:=congrArg List.length ka; simpa [dF] using this
 have bn:wB true 10 0 row=some ⟨.agg (dF T m),.no⟩:=by
  unfold wB;simp [ia,<- ka];rw [yD (by rw [yo]; omega)]
 have hCl:(dF T m).length=10:=rfl;have hmf:∀ t n,t≠88->m.noName t n=true:=fun t n ht=>by
  rcases wq with ⟨_,rfl⟩ | ⟨N,_,_,rfl,_⟩
  ·rfl
  ·simp [AV.noName];omega
 have hmw:m.leaf=true:=by
  rcases wq with ⟨_,rfl⟩ | ⟨N,_,_,rfl,_⟩ <;> rfl
 have ox:∀ t n,t≠88->(dF T m).all (AV.noName t n)=true:=fun t n ht=>by
  refine y5.2 fun c hc=>?_
  simp only [dF,yh,yJ,or_false] at hc;rcases hc with rfl | rfl | rfl | rfl | rfl | rfl | rfl | rfl | rfl | rfl <;> first | exact hmf t n ht | rfl
 have ro:∀ c∈dF T m,F7 s.next c:=fun c hc=>by
  simp only [dF,yh,yJ,or_false] at hc;rcases hc with rfl | rfl | rfl | rfl | rfl | rfl | rfl | rfl | rfl | rfl <;> first | exact bt.low | exact qQ rfl
 have ls:∀ c∈dF T m,c.leaf=true:=fun c hc=>by
  simp only [dF,yh,yJ,or_false] at hc;rcases hc with rfl | rfl | rfl | rfl | rfl | rfl | rfl | rfl | rfl | rfl <;> first | exact hmw | rfl
 have ja:uB 120 (i + 1)=true:=by rw [TA]; omega
 have jk:(AV.agg (dF T m)).whole=true:=rfl;rcases m5 with ⟨zi,a,h5,hp5⟩ | ⟨N,L,zi,h5,oq,hN,rk,hLl,tb⟩
 ·subst zi;have ez:gB 10 [dF T m]=true:=rfl;have hraw:eH (sA [dF T m]) 10 0 1=some [dF T m]:=eG (L:=[dF T m]) (by simp [hCl]);generalize hC:dF T m=C at *
  have hC2:C.length=10:=hCl;simp [PD,-V,-y3,-y0,J,-wB,-mA,iB,kB,HA,JA,e5,e8,h5,m8,bn,AV.raws,hraw,ja,ez,hC2];have zk:∀ x∈sA [C],lowV s.next x.v:=K2 (fun c hc=>by simp only [yO] at hc; subst hc; exact ro) (fun c hc=>by simp only [yO] at hc; subst hc; exact ls);refine hk _ ⟨?_,?_,?_,?_,?_,?_,?_,.inr ⟨s.next,[C],by omega,by simp,by omega,by dsimp only; omega,by simp,rfl,?_⟩,⟨?_,?_,?_,?_,?_⟩,?_,?_⟩
  ·simp [e1]
  ·simp [m1]
  ·simp [e2]
  ·simpa using m2
  ·simp [e4]
  ·simp [e5]
  ·simp [e6]
  ·refine ⟨rfl,fun j t c ht hc=>?_⟩;have hj:j=0:=by
    rcases yK j with h0 | h0
    ·exact h0
    ·rw [yP (by simp; omega)] at hc; cases hc
   subst hj;simp at ht hc;subst ht;subst hc;rw [show zB l (0:Int)=T from hT];exact ⟨m,hC.symm,wq.keep (fun N hN=>by simp) (by dsimp only; omega)⟩
  ·repeat (first | exact cm | refine xC.set ?_ (by omega))
  ·exact cg
  ·exact co
  ·dsimp only; omega
  ·exact ((((cl.set zk).set zk).mono (Nat.le_succ _)).set fun x hx=>by simp at hx; subst hx; exact cN (by omega))
  ·dsimp only;have my:lowV s.next (.agg C):=fX ro
   repeat (first | exact lowE.mono (by omega) | refine pB.put ?_ (fun _ _ _=>rfl) | refine pB.put ?_ (fC (by omega)) | refine pB.put ?_ (cN (by omega)) | refine pB.put ?_ (FI (by omega) my))
  ·dsimp only; omega
 ·have ud:∀ c∈L,c.length=10:=fun c hc=>by simpa using y5.1 tb.els c hc
  have ez:gB 10 [dF T m]=true:=rfl;have hraw:eH (sA [dF T m]) 10 0 1=some [dF T m]:=eG (L:=[dF T m]) (by simp [hCl]);have hraw2:eH (sA L) 10 0 i=some L:=by rw [<- hLl]; exact eG ud
  have hnn2:(L++[dF T m]).flatten.all (AV.noName 168 N)=true:=by
   rw [List.flatten_append,List.all_append,y8];refine ⟨y5.2 fun v hv=>?_,by simpa using ox 168 N (by omega)⟩;obtain ⟨c,hc,hv⟩:=List.mem_flatten.1 hv;obtain ⟨j,hj,rfl⟩:=yB hc;have hjS:j<((List.range i).map fun (j:Nat)=>zB l (j:Int)).length:=by rw [tb.1]; exact hj
   obtain ⟨m',h1,h2⟩:=tb.2 j _ _ (y4 hjS) (y4 hj);rw [h1] at hv;simp only [dF,yh,yJ,or_false] at hv;rcases hv with rfl | rfl | rfl | rfl | rfl | rfl | rfl | rfl | rfl | rfl <;> first | rfl | skip
   rcases h2 with ⟨_,rfl⟩ | ⟨N',_,_,rfl,_⟩ <;> rfl
  generalize hC:dF T m=C at *
  have hC2:C.length=10:=hCl;simp [PD,-V,-y3,-y0,J,-wB,-mA,iB,kB,HA,JA,e5,e8,h5,m8,bn,AV.raws,hraw,hraw2,rk,ja,ez,hC2,hnn2,-y5,-List.flatten_append,-List.all_flatten,-List.all_append];have te:iV 168 N s.gh=s.gh:=by rw [cg]; exact hG.same oq
  have jb:∀ (s':pA),s'.mem=XV (XV (pV 168 N (XV s.mem 167 s.next (sA [C]))) 168 s.next (sA (L++[C]))) 5 (n0 + 3) [⟨.ref 168 s.next 10 0 (i + 1) (i + 1),.no⟩]->∀ n L,nD L=true->s.mem 88 n=some (sA L)->s'.mem 88 n=some (sA L):=fun s' ei n L' hL' h'=>by
   rw [ei];simp [h',dY hL']
  have zk:∀ x∈sA [C],lowV s.next x.v:=K2 (fun c hc=>by simp only [yO] at hc; subst hc; exact ro) (fun c hc=>by simp only [yO] at hc; subst hc; exact ls);have wz:∀ x∈sA (L++[C]),lowV s.next x.v:=fun x hx=>by
   rw [sA,List.flatten_append,yU] at hx;rcases yw.1 hx with hx | hx
   ·exact cl 168 N _ rk x hx
   ·exact zk x hx
  refine hk _ ⟨?_,?_,?_,?_,?_,?_,?_,.inr ⟨s.next,L++[C],by omega,by simp,by omega,by dsimp only; omega,by simp,by simp [hLl],?_⟩,⟨?_,?_,?_,?_,?_⟩,?_,?_⟩
  ·simp [eB,e1,AV.kill,AV.kill0]
  ·simp [tB,m1,AV.kill,AV.kill0]
  ·simp [eB,e2,AV.kill,AV.kill0]
  ·obtain ⟨a,m2,p2⟩:=m2;exact ⟨a,by simp [tB,m2,AV.kill,AV.kill0],p2⟩
  ·simp [eB,e4,AV.kill,AV.kill0]
  ·simp [eB,e5,AV.kill,AV.kill0]
  ·simp [eB,e6,AV.kill,AV.kill0]
  ·rw [J,yU,yj,yt,hT];subst hC;exact (tb.stay2 (jb _ rfl) (by dsimp only; omega)).snoc (wq.stay2 (jb _ rfl) (by dsimp only; omega))
  ·exact (((cm.set (by omega)).kill hM0 oq).set (by omega)).set (by omega)
  ·show iV 168 N s.gh=s0.gh;rw [te];exact cg
  ·exact co
  ·dsimp only; omega
  ·exact ((((cl.set zk).kill.set wz).mono (Nat.le_succ _)).set fun x hx=>by simp at hx; subst hx; exact cN (by omega))
  ·dsimp only;have my:lowV s.next (.agg C):=fX ro;have hN':N<s.next + 1:=by omega
   repeat (first | exact lowE.mono (by omega) | refine pB.kill ?_ | refine pB.put ?_ (fun _ _ _=>rfl) | refine pB.put ?_ (fC (by omega)) | refine pB.put ?_ (cN (by omega)) | refine pB.put ?_ (FI (by omega) my))
  ·dsimp only; omega
end
section
set_option maxHeartbeats 4000000
theorem head_ev {r:RV} {n0:Nat} {s0:pA} {dn:Bool} {l:List jC} (hl:oks l) (hM:dL n0 s0.mem) (hP:PureM n0 s0.mem) (hG:pB n0 s0.gh) (hG':kW s0.gh) {i:Nat} (hi:i<l.length) {s:pA} {k:Ex->pA->Option RV} (h:C3 n0 s0 dn l i s) (hk:∀ s',OfJ n0 s0 dn l i (i + 1) s'->k .nrm s'=some r):ZB.run (UF gA eA) (KJ gA eA) s k=some r:=by
 have ht:∀ n8 s',PM n0 s0 dn l i n8 s'->PD.run (UF gA eA) (KJ gA eA) s' k=some r:=fun n8 s' h'=>tail_ev hl hM hG hi h' hk
 have hx:=nF hl hi;have hr:1<=(GA l (i:Int)).kind/\(GA l (i:Int)).kind<=9:=by
  have:=hx.1.1;simp only [jC.kind];omega
 by_cases h1:(GA l (i:Int)).kind=1
 ·exact kind1_ev hl hi h h1 ht
 by_cases h2:(GA l (i:Int)).kind=2
 ·exact kind2_ev hl hi h h2 ht
 by_cases h3:(GA l (i:Int)).kind=3
 ·exact kind3_ev hl hi h h3 ht
 by_cases h4:(GA l (i:Int)).kind=4
 ·exact kind4_ev hl hG' hP hi h h4 ht
 by_cases h5:(GA l (i:Int)).kind=5
 ·exact kind5_ev hl hG hi h h5 ht
 by_cases h6:(GA l (i:Int)).kind=6
 ·exact kind6_ev hl hG hi h h6 ht
 by_cases h7:(GA l (i:Int)).kind=7
 ·exact kind7_ev hl hi h h7 ht
 by_cases h8:(GA l (i:Int)).kind=8
 ·by_cases hc:aK l (GA l (i:Int)).b<0
  ·exact kind8n_ev hl hi h h8 hc ht
  ·exact kind8p_ev hl hi h h8 hc ht
 ·exact kind9_ev hl hi h (by omega) ht
theorem OfJ.toI {n0:Nat} {s0:pA} {dn:Bool} {l:List jC} {i j:Nat} {s:pA} (h:OfJ n0 s0 dn l i j s) {E:Nat->qA} {nx:Nat} (hE:∀ t,t<9->¬ t=6->(E t).v=(s.env t).v) (h6:(E 6).v=.int .i64 j) (hL:pB nx E) (hn:s.next<=nx):C3 n0 s0 dn l j ⟨E,s.mem,nx,s.obj,s.gh⟩:=by
 obtain ⟨e1,m1,e2,m2,e4,e5,e6,m5,⟨cm,cg,co,cn,cl⟩,lowE,lt⟩:=h;exact ⟨(hE 1 (by omega) (by omega)).trans e1,m1,(hE 2 (by omega) (by omega)).trans e2,m2,(hE 4 (by omega) (by omega)).trans e4,(hE 5 (by omega) (by omega)).trans e5,h6,m5.keep rfl (fun _ _=>rfl) (fun _ _=>rfl) hn,⟨cm,cg,co,by dsimp only; omega,cl.mono hn⟩,hL,by dsimp only; omega⟩
theorem C3.toJ {n0:Nat} {s0:pA} {dn:Bool} {l:List jC} {i:Nat} {s:pA} (h:C3 n0 s0 dn l i s):OfJ n0 s0 dn l i i s:=⟨h.e1,h.m1,h.e2,h.m2,h.e4,h.e5,h.e6,h.m5,h.calm,h.lowE,h.lt⟩
def RA (l:List jC):List dA:=(List.range l.length).map fun (j:Nat)=>zB l (j:Int)
structure OfEnd (s0:pA) (l:List jC) (s:pA):Prop where
 calm:Calm s0.next s0 s
 e2:(s.env 2).v=.ptr 2 s0.next 0
 e3:(s.env 3).v=.bool true
 lt:s0.next<s.next
 typs:∃ N L,s.mem 2 s0.next=some [⟨.ref 168 N 10 0 l.length l.length,.no⟩]/\s0.next<=N/\N<s.next/\s.mem 168 N=some (sA L)/\L.length=l.length/\ZI (RA l) L s
theorem of_run {r:RV} {dn:Bool} {l:List jC} (hl:oks l) (s0:pA) (h0:(s0.env 0).v=.agg (OF dn l)) (hM:dL s0.next s0.mem) (hP:PureM s0.next s0.mem) (hE:pB s0.next s0.env) (hG:pB s0.next s0.gh) (hG':kW s0.gh) (k:Ex->pA->Option RV) (hk:∀ s',OfEnd s0 l s'->k .ret s'=some r):iF.code.run (UF gA eA) (KJ gA eA) s0 k=some r:=by
 have hN1:=hl.1;have hN5:=hl.2.1;have c1:¬ (l.length:Int)<1:=by omega
 have c2:¬ 5<(l.length:Int):=by omega
 simp only [OF] at h0;simp [iF,-V,-y3,-y0,J,h0,c1,c2];refine lA l.length (fun i s=>C3 s0.next s0 dn l i s) (fun e s=>e=.exit 0/\C3 s0.next s0 dn l l.length s) (fun i hi s k' h ih zc=>?_) _ _ ?_ (fun e s h=>?_)
 ·refine tA ?_;rw [of_L2];by_cases fa:i<l.length
  ·have ng:=ZA (i:=i);simp [-V,-y3,-y0,J,h.e4,h.e6,fa];refine head_ev hl hM hP hG hG' fa (h.toJ.toI (fun t ht h6=>?_) ?_ ?_ ?_) (fun s' hj=>?_)
   ·have q:∀ c,9<=c->¬ t=c:=fun c hc=>by omega
    simp [q]
   ·simp [h.e6]
   ·try dsimp only
    repeat (first | exact h.lowE.mono (by omega) | refine pB.put ?_ (fun _ _ _=>rfl))
   ·(try dsimp only); omega
   ·simp [-V,-y3,-y0,J,hj.e6,ng];refine ih fa _ (hj.toI (fun t ht h6=>?_) ?_ ?_ ?_)
    ·have q:∀ c,9<=c->¬ t=c:=fun c hc=>by omega
     simp [q,h6]
    ·simp
    ·try dsimp only
     repeat (first | exact hj.lowE.mono (by omega) | refine pB.put ?_ (fun _ _ _=>rfl))
    ·(try dsimp only); omega
  ·have bg:i=l.length:=by omega
   subst bg;simp [-V,-y3,-y0,J,h.e4,h.e6];refine zc _ _ ⟨rfl,h.toJ.toI (fun t ht h6=>?_) ?_ ?_ ?_⟩
   ·have q:∀ c,9<=c->¬ t=c:=fun c hc=>by omega
    simp [q]
   ·simp [h.e6]
   ·try dsimp only
    repeat (first | exact h.lowE.mono (by omega) | refine pB.put ?_ (fun _ _ _=>rfl))
   ·(try dsimp only); omega
 ·refine ⟨?_,?_,?_,⟨.ex,?_,x8 _⟩,?_,?_,?_,.inl ⟨rfl,.ex,?_,x8 _⟩,⟨?_,?_,?_,?_,?_⟩,?_,?_⟩
  all_goals first | (simp; done) | skip
  ·dsimp only
   repeat (first | exact xC.refl | refine xC.set ?_ (by omega))
  ·dsimp only; omega
  ·exact (((((hM.mono (by dsimp only; omega)).set aA).set aA).set aA))
  ·dsimp only
   repeat (first | exact hE.mono (by omega) | refine pB.put ?_ (fun _ _ _=>rfl) | refine pB.put ?_ (fC (by omega)))
 ·obtain ⟨rfl,h⟩:=h;obtain ⟨e1,m1,e2,⟨a2,m2,p2⟩,e4,e5,e6,m5,⟨cm,cg,co,cn,cl⟩,lowE,lt⟩:=h;rcases m5 with ⟨zi,_⟩ | ⟨N,L,zi,h5,oq,hN,rk,hLl,tb⟩
  ·omega
  simp [-V,-y3,-y0,J,e5,h5,e2,m2];refine hk _ ⟨⟨?_,?_,?_,?_,?_⟩,?_,?_,?_,N,L,?_,oq,?_,?_,hLl,?_⟩
  ·exact cm.set (yn _)
  ·exact cg
  ·exact co
  ·dsimp only; omega
  ·exact (cl.mono (Nat.le_succ _)).set fun x hx=>by simp at hx; subst hx; exact cN (by omega)
  ·simp [e2]
  ·simp
  ·dsimp only; omega
  ·simp
  ·dsimp only; omega
  ·simp [rk]
  ·exact tb.keep (fun N _=>by simp) (by dsimp only; omega)
end
section
set_option maxHeartbeats 4000000
theorem of_bad {r:RV} {dn:Bool} {l:List jC} (hl:¬ (1<=l.length/\l.length<=5)) (s0:pA) (h0:(s0.env 0).v=.agg (OF dn l)) (hM:dL s0.next s0.mem) (k:Ex->pA->Option RV) (hk:∀ s',Calm s0.next s0 s'->(s'.env 2).v=.ptr 2 s0.next 0->(s'.env 3).v=.bool false->s'.mem 2 s0.next=some [⟨.sl true [],.no⟩]->k .ret s'=some r):iF.code.run (UF gA eA) (KJ gA eA) s0 k=some r:=by
 simp only [OF] at h0;by_cases c1:(l.length:Int)<1
 ·have ni:l.length=0:=by omega
  have c1'':l=[]:=yS ni;subst c1'';simp [iF,-V,-y3,-y0,J,h0];refine hk _ ⟨?_,rfl,rfl,?_,?_⟩ ?_ ?_ ?_
  ·dsimp only
   repeat (first | exact xC.refl | refine xC.set ?_ (by omega))
  ·dsimp only; omega
  ·exact (((hM.mono (by dsimp only; omega)).set aA).set aA).set aA
  ·simp
  ·simp
  ·simp
 ·have c2:5<(l.length:Int):=by omega
  simp [iF,-V,-y3,-y0,J,h0,c1,c2];refine hk _ ⟨?_,rfl,rfl,?_,?_⟩ ?_ ?_ ?_
  ·dsimp only
   repeat (first | exact xC.refl | refine xC.set ?_ (by omega))
  ·dsimp only; omega
  ·exact (((hM.mono (by dsimp only; omega)).set aA).set aA).set aA
  ·simp
  ·simp
  ·simp
end
theorem X0 {sz:Nat} {L:List (List AV)} (h:gB sz L=true) {k:Nat} {c:List AV} (hk:L[k]?=some c) :
  sA L=sA (L.take k)++(c.map (⟨·,.no⟩)++sA (L.drop (k + 1)))/\(sA (L.take k)).length=k * sz/\k<L.length/\c.length=sz:=by
 obtain ⟨fa,he⟩:=yb.1 hk;have h1:gB sz (L.take k)=true:=y5.2 fun x hx=>y5.1 h x (List.mem_of_mem_take hx)
 refine ⟨?_,?_,fa,?_⟩
 ·have:L=L.take k++(c :: L.drop (k + 1)):=by rw [<- he,<- y9 fa,List.take_append_drop]
  have h2:=congrArg sA this;rw [wG] at h2;rw [h2];simp [sA]
 ·rw [mG h1,yz,Nat.min_eq_left (by omega)]
 ·have:=y5.1 h c (yk hk);simpa using this
theorem row_join {L:List (List AV)} {k:Nat} (hk:k<L.length) (c:List AV):sA (L.take k)++(c.map (⟨·,.no⟩)++sA (L.drop (k + 1)))=sA (L.set k c):=by
 have:L.set k c=L.take k++(c :: L.drop (k + 1)):=by
  rw [List.set_eq_take_append_cons_drop,if_pos hk]
 rw [this,wG];simp [sA]
section
variable {sz:Nat} {L:List (List AV)} (h:gB sz L=true) {k j:Nat} {c:List AV} (hk:L[k]?=some c)
include sz L h k j c hk
theorem row_get1 {v:AV} (hj:c[j]?=some v) (z:Nat):wB false z (k * sz + j) (sA L)=some ⟨v,.no⟩:=by
 obtain ⟨h1,h2,h3,h4⟩:=X0 h hk;obtain ⟨nh,_⟩:=yb.1 hj;rw [h1,iB,yW (by omega),h2,Nat.add_sub_cancel_left,yG (by simpa using nh),yc,hj];rfl
theorem I8 (hj:j<c.length) {x:AV} (hx:x.leaf=true) (z:Nat):mA false z (k * sz + j) (sA L) x .no=some (sA (L.set k (c.set j x))):=by
 obtain ⟨h1,h2,h3,h4⟩:=X0 h hk;rw [<- row_join h3,h1];unfold mA;simp only [yq,if_false];rw [if_pos ⟨hx,by simp only [yp,yo,h2]; omega⟩];congr 1;rw [List.set_append_right (h:=by omega),h2,Nat.add_sub_cancel_left,List.set_append_left (h:=by simpa using hj),List.map_set]
end
theorem K0 (row:List qA) (sz off len:Nat):sD row sz off len=if row.all (fun x=>x.v.free0)=true then eH row sz off len else none:=by
 unfold sD eH;by_cases h1:off + len * sz<=row.length <;> by_cases h2:row.all (fun x=>x.v.free0)=true <;> simp only [h1,h2,true_and,false_and,and_true,and_false,if_true,if_false,yq]
theorem PZ {s:pA} {v:AV} (h:v.free0=true):AV.frz1 s v=v:=by
 cases v <;> first | rfl | (simp [AV.free0] at h; done)
theorem frz_row {s:pA} {t n sz c:Nat} {L:List (List AV)} (h:gB sz L=true) (hm:s.mem t n=some (sA L)) (hf:(L.map fun c=>c.map (AV.frz1 s)).flatten.all AV.free0=true):AV.frz0 s (.ref t n sz 0 L.length c)=.sl false (L.map fun c=>c.map (AV.frz1 s)):=by
 have hr:eH (sA L) sz 0 L.length=some L:=eG fun c hc=>by simpa using y5.1 h c hc
 simp only [AV.frz0,hm,V,K0];by_cases ta:(sA L).all (fun x=>x.v.free0)=true
 ·rw [if_pos ta,hr];have:(L.map fun c=>c.map (AV.frz1 s))=L.map id:=ym fun c hc=>by
   have:c.map (AV.frz1 s)=c.map id:=ym fun v hv=>PZ (by
    have:=y5.1 ta ⟨v,.no⟩ (yA.2 ⟨v,List.mem_flatten.2 ⟨c,hc,hv⟩,rfl⟩);exact this)
   rwa [List.map_id] at this
  rw [this,List.map_id]
 ·rw [if_neg ta];simp only [T3,hr,V];rw [if_pos hf]
def rwM (n:Nat) (a b:uC):Prop:=b.id=a.id/\b.name=a.name/\b.crit=a.crit/\(b=a\/(0<=b.ty/\b.ty<n/\b.has=false/\b.dflt=Vl.zero))
def rwL (n:Nat) (xs bs:List uC):Prop:=xs.length=bs.length/\∀ (i:Nat) a b,xs[i]?=some a->bs[i]?=some b->rwM n a b
theorem G8 (n:Nat) (xs:List uC):rwL n xs xs:=⟨rfl,fun i a b h h'=>by
 rw [h] at h';injection h' with h';subst h';exact ⟨rfl,rfl,rfl,.inl rfl⟩⟩
def uC.rewired (m:uC) (ty:Int):uC:=⟨m.id,m.name,ty,m.crit,false,Vl.zero⟩
theorem rwL_set {n:Nat} {xs bs:List uC} (h:rwL n xs bs) {k:Nat} {m:uC} (hk:bs[k]?=some m) {ty:Int} (h0:0<=ty) (h1:ty<n):rwL n xs (bs.set k (m.rewired ty)):=by
 obtain ⟨hl,h⟩:=h;refine ⟨by simpa using hl,fun i a b ha hb=>?_⟩;rw [List.getElem?_set] at hb;split at hb
 ·rename_i e;subst e;split at hb
  ·injection hb with hb;subst hb;obtain ⟨g1,g2,g3,_⟩:=h k a m ha hk;exact ⟨g1,g2,g3,.inr ⟨h0,h1,rfl,rfl⟩⟩
  ·cases hb
 ·exact h i a b ha hb
def MemsR (n:Nat) (xs:List uC) (c:AV) (s:pA):Prop :=
 (xs=[]/\c=.sl true [])\/∃ N bs,xs≠[]/\rwL n xs bs/\c=.ref 88 N 13 0 xs.length xs.length/\s.mem 88 N=some (sA (bs.map bA))
def JR (n:Nat) (S:List dA) (L:List (List AV)) (s:pA):Prop:=S.length=L.length/\∀ (i:Nat) (t:dA) (c:List AV),S[i]?=some t->L[i]?=some c->∃ m,c=dF t m/\MemsR n t.mems m s
theorem ZI.toR {S:List dA} {L:List (List AV)} {s:pA} (h:ZI S L s) (n:Nat):JR n S L s:=⟨h.1,fun i t c ht hc=>by
 obtain ⟨m,h1,h2⟩:=h.2 i t c ht hc;refine ⟨m,h1,?_⟩;rcases h2 with h2 | ⟨N,g1,_,g3,g4⟩
 ·exact .inl h2
 ·exact .inr ⟨N,_,g1,G8 n _,g3,g4⟩⟩
theorem JR.els {n:Nat} {S:List dA} {L:List (List AV)} {s:pA} (h:JR n S L s):gB 10 L=true:=by
 refine y5.2 fun c hc=>?_
 obtain ⟨i,hi,rfl⟩:=yB hc;have ia:=h.1;obtain ⟨m,h1,_⟩:=h.2 i S[i] L[i] (y4 (by omega)) (y4 hi);rw [h1];rfl
theorem JR.keep {n:Nat} {S:List dA} {L:List (List AV)} {s s':pA} (h:JR n S L s) (hm:∀ N,s'.mem 88 N=s.mem 88 N):JR n S L s':=⟨h.1,fun i t c ht hc=>by
 obtain ⟨m,h1,h2⟩:=h.2 i t c ht hc;refine ⟨m,h1,?_⟩;rcases h2 with h2 | ⟨N,bs,g1,g2,g3,g4⟩
 ·exact .inl h2
 ·exact .inr ⟨N,bs,g1,g2,g3,(hm N).trans g4⟩⟩
theorem memC_inj {a b:List uC} (h:sA (a.map bA)=sA (b.map bA)) (hl:a.length=b.length):a.map bA=b.map bA:=by
 have h1:=eG (sz:=13) (L:=a.map bA) (by simp [bA]);have h2:=eG (sz:=13) (L:=b.map bA) (by simp [bA]);rw [h] at h1;simp only [yo] at h1 h2;rw [hl,h2] at h1;injection h1 with h1;exact h1.symm
theorem JR.store {n:Nat} {S:List dA} {L:List (List AV)} {s s':pA} (h:JR n S L s) {N k:Nat} {bs:List uC} {m:uC} (hN:s.mem 88 N=some (sA (bs.map bA))) (hk:bs[k]?=some m) {ty:Int} (h0:0<=ty) (h1:ty<n) (hm:∀ N',s'.mem 88 N'=if N'=N then some (sA ((bs.set k (m.rewired ty)).map bA)) else s.mem 88 N'):JR n S L s':=⟨h.1,fun i t c ht hc=>by
 obtain ⟨m',g1,g2⟩:=h.2 i t c ht hc;refine ⟨m',g1,?_⟩;rcases g2 with g2 | ⟨N',tx,g2,g3,g4,g5⟩
 ·exact .inl g2
 ·by_cases e:N'=N
  ·subst e;rw [hN] at g5;injection g5 with g5;have ia:bs.length=tx.length:=by
    have e1:=congrArg List.length g5;rw [mG (wW _),mG (wW _)] at e1;simp only [yo] at e1;omega
   have bt:=memC_inj g5 ia;have zc:k<tx.length:=by rw [<- ia]; exact (yb.1 hk).1
   have hkm:bA tx[k]=bA m:=by
    have:=congrArg (·[k]?) bt;simp only [yc,hk,y4 zc,yx,Option.some.injEq] at this;exact this.symm
   refine .inr ⟨N',tx.set k (tx[k].rewired ty),g2,rwL_set g3 (y4 zc) h0 h1,g4,?_⟩;rw [hm,if_pos rfl,List.map_set,List.map_set,bt];have:bA (m.rewired ty)=bA (tx[k].rewired ty):=by
    simp only [bA,List.cons.injEq,AV.int.injEq,AV.str.injEq,AV.bool.injEq,true_and] at hkm;simp only [bA,uC.rewired,hkm.1,hkm.2.1,hkm.2.2.2.1]
   rw [this]
  ·exact .inr ⟨N',tx,g2,g3,g4,by rw [hm,if_neg e]; exact g5⟩⟩
def rwT (n:Nat) (a b:dA):Prop:=∃ bs,rwL n a.mems bs/\b={ a with mn:=bs.isEmpty,mems:=bs }
def rwS (n:Nat) (S T:List dA):Prop:=S.length=T.length/\∀ (i:Nat) a b,S[i]?=some a->T[i]?=some b->rwT n a b
end Go.Proofs.YtbnlmgncbgaepaaGreat
