/- A part of the proof. -/
import Derived.Test.YtjoaiabjebpbjaaGreatSg
set_option linter.all false
set_option maxRecDepth 100000
set_option maxHeartbeats 8000000
open Option renaming bind_some → V, map_eq_some_iff → yg, map_some → yq
open List renaming range_succ → J, map_map → y0, getElem?_eq_getElem → y4, getElem_mem → y5, all_eq_true → y6, getElem?_map → y8, drop_eq_getElem_cons → y9, mem_cons → yc, drop_eq_nil_of_le → ye, mem_cons_of_mem → yh, mem_cons_self → yk, map_cons → yl, getElem?_eq_some_iff → ym, length_map → yn, map_nil → yo, take_append_getElem → yr, take_of_length_le → yv, getElem_of_mem → yy, map_congr_left → yz, length_append → yA, mem_map → yB, flatten_cons → yC, mem_append → yE, eq_nil_of_length_eq_zero → yF, not_mem_nil → yH, length_cons → yI, mem_singleton → yL, length_take → yN, getElem?_append_right → yP, mem_of_getElem? → yQ, take_append_drop → yR, getElem?_append_left → yV, getElem?_eq_none → yZ
open Int renaming toNat_lt → y3, tmod_eq_emod_of_nonneg → yu, emod_nonneg → yJ, emod_lt_of_pos → yM
open Bool renaming and_eq_true → y7, false_eq_true → yp
open Nat renaming le_refl → yf, succ_mul → yt, le_trans → yw, zero_add → yD, eq_zero_or_pos → yG, lt_of_lt_of_le → yW
namespace Go.Proofs.YtjoaiabjebpbjaaGreat
open Go
structure b6 where
 id:Int
 ty:Int
 flag:Int
structure OD where
 k:Int
 a:Int
 b:Int
 c:Int
 pn:Bool
 parts:List b6
def prtC (x:b6):List AV:=[.int .u8 x.id,.int .u8 x.ty,.int .u8 x.flag]
def AD (x:OD):List AV:=[.int .u8 x.k,.int .u8 x.a,.int .u8 x.b,.int .u8 x.c,.sl x.pn (x.parts.map prtC)]
def kJ (n:Bool) (l:List OD):List AV:=[.sl n (l.map AD)]
def u8 (n:Int):Prop:=0<=n/\n<=255
def b6.ok (x:b6):Prop:=u8 x.id/\u8 x.ty/\u8 x.flag
def OD.ok (x:OD):Prop:=u8 x.k/\u8 x.a/\u8 x.b/\u8 x.c/\x.parts.length<=9223372036854775807/\∀ p∈x.parts,p.ok
def OD.kind (x:OD):Int:=1 + x.k % 9
def OD.low (x:OD):Int:=x.a % 7 - 3
def OD.high (x:OD):Int:=x.low + x.b % 6
theorem C7 {x:OD} (h:x.ok):1<=x.kind/\x.kind<=9:=by
 obtain ⟨⟨h1,h2⟩,_⟩:=h;simp only [OD.kind];omega
theorem u8_mod (n m:Int) (h:u8 n) (hm:0<m) (hm2:m<=255):n.tmod m=n % m/\IntKind.u8.wrap (n % m)=n % m:=by
 obtain ⟨h1,h2⟩:=h;have e:=yu h1 (b:=m);have g1:=yJ n (b:=m) (by omega);have g2:=yM n hm;refine ⟨e,?_⟩;simp only [IntKind.wrap,IntKind.bits,IntKind.signed];simp;omega
theorem kind_ev (dn:Bool) (l:List OD) (z:Int) (x:OD) (hz:0<=z) (h:l[z.toNat]?=some x) (hx:x.ok):sA 72 [.agg (kJ dn l),.int .i64 z] (.int .i64 x.kind):=by
 refine wA (c:=wM) rfl rfl ?_;have g:(l.map AD)[z.toNat]?=some (AD x):=by simp [h]
 obtain ⟨e1,e2⟩:=u8_mod x.k 9 hx.1 (by omega) (by omega);simp only [AD] at g;simp [wM,kJ,-V,-y3,-y0,J,g,hz,e1];have:=hx.1;simp only [u8] at this;rw [IntWalk.i64_in (x.k % 9) (by omega),IntWalk.i64_in _ (by omega)];rfl
theorem C2 (k:Int):sA 156 [.int .i64 k] (.bool (decide (7<=k))):=by
 refine wA (c:=OJ) rfl rfl ?_;simp [OJ,-V,-y3,-y0,J]
theorem low_ev (x:OD) (hx:x.ok):sA 74 [.agg (AD x)] (.int .i64 x.low):=by
 refine wA (c:=RN) rfl rfl ?_;obtain ⟨e1,e2⟩:=u8_mod x.a 7 hx.2.1 (by omega) (by omega);simp [RN,AD,-V,-y3,-y0,J,e1];rw [IntWalk.i64_in (x.a % 7) (by omega),IntWalk.i64_in _ (by omega)];rfl
theorem high_ev (x:OD) (hx:x.ok):sA 75 [.agg (AD x)] (.int .i64 x.high):=by
 refine wA (c:=qM) rfl rfl ?_;obtain ⟨e1,e2⟩:=u8_mod x.b 6 hx.2.2.1 (by omega) (by omega);have:=low_ev x hx;simp only [AD] at this;simp [qM,AD,-V,-y3,-y0,J,e1,this];rw [IntWalk.i64_in (x.b % 6) (by omega),IntWalk.i64_in _ (by simp only [OD.low]; omega)];rfl
def bitZ (a:Int) (i:Nat):Bool:=decide (a / 2 ^ i % 2=1)
def MW (a:Int):Nat->List Int
 | 0=>[]
 | i + 1=>MW a i++if bitZ a i then [((i + 1:Nat):Int)] else []
def OF (a:Int):List Int:=if MW a 6=[] then [1] else MW a 6
def QL (n:Int):List AV:=[.int .i64 n]
theorem qX (a:Int):∀ i,(MW a i).length<=i
 | 0=>yf _
 | i + 1=>by
  have:=qX a i;rw [MW,yA];split <;> simp <;> omega
theorem els_int (l:List Int):kB 1 (l.map QL)=true:=rD _ _ _ fun _=>rfl
theorem ids7_ev (x:OD) (hx:x.ok):sA 76 [.agg (AD x)] (.sl false ((OF x.a).map QL)):=by
 refine wA (c:=WN) rfl rfl ?_;obtain ⟨hk,ha,hb,hc,hp,hpp⟩:=hx;obtain ⟨ha1,ha2⟩:=ha;simp [WN,AD,-V,-y3,-y0,J];refine bA 6 (fun i s=>(s.env 1).v=.ptr 1 1 0/\s.mem 1 1=some [⟨.int .u8 x.k,.no⟩,⟨.int .u8 x.a,.no⟩,⟨.int .u8 x.b,.no⟩,⟨.int .u8 x.c,.no⟩,⟨.sl x.pn (x.parts.map prtC),.no⟩]/\(s.env 4).v=.int .i64 i/\(s.env 3).v=.sl (MW x.a i).isEmpty ((MW x.a i).map QL)/\(MW x.a i=[]/\(s.env 3).a=.ex\/¬ MW x.a i=[]/\(s.env 3).a=.own 19 3))
  (fun e s=>e=.exit 0/\(s.env 3).v=.sl (MW x.a 6).isEmpty ((MW x.a 6).map QL)/\(MW x.a 6=[]/\(s.env 3).a=.ex\/¬ MW x.a 6=[]/\(s.env 3).a=.own 19 3)) (fun i hi s k h ih hk=>?_) _ _ ?_ (fun e s h=>?_)
 ·obtain ⟨e1,m1,e4,e3,an⟩:=h;refine uA ?_;by_cases fa:i<6
  ·have ga:(i:Int)<6:=by omega
   have gn:shN .u8 i=i:=by simp [shN,IntKind.bits]; omega
   have hy:x.a.fdiv (2 ^ i)=x.a / 2 ^ i:=Int.fdiv_eq_ediv_of_nonneg _ (Int.pow_nonneg (by omega));have tg:0<=x.a / 2 ^ i:=Int.ediv_nonneg ha1 (Int.pow_nonneg (by omega));have hm:(x.a / 2 ^ i).tmod 2=x.a / 2 ^ i % 2:=yu tg;have xh:=LA (i:=i);have hl:=qX x.a i;have ja:PB 8 ((MW x.a i).length + 1)=true:=by rw [CA]; omega
   have ed:=els_int (MW x.a i);have nv:MW x.a (i + 1)=MW x.a i++if bitZ x.a i then [((i + 1:Nat):Int)] else []:=rfl
   have hb:bitZ x.a i=decide (x.a / 2 ^ i % 2=1):=rfl;generalize hI:MW x.a i=L at *
   generalize hJ:MW x.a (i + 1)=L' at *
   generalize x.a / 2 ^ i=y at *
   by_cases c:y % 2=1
   ·rcases an with ⟨a0,a3⟩ | ⟨a0,a3⟩
    ·subst a0;have eg:PB 8 1=true:=by rw [CA]; omega
     simp [fH,-V,-y3,-y0,J,e1,m1,e4,e3,a3,ga,gn,hy,hm,xh,c,eg];refine ih fa _ ⟨?_,?_,?_,?_,?_⟩ <;> simp [e1,m1,nv,hb,c,QL,An.strip]
    ·have hem:L.isEmpty=false:=by
      cases L with
      | nil=>exact absurd rfl a0
      | cons=>rfl
     rw [hem] at e3;simp [fH,-V,-y3,-y0,J,e1,m1,e4,e3,a0,a3,ga,gn,hy,hm,xh,c,ja,ed];refine ih fa _ ⟨?_,?_,?_,?_,?_⟩ <;> simp [e1,m1,nv,hb,c,QL,An.strip]
   ·simp [fH,-V,-y3,-y0,J,e1,m1,e4,e3,ga,gn,hy,hm,xh,c];refine ih fa _ ⟨?_,?_,?_,?_,?_⟩ <;> simp [e1,m1,e3,an,nv,hb,c,QL,An.strip]
  ·have hi6:i=6:=by omega
   subst hi6;simp [fH,-V,-y3,-y0,J,e4];exact hk _ _ ⟨rfl,by simpa using e3,by simpa using an⟩
 ·simp [MW]
 ·obtain ⟨rfl,e3,an⟩:=h;have hl:=qX x.a 6;generalize hI:MW x.a 6=L at *
  rcases an with ⟨a0,a3⟩ | ⟨a0,a3⟩
  ·subst a0;have eg:PB 8 1=true:=by rw [CA]; omega
   simp [-V,-y3,-y0,J,e3,a3,eg,OF,hI,QL]
  ·simp [-V,-y3,-y0,J,e3,a3,a0,OF,hI]
def UC (l:List OD) (z:Int):Int:=match l[z.toNat]? with
 | some x=>x.kind
 | none=>0
def oks (l:List OD):Prop:=1<=l.length/\l.length<=5/\∀ x∈l,x.ok
theorem HH {dn:Bool} {l:List OD} (hl:oks l) {z:Int} (h0:0<=z) (h1:z<l.length):sA 72 [.agg (kJ dn l),.int .i64 z] (.int .i64 (UC l z)):=by
 have fa:z.toNat<l.length:=by omega
 have g:l[z.toNat]?=some l[z.toNat]:=y4 fa;have:=kind_ev dn l z _ h0 g (hl.2.2 _ (y5 fa));rw [UC,g];exact this
theorem K7 {l:List OD} (hl:oks l) {z:Int} (h0:0<=z) (h1:z<l.length):1<=UC l z/\UC l z<=9:=by
 have fa:z.toNat<l.length:=by omega
 have g:l[z.toNat]?=some l[z.toNat]:=y4 fa;rw [UC,g];exact C7 (hl.2.2 _ (y5 fa))
def uW (k:Int):Bool:=decide (1<=k/\k<=4)
def TG (l:List OD) (code:Int):Nat->Nat->Int
 | 0,_=>-1
 | n + 1,k=>if uW (UC l ((code + k) % l.length))=true then (code + k) % l.length else TG l code n (k + 1)
def TK (l:List OD) (code:Int):Int:=TG l code l.length 0
theorem NP {l:List OD} (hl:oks l) (code:Int):∀ n k,-1<=TG l code n k/\TG l code n k<l.length
 | 0,k=>by have:=hl.1; simp only [TG]; omega
 | n + 1,k=>by
  have hp:=hl.1;have h1:=yJ (code + k) (b:=(l.length:Int)) (by omega);have h2:=yM (code + k) (b:=(l.length:Int)) (by omega);have:=NP hl code n (k + 1);simp only [TG];split <;> omega
theorem key_ev (dn:Bool) (l:List OD) (hl:oks l) (code:Int) (hc:u8 code):sA 78 [.agg (kJ dn l),.int .u8 code] (.int .i64 (TK l code)):=by
 refine wA (c:=EN) rfl rfl ?_;obtain ⟨kq,fl⟩:=hc;have hN:=hl.1;have hN5:=hl.2.1;have ac:=fun z h0 h1=>HH (dn:=dn) hl (z:=z) h0 h1
 simp only [sA,kJ] at ac ⊢;simp [EN,-V,-y3,-y0,J];refine bA l.length (fun i s=>(s.env 2).v=.ptr 2 1 0/\s.mem 2 1=some [⟨.sl dn (l.map AD),.no⟩]/\(s.env 1).v=.int .u8 code/\(s.env 5).v=.int .i64 l.length/\(s.env 6).v=.int .i64 i/\TG l code (l.length - i) i=TK l code)
  (fun e s=>(e=.exit 0/\TK l code=-1)\/(e=.ret/\(s.env 4).v=.int .i64 (TK l code))) (fun i hi s k h ih hk=>?_) _ _ ?_ (fun e s h=>?_)
 ·obtain ⟨e2,m2,e1,e5,e6,hs⟩:=h;refine uA ?_;by_cases fa:i<l.length
  ·have ga:(i:Int)<l.length:=by omega
   have xh:=LA (i:=i);have ll:IntKind.i64.wrap code=code:=IntWalk.i64_in _ (by omega);have hwa:IntKind.i64.wrap (code + i)=code + i:=IntWalk.i64_in _ (by omega);have hm:(code + (i:Int)).tmod l.length=(code + i) % l.length:=yu (by omega);have bc:=yJ (code + i) (b:=(l.length:Int)) (by omega);have tt:=yM (code + i) (b:=(l.length:Int)) (by omega);have pq:¬ (l.length:Int)=0:=by omega
   have db:=ac _ bc tt;rw [show l.length - i=l.length - (i + 1) + 1 from by omega,TG] at hs;generalize (code + (i:Int)) % l.length=z at *
   have td:=dY (UC l z);rw [show decide (1<=UC l z/\UC l z<=4)=uW (UC l z) from rfl] at td;obtain ⟨N,ug⟩:∃ N:Int,N=l.length:=⟨_,rfl⟩;rw [<- ug] at e5 ga hm pq;cases hb:uW (UC l z) with
   | true =>
    rw [hb] at td;rw [if_pos hb] at hs;simp [PJ,-V,-y3,-y0,J,e2,m2,e1,e5,e6,ga,ll,hwa,hm,pq,db,td];exact hk _ _ (.inr ⟨rfl,by simp [hs]⟩)
   | false =>
    rw [hb] at td;rw [hb,if_neg (by decide)] at hs;simp [PJ,-V,-y3,-y0,J,e2,m2,e1,e5,e6,ga,ll,hwa,hm,pq,db,td,xh];refine ih fa _ ⟨?_,?_,?_,?_,?_,hs⟩ <;> simp [e2,m2,e1,e5,ug]
  ·have ga:¬ (i:Int)<l.length:=by omega
   simp [PJ,-V,-y3,-y0,J,e5,e6,ga];refine hk _ _ (.inl ⟨rfl,?_⟩);rw [<- hs,show l.length - i=0 from by omega,TG]
 ·simp [TK]
 ·rcases h with ⟨rfl,h1⟩ | ⟨rfl,h1⟩ <;> simp [-V,-y3,-y0,J,h1]
def DI (l:List OD):Nat->Nat->Int
 | 0,_=>-1
 | n + 1,k=>if 7<=UC l k then k else DI l n (k + 1)
def aS (l:List OD) (i code:Int):Int:=if 7<=UC l (code % l.length)\/code % l.length<i then code % l.length else if 0<i then code % l.length % i else DI l l.length 0
theorem tW {l:List OD} (hl:oks l):∀ n k,n + k<=l.length->-1<=DI l n k/\DI l n k<l.length
 | 0,k,_=>by have:=hl.1; simp only [DI]; omega
 | n + 1,k,h=>by
  have:=tW hl n (k + 1) (by omega);simp only [DI];split <;> omega
theorem HZ {l:List OD} (hl:oks l) (i code:Int) (hi:i<l.length):-1<=aS l i code/\aS l i code<l.length:=by
 have hp:=hl.1;have h1:=yJ code (b:=(l.length:Int)) (by omega);have h2:=yM code (b:=(l.length:Int)) (by omega);have h3:=tW hl l.length 0 (by omega);simp only [aS];split
 ·omega
 ·split
  ·rename_i h;have h4:=yJ (code % l.length) (b:=i) (by omega);have h5:=yM (code % l.length) h;omega
  ·exact h3
theorem target_ev (dn:Bool) (l:List OD) (hl:oks l) (i0:Int) (fg:0<=i0) (nf:i0<l.length) (code:Int) (hc:u8 code):sA 116 [.agg (kJ dn l),.int .i64 i0,.int .u8 code] (.int .i64 (aS l i0 code)):=by
 refine wA (c:=eF) rfl rfl ?_;obtain ⟨kq,fl⟩:=hc;have hN:=hl.1;have hN5:=hl.2.1;have ac:=fun z h0 h1=>HH (dn:=dn) hl (z:=z) h0 h1
 simp only [sA,kJ] at ac ⊢;have bc:=yJ code (b:=(l.length:Int)) (by omega);have tt:=yM code (b:=(l.length:Int)) (by omega);have ll:IntKind.i64.wrap code=code:=IntWalk.i64_in _ (by omega);have hm:code.tmod l.length=code % l.length:=yu (by omega);have pq:¬ (l.length:Int)=0:=by omega
 have xf:¬ l=[]:=by intro e; rw [e] at hN; simp at hN
 have db:=ac _ bc tt;unfold aS;generalize code % (l.length:Int)=z at *
 have hh:=C2 (UC l z);have pt:0<i0->z.tmod i0=z % i0:=fun _=>yu bc
 by_cases c1:7<=UC l z
 ·simp [eF,-V,-y3,-y0,J,ll,hm,xf,db,hh,c1]
 ·rw [decide_eq_false c1] at hh;by_cases c2:z<i0
  ·simp [eF,-V,-y3,-y0,J,ll,hm,xf,db,hh,c1,c2]
  ·by_cases c3:0<i0
   ·simp [eF,-V,-y3,-y0,J,ll,hm,xf,db,hh,c1,c2,c3,pt c3,show ¬ i0=0 from by omega]
   ·simp [eF,-V,-y3,-y0,J,ll,hm,xf,db,hh,c1,c2,c3];clear db hh c1 c2;refine bA l.length (fun i s=>(s.env 3).v=.ptr 3 1 0/\s.mem 3 1=some [⟨.sl dn (l.map AD),.no⟩]/\(s.env 7).v=.int .i64 l.length/\(s.env 9).v=.int .i64 i/\DI l (l.length - i) i=DI l l.length 0)
     (fun e s=>(e=.exit 0/\DI l l.length 0=-1)\/(e=.ret/\(s.env 6).v=.int .i64 (DI l l.length 0))) (fun i hi s k h ih hk=>?_) _ _ ?_ (fun e s h=>?_)
    ·obtain ⟨e3,m3,e7,e9,hs⟩:=h;refine uA ?_;by_cases fa:i<l.length
     ·have ga:(i:Int)<l.length:=by omega
      have xh:=LA (i:=i);have db:=ac i (by omega) ga;rw [show l.length - i=l.length - (i + 1) + 1 from by omega,DI] at hs;have hh:=C2 (UC l i);by_cases hb:7<=UC l i
      ·rw [decide_eq_true hb] at hh;rw [if_pos hb] at hs;simp [qH,-V,-y3,-y0,J,e3,m3,e7,e9,fa,db,hh];exact hk _ _ (.inr ⟨rfl,by simp [hs]⟩)
      ·rw [decide_eq_false hb] at hh;rw [if_neg hb] at hs;simp [qH,-V,-y3,-y0,J,e3,m3,e7,e9,fa,db,hh,xh];refine ih fa _ ⟨?_,?_,?_,?_,hs⟩ <;> simp [e3,m3,e7]
     ·have ga:¬ (i:Int)<l.length:=by omega
      simp [qH,-V,-y3,-y0,J,e7,e9,fa];refine hk _ _ (.inl ⟨rfl,?_⟩);rw [<- hs,show l.length - i=0 from by omega,DI]
    ·simp
    ·rcases h with ⟨rfl,h1⟩ | ⟨rfl,h1⟩ <;> simp [-V,-y3,-y0,J,h1]
section
set_option maxHeartbeats 2000000
def Vl.of (k:Int) (b:Bool) (i:Int) (s:ByteArray) (d:Int):Vl:=.mk k b i s d true [] true [] true []
theorem NF (k:Int) (b:Bool) (i:Int) (s:ByteArray) (d:Int):pA (.of k b i s d)=[.int .i64 k,.bool b,.int .i64 i,.str s,.int .i64 d,.sl true [],.sl true [],.sl true []]:=by
 rw [qA];rfl
def HA (l:List OD) (z:Int):OD:=match l[z.toNat]? with
 | some x=>x
 | none=>⟨0,0,0,0,true,[]⟩
def inK (l:List OD) (t:Int):Int:=if UC l t=8/\TK l 0<0 then 7 else UC l t
def idAt (a code:Int):Int:=(OF a)[(code % (OF a).length).toNat]?.getD 0
def CL (l:List OD) (t code:Int):Vl × Bool :=
 if UC l t=5\/UC l t=6 then (.of 0 false 0 ⟨#[]⟩ 0,false) else
 (.of (inK l t) (decide (UC l t=1/\code % 2=1)) (if UC l t=2 then (HA l t).low + code % ((HA l t).b % 6 + 1) else 0) (if UC l t=3/\0<(HA l t).a % 4/\code % 2=1 then ⟨#[97]⟩ else ⟨#[]⟩) (if UC l t=4 then idAt (HA l t).a code else 0),true)
theorem CS (a:Int):1<=(OF a).length/\(OF a).length<=6:=by
 have:=qX a 6;unfold OF;split
 ·simp
 ·rename_i h;refine ⟨?_,this⟩;cases h2:MW a 6 with
  | nil=>exact absurd h2 h
  | cons=>simp
theorem initial_ev (dn:Bool) (l:List OD) (hl:oks l) (t:Int) (kb:0<=t) (ra:t<l.length) (code:Int) (hc:u8 code):sA 117 [.agg (kJ dn l),.int .i64 t,.int .u8 code] (.tup [.agg (pA (CL l t code).1),.bool (CL l t code).2]):=by
 refine wA (c:=LB) rfl rfl ?_;have ac:=HH (dn:=dn) hl kb ra;have cj:=K7 hl kb ra;have td:=key_ev dn l hl 0 ⟨by omega,by omega⟩;have fa:t.toNat<l.length:=by omega
 have g:l[t.toNat]?=some l[t.toNat]:=y4 fa;have hx:(HA l t).ok:=by rw [HA,g]; exact hl.2.2 _ (y5 fa)
 have gm:(l.map AD)[t.toNat]?=some (AD (HA l t)):=by rw [HA,g]; simp [g]
 obtain ⟨kq,fl⟩:=hc;unfold CL inK;generalize HA l t=x at *
 generalize UC l t=kk at *
 have xg:=low_ev x hx;have dm:=high_ev x hx;have wh:=ids7_ev x hx;have hlr:-3<=x.low/\x.low<=3:=by have:=hx.2.1; simp only [OD.low,u8] at *; omega
 have hhr:x.low<=x.high/\x.high<=x.low + 5:=by have:=hx.2.2.1; simp only [OD.high,u8] at *; omega
 have hd:x.high - x.low + 1=x.b % 6 + 1:=by simp only [OD.high]; omega
 have ll:IntKind.i64.wrap code=code:=IntWalk.i64_in _ (by omega);have az:IntKind.i64.wrap (x.high - x.low)=x.high - x.low:=IntWalk.i64_in _ (by omega);have hws1:IntKind.i64.wrap (x.high - x.low + 1)=x.high - x.low + 1:=IntWalk.i64_in _ (by omega);have hm:code.tmod (x.high - x.low + 1)=code % (x.b % 6 + 1):=by rw [hd]; exact yu kq
 have hmz:=yJ code (b:=x.b % 6 + 1) (by omega);have ik:=yM code (b:=x.b % 6 + 1) (by omega);have og:IntKind.i64.wrap (x.low + code % (x.b % 6 + 1))=x.low + code % (x.b % 6 + 1):=IntWalk.i64_in _ (by omega);have ta:¬ x.high - x.low + 1=0:=by omega
 have hm2:code.tmod 2=code % 2:=yu kq;have tx:x.a.tmod 4=x.a % 4:=yu hx.2.1.1;simp only [sA,kJ,AD] at ac td gm xg dm wh ⊢;have hk:kk=1\/kk=2\/kk=3\/kk=4\/kk=5\/kk=6\/kk=7\/kk=8\/kk=9:=by omega
 rcases hk with rfl | rfl | rfl | rfl | rfl | rfl | rfl | rfl | rfl
 ·simp [LB,-V,-y3,-y0,J,gm,kb,ac,hm2,NF]
 ·generalize code % (x.b % 6 + 1)=y at *
  simp [LB,-V,-y3,-y0,J,gm,kb,ac,NF,xg,dm,ll,az,hws1,hm,ta,og]
 ·by_cases c1:0<x.a % 4 <;> by_cases c2:code % 2=1 <;> simp [LB,-V,-y3,-y0,J,gm,kb,ac,hm2,tx,c1,c2,NF]
 ·have ep:=CS x.a;have pt:code.tmod (OF x.a).length=code % (OF x.a).length:=yu kq;have bc:=yJ code (b:=((OF x.a).length:Int)) (by omega);have tt:=yM code (b:=((OF x.a).length:Int)) (by omega);have xf:¬ ((OF x.a).length:Int)=0:=by omega
  unfold idAt;generalize code % ((OF x.a).length:Int)=z at *
  have gz:(OF x.a)[z.toNat]?=some (OF x.a)[z.toNat]:=y4 (by omega);have gi:((OF x.a).map QL)[z.toNat]?=some [.int .i64 (OF x.a)[z.toNat]]:=by rw [y8,gz]; rfl
  rw [gz];generalize (OF x.a)[z.toNat]=y at *
  have hlm:((OF x.a).map QL).length=(OF x.a).length:=by simp
  generalize (OF x.a).map QL=M at *
  obtain ⟨N,hN⟩:∃ N:Int,N=(OF x.a).length:=⟨_,rfl⟩;rw [<- hN] at pt xf;simp [LB,-V,-y3,-y0,J,gm,kb,ac,NF,wh,ll,hlm,<- hN,pt,xf,bc,gi]
 ·simp [LB,-V,-y3,-y0,J,gm,kb,ac,NF]
 ·simp [LB,-V,-y3,-y0,J,gm,kb,ac,NF]
 ·simp [LB,-V,-y3,-y0,J,gm,kb,ac,NF]
 ·by_cases c1:TK l 0<0 <;> simp [LB,-V,-y3,-y0,J,gm,kb,ac,td,c1,NF]
 ·simp [LB,-V,-y3,-y0,J,gm,kb,ac,NF]
end
def s8 (m:Nat) (v:AV):Prop:=∀ t n,m<=n->v.kill0 t n=v
def lowV (m:Nat) (v:AV):Prop:=∀ t n,m<=n->v.kill t n=v
theorem iJ {m m':Nat} (h:m<=m') {v:AV} (hv:lowV m v):lowV m' v:=fun t n hn=>hv t n (yw h hn)
theorem low0_ptr {m t n o:Nat} (h:n<m):s8 m (.ptr t n o):=fun t' n' h'=>by simp only [AV.kill0]; rw [if_neg (by omega)]
theorem d8 {m t n z o l c:Nat} (h:n<m):s8 m (.ref t n z o l c):=fun t' n' h'=>by simp only [AV.kill0]; rw [if_neg (by omega)]
theorem mM {m:Nat} {v:AV} (h:v.free0=true):s8 m v:=fun t n _=>fY h t n
theorem pO {m:Nat} {v:AV} (h:v.free=true):lowV m v:=fun t n _=>Q3 h t n
theorem lowV_of {m:Nat} {v:AV} (h:s8 m v):(v.leaf=true)->lowV m v:=fun hl t n hn=>by
 have:=h t n hn;cases v <;> first | exact this | (simp [AV.leaf] at hl; done)
theorem rQ {m:Nat} {cs:List AV} (h:∀ c∈cs,s8 m c):lowV m (.agg cs):=fun t n hn=>by
 have:cs.map (AV.kill0 t n)=cs.map id:=yz fun c hc=>h c hc t n hn
 rw [List.map_id] at this;exact congrArg AV.agg this
theorem LC {m t n o:Nat} (h:n<m):lowV m (.ptr t n o):=low0_ptr h
theorem tQ {m t n z o l c:Nat} (h:n<m):lowV m (.ref t n z o l c):=d8 h
theorem R3 {m t n:Nat} (hn:m<=n) {v:AV} (hv:lowV m v):v.kill t n=v:=hv t n hn
theorem kill0_comm (v:AV) (t n t' n':Nat):(v.kill0 t n).kill0 t' n'=(v.kill0 t' n').kill0 t n:=by
 cases v with
 | ptr a b o=>by_cases h1:(a=t/\b=n) <;> by_cases h2:(a=t'/\b=n') <;> first | (simp only [AV.kill0,if_pos h1,if_pos h2]; done) | (simp only [AV.kill0,if_pos h1,if_neg h2]; done) | (simp only [AV.kill0,if_neg h1,if_pos h2]; done) | (simp only [AV.kill0,if_neg h1,if_neg h2]; done)
 | ref a b z o l c=>by_cases h1:(a=t/\b=n) <;> by_cases h2:(a=t'/\b=n') <;> first | (simp only [AV.kill0,if_pos h1,if_pos h2]; done) | (simp only [AV.kill0,if_pos h1,if_neg h2]; done) | (simp only [AV.kill0,if_neg h1,if_pos h2]; done) | (simp only [AV.kill0,if_neg h1,if_neg h2]; done)
 | mp a b=>by_cases h1:(a=t/\b=n) <;> by_cases h2:(a=t'/\b=n') <;> first | (simp only [AV.kill0,if_pos h1,if_pos h2]; done) | (simp only [AV.kill0,if_pos h1,if_neg h2]; done) | (simp only [AV.kill0,if_neg h1,if_pos h2]; done) | (simp only [AV.kill0,if_neg h1,if_neg h2]; done)
 | _=>rfl
theorem qQ (l:List AV) (t n t' n':Nat):(l.map (AV.kill0 t n)).map (AV.kill0 t' n')=(l.map (AV.kill0 t' n')).map (AV.kill0 t n):=by
 rw [y0,y0];exact yz fun x _=>kill0_comm x t n t' n'
theorem kill1_comm (v:AV) (t n t' n':Nat):(v.kill1 t n).kill1 t' n'=(v.kill1 t' n').kill1 t n:=by
 cases v with
 | agg cs=>exact congrArg AV.agg (qQ cs t n t' n')
 | ptr a b o=>by_cases h1:(a=t/\b=n) <;> by_cases h2:(a=t'/\b=n') <;> first | (simp only [AV.kill1,AV.kill0,if_pos h1,if_pos h2]; done) | (simp only [AV.kill1,AV.kill0,if_pos h1,if_neg h2]; done) | (simp only [AV.kill1,AV.kill0,if_neg h1,if_pos h2]; done) | (simp only [AV.kill1,AV.kill0,if_neg h1,if_neg h2]; done)
 | ref a b z o l c=>by_cases h1:(a=t/\b=n) <;> by_cases h2:(a=t'/\b=n') <;> first | (simp only [AV.kill1,AV.kill0,if_pos h1,if_pos h2]; done) | (simp only [AV.kill1,AV.kill0,if_pos h1,if_neg h2]; done) | (simp only [AV.kill1,AV.kill0,if_neg h1,if_pos h2]; done) | (simp only [AV.kill1,AV.kill0,if_neg h1,if_neg h2]; done)
 | mp a b=>by_cases h1:(a=t/\b=n) <;> by_cases h2:(a=t'/\b=n') <;> first | (simp only [AV.kill1,AV.kill0,if_pos h1,if_pos h2]; done) | (simp only [AV.kill1,AV.kill0,if_pos h1,if_neg h2]; done) | (simp only [AV.kill1,AV.kill0,if_neg h1,if_pos h2]; done) | (simp only [AV.kill1,AV.kill0,if_neg h1,if_neg h2]; done)
 | _=>rfl
theorem kill_comm (v:AV) (t n t' n':Nat):(v.kill t n).kill t' n'=(v.kill t' n').kill t n:=by
 cases v with
 | agg cs=>exact congrArg AV.agg (qQ cs t n t' n')
 | fn f cs=>exact congrArg (AV.fn f) (qQ cs t n t' n')
 | tup vs =>
  refine congrArg AV.tup ?_;rw [y0,y0];exact yz fun x _=>kill1_comm x t n t' n'
 | ptr a b o=>by_cases h1:(a=t/\b=n) <;> by_cases h2:(a=t'/\b=n') <;> first | (simp only [AV.kill,AV.kill0,if_pos h1,if_pos h2]; done) | (simp only [AV.kill,AV.kill0,if_pos h1,if_neg h2]; done) | (simp only [AV.kill,AV.kill0,if_neg h1,if_pos h2]; done) | (simp only [AV.kill,AV.kill0,if_neg h1,if_neg h2]; done)
 | ref a b z o l c=>by_cases h1:(a=t/\b=n) <;> by_cases h2:(a=t'/\b=n') <;> first | (simp only [AV.kill,AV.kill0,if_pos h1,if_pos h2]; done) | (simp only [AV.kill,AV.kill0,if_pos h1,if_neg h2]; done) | (simp only [AV.kill,AV.kill0,if_neg h1,if_pos h2]; done) | (simp only [AV.kill,AV.kill0,if_neg h1,if_neg h2]; done)
 | mp a b=>by_cases h1:(a=t/\b=n) <;> by_cases h2:(a=t'/\b=n') <;> first | (simp only [AV.kill,AV.kill0,if_pos h1,if_pos h2]; done) | (simp only [AV.kill,AV.kill0,if_pos h1,if_neg h2]; done) | (simp only [AV.kill,AV.kill0,if_neg h1,if_pos h2]; done) | (simp only [AV.kill,AV.kill0,if_neg h1,if_neg h2]; done)
 | _=>rfl
theorem pW {m t n:Nat} {v:AV} (hv:lowV m v):lowV m (v.kill t n):=fun t' n' h=>by rw [kill_comm,hv t' n' h]
def wB (m:Nat) (e:Nat->rA):Prop:=∀ t,lowV m (e t).v
def fL (m:Nat) (M:Nat->Nat->Option (List rA)):Prop:=∀ t n r,M t n=some r->∀ x∈r,lowV m x.v
def WC (m:Nat) (M0 M:Nat->Nat->Option (List rA)):Prop:=∀ t n,n<m->M t n=M0 t n
theorem wB.put {m:Nat} {e:Nat->rA} {d:Nat} {x:rA} (h:wB m e) (hx:lowV m x.v):wB m (putE e d x):=fun t=>by
 rw [BF];split
 ·exact hx
 ·exact h t
theorem wB.mono {m m':Nat} (hm:m<=m') {e:Nat->rA} (h:wB m e):wB m' e:=fun t=>iJ hm (h t)
theorem wB.kill {m:Nat} {e:Nat->rA} (h:wB m e) {t n:Nat}:wB m (gY t n e):=fun j=>by
 rw [uB,rA.kill_v];exact pW (h j)
theorem wB.same {m:Nat} {e:Nat->rA} (h:wB m e) {t n:Nat} (hn:m<=n):gY t n e=e:=funext fun j=>by
 rw [uB];show (⟨(e j).v.kill t n,(e j).a⟩:rA)=e j;rw [R3 hn (h j)]
theorem fL.set {m:Nat} {M:Nat->Nat->Option (List rA)} {t n:Nat} {r:List rA} (h:fL m M) (hr:∀ x∈r,lowV m x.v):fL m (N5 M t n r):=fun t' n' r' he=>by
 rw [iB] at he;split at he
 ·injection he with he; subst he; exact hr
 ·exact h t' n' r' he
theorem fL.mono {m m':Nat} (hm:m<=m') {M:Nat->Nat->Option (List rA)} (h:fL m M):fL m' M:=fun t n r he x hx=>iJ hm (h t n r he x hx)
theorem fL.kill {m:Nat} {M:Nat->Nat->Option (List rA)} (h:fL m M) {t n:Nat}:fL m (Z7 t n M):=fun t' n' r' he x hx=>by
 rw [lB] at he;split at he
 ·cases he
 ·obtain ⟨r,hr,rfl⟩:=yg.1 he;obtain ⟨y,hy,rfl⟩:=yB.1 hx;rw [rA.kill_v];exact pW (h t' n' r hr y hy)
theorem WC.refl {m:Nat} {M:Nat->Nat->Option (List rA)}:WC m M M:=fun _ _ _=>rfl
theorem WC.set {m:Nat} {M0 M:Nat->Nat->Option (List rA)} {t n:Nat} {r:List rA} (h:WC m M0 M) (hn:m<=n):WC m M0 (N5 M t n r):=fun t' n' h'=>by
 rw [iB,if_neg (by omega)];exact h t' n' h'
theorem WC.kill {m:Nat} {M0 M:Nat->Nat->Option (List rA)} (h:WC m M0 M) (h0:fL m M0) {t n:Nat} (hn:m<=n):WC m M0 (Z7 t n M):=fun t' n' h'=>by
 rw [lB,if_neg (by omega),h t' n' h'];cases hr:M0 t' n' with
 | none=>rfl
 | some r =>
  refine congrArg some ?_;have:r.map (rA.kill t n)=r.map id:=yz fun x hx=>by
   show (⟨x.v.kill t n,x.a⟩:rA)=x;rw [R3 hn (h0 t' n' r hr x hx)]
  rwa [List.map_id] at this
theorem b5 {m:Nat} {l:List (List AV)} (h:∀ c∈l,∀ v∈c,s8 m v) (h2:∀ c∈l,∀ v∈c,v.leaf=true):∀ x∈jA l,lowV m x.v:=fun x hx=>by
 obtain ⟨v,hv,rfl⟩:=yB.1 hx;obtain ⟨c,hc,hv⟩:=List.mem_flatten.1 hv;exact lowV_of (h c hc v hv) (h2 c hc v hv)
theorem free0_leaf {v:AV} (h:v.free0=true):v.leaf=true:=by
 cases v <;> first | rfl | (simp [AV.free0] at h; done)
theorem OE {m:Nat} {l:List (List AV)} (h:ZD l=true):∀ x∈jA l,lowV m x.v :=
 b5 (fun c hc v hv=>mM (y6.1 (y6.1 h c hc) v hv)) (fun c hc v hv=>free0_leaf (y6.1 (y6.1 h c hc) v hv))
structure W6 (m:Nat) (s0 s:aA):Prop where
 mem:WC m s0.mem s.mem
 gh:s.gh=s0.gh
 obj:s.obj=s0.obj
 next:m<=s.next
 low:fL s.next s.mem
section
set_option maxHeartbeats 4000000
def aO (id:Int):ByteArray:=⟨#[109]⟩++Utf8.encode (97 + id)
def BM (l:List OD) (i id:Int) (p:b6):Bool:=decide (1 + p.id % 12=id/\0<=aS l i p.ty)
def sO (l:List OD) (i:Int) (rc:Bool) (id:Int) (p:b6):bB :=
 ⟨id,aO id,aS l i p.ty,rc&&decide (p.flag % 4=1),rc&&decide (2<=p.flag % 4)&&(CL l (aS l i p.ty) (p.flag / 4)).2,if (rc&&decide (2<=p.flag % 4))=true then (CL l (aS l i p.ty) (p.flag / 4)).1 else Vl.zero⟩
def uQ (l:List OD) (i:Int) (rc:Bool) (id:Int) (ps:List b6):List bB:=match ps.find? (BM l i id) with
 | some p=>[sO l i rc id p]
 | none=>[]
def qK (l:List OD) (i:Int) (rc:Bool) (ps:List b6):Nat->List bB
 | 0=>[]
 | n + 1=>qK l i rc ps n++uQ l i rc ((n + 1:Nat):Int) ps
def uF (l:List OD) (i:Int) (rc:Bool) (ps:List b6):List bB:=qK l i rc ps 12
theorem memAt_len (l:List OD) (i:Int) (rc:Bool) (id:Int) (ps:List b6):(uQ l i rc id ps).length<=1:=by
 unfold uQ;split <;> simp
theorem TL (l:List OD) (i:Int) (rc:Bool) (ps:List b6):∀ n,(qK l i rc ps n).length<=n
 | 0=>yf _
 | n + 1=>by
  have:=TL l i rc ps n;have:=memAt_len l i rc ((n + 1:Nat):Int) ps;rw [qK,yA];omega
def gX (n0:Nat) (ms:List bB) (x:rA) (s:aA):Prop :=
 (ms=[]/\x.v=.sl true []/\x.a=.ex)\/∃ N,ms≠[]/\n0<=N/\N<s.next/\x.v=.ref 88 N 13 0 ms.length ms.length/\s.mem 88 N=some (jA (ms.map nA))
structure PL (n0:Nat) (s0:aA) (dn:Bool) (l:List OD) (i0:Int) (rc:Bool) (x:OD) (id:Int) (ms:List bB) (s:aA):Prop where
 e1:(s.env 1).v=.int .i64 i0
 e2:(s.env 2).v=.bool rc
 e3:(s.env 3).v=.ptr 3 n0 0
 m3:s.mem 3 n0=some [⟨.sl dn (l.map AD),.no⟩]
 e7:(s.env 7).v=.ptr 7 (n0 + 1) 0
 m7:s.mem 7 (n0 + 1)=some [⟨.int .u8 x.k,.no⟩,⟨.int .u8 x.a,.no⟩,⟨.int .u8 x.b,.no⟩,⟨.int .u8 x.c,.no⟩,⟨.sl x.pn (x.parts.map prtC),.no⟩]
 e9:(s.env 9).v=.int .i64 id
 lst:gX n0 ms (s.env 8) s
 calm:W6 n0 s0 s
 lt:n0 + 1<s.next
theorem gX.of {n0:Nat} {ms:List bB} {x x':rA} {s s':aA} (h:gX n0 ms x s) (hx:x'=x) (hm:∀ N,s'.mem 88 N=s.mem 88 N) (hn:s.next<=s'.next):gX n0 ms x' s':=by
 subst hx;rcases h with h | ⟨N,h1,h2,h3,h4,h5⟩
 ·exact .inl h
 ·exact .inr ⟨N,h1,h2,yW h3 hn,h4,(hm N).trans h5⟩
theorem fA {m:Nat} {r:List rA} (h:r.all (fun x=>x.v.free)=true:=by simp [AV.free,AV.free0]):∀ x∈r,lowV m x.v:=fun x hx=>pO (y6.1 h x hx)
theorem AX (n:Int):(Utf8.encode n).size<=4:=by
 unfold Utf8.encode;dsimp only;generalize (if Utf8.valid n=true then n.toNat else Utf8.runeError)=c;split
 ·exact (by decide:(1:Nat)<=4)
 ·split
  ·exact (by decide:(2:Nat)<=4)
  ·split
   ·exact (by decide:(3:Nat)<=4)
   ·exact (by decide:(4:Nat)<=4)
theorem eY (n:Int) (h:-2147483648<=n/\n<=2147483647):IntKind.i32.wrap n=n:=by
 simp [IntKind.wrap,IntKind.bits,IntKind.signed];omega
theorem parts_in {r:RV} {n0:Nat} {s0:aA} {dn:Bool} {l:List OD} (hl:oks l) {i0:Int} (fg:0<=i0) (nf:i0<l.length) {rc:Bool} {x:OD} (hx:x.ok) (hM:fL n0 s0.mem) (hG:wB n0 s0.gh) {id:Int} (LN:1<=id/\id<=12) {ms:List bB} (rt:ms.length<=12) (s:aA) (k:Ex->aA->Option RV) (h:PL n0 s0 dn l i0 rc x id ms s) (zt:(s.env 10).v=.int .i64 0)
  (hk:∀ s',PL n0 s0 dn l i0 rc x id (ms++uQ l i0 rc id x.parts) s'->k (.exit 2) s'=some r):kI kA tA fB s k=some r:=by
 refine bA x.parts.length (fun j s=>PL n0 s0 dn l i0 rc x id ms s/\(s.env 10).v=.int .i64 j/\(x.parts.drop j).find? (BM l i0 id)=x.parts.find? (BM l i0 id))
  (fun e s=>e=.exit 2/\PL n0 s0 dn l i0 rc x id (ms++uQ l i0 rc id x.parts) s) (fun j hj s k h ih hk=>?_) s k ⟨h,by simpa using zt,rfl⟩ (fun e s h=>by obtain ⟨rfl,h⟩:=h; exact hk s h)
 obtain ⟨⟨e1,e2,e3,m3,e7,m7,e9,lst,calm,lt⟩,e10,hf⟩:=h;have wq:=hx.2.2.2.2.1;refine uA ?_;by_cases fa:j<x.parts.length
 ·have ga:(j:Int)<x.parts.length:=by omega
  have hwj:=LA (i:=j);have hp:=hx.2.2.2.2.2 _ (y5 fa);have g1:(x.parts.map prtC)[j]?=some (prtC x.parts[j]):=by simp [fa]
  rw [y9 fa,List.find?_cons] at hf;generalize x.parts[j]=p at *
  simp only [prtC] at g1;have cw:=target_ev dn l hl i0 fg nf p.ty hp.2.1;have hti:=HZ hl i0 p.ty nf;have zr:=fun kb=>initial_ev dn l hl (aS l i0 p.ty) kb hti.2 (p.flag / 4) ⟨by have:=hp.2.2.1; omega,by have:=hp.2.2.2; omega⟩
  simp only [sA,kJ] at cw zr;have aj:p.id.tmod 12=p.id % 12:=yu hp.1.1;have ri:IntKind.i64.wrap (p.id % 12)=p.id % 12:=IntWalk.i64_in _ (by omega);have nh:IntKind.i64.wrap (1 + p.id % 12)=1 + p.id % 12:=IntWalk.i64_in _ (by omega);have rk:IntKind.i64.wrap id=id:=IntWalk.i64_in _ (by omega);obtain ⟨z,hz⟩:∃ z:Int,z=j:=⟨_,rfl⟩;have bc:0<=z:=by omega
  have zi:IntKind.i64.wrap (z + 1)=((j + 1:Nat):Int):=by rw [hz]; exact hwj
  rw [<- hz] at e10 ga;rw [show j=z.toNat from by omega] at g1;have calm':=calm;obtain ⟨cm,cg,co,cn,cl⟩:=calm;have next:∀ s',PL n0 s0 dn l i0 rc x id ms s'->(s'.env 10).v=.int .i64 ((j + 1:Nat):Int)->BM l i0 id p=false->kI kA tA fB s' k=some r:=fun s' h1 h2 h3=>by
   rw [h3] at hf;exact ih fa s' ⟨h1,h2,hf⟩
  by_cases c1:1 + p.id % 12=id
  ·by_cases c2:aS l i0 p.ty<0
   ·have sv:BM l i0 id p=false:=by simp [BM,c1]; omega
    simp [fB,-V,-y3,-y0,J,e1,e2,e3,m3,e7,m7,e9,e10,ga,g1,bc,cw,aj,ri,nh,c1,c2,zi,rk];refine next _ ⟨?_,?_,?_,?_,?_,?_,?_,lst.of ?_ ?_ ?_,⟨?_,?_,?_,?_,?_⟩,?_⟩ ?_ sv
    ·simp [e1]
    ·simp [e2]
    ·simp [e3]
    ·simp [iB,m3]
    ·simp [e7]
    ·simp [iB,m7]
    ·simp [e9]
    ·simp
    ·intro N; simp [iB]
    ·simp only; omega
    ·exact (cm.set (by omega)).set (by omega)
    ·exact cg
    ·exact co
    ·simp only; omega
    ·exact ((cl.mono (by dsimp only; omega)).set fA).set fA
    ·simp only; omega
    ·simp
   ·have hip:BM l i0 id p=true:=by simp [BM,c1]; omega
    rw [hip] at hf;have hma:uQ l i0 rc id x.parts=[sO l i0 rc id p]:=by rw [uQ,<- hf]
    rw [hma] at hk;have zr:=zr (by omega);have hq4:p.flag.tmod 4=p.flag % 4:=yu hp.2.2.1;have hv4:p.flag.tdiv 4=p.flag / 4:=Int.tdiv_eq_ediv_of_nonneg hp.2.2.1;have ax:IntKind.u8.wrap (p.flag / 4)=p.flag / 4:=by have:=hp.2.2.1; have:=hp.2.2.2; simp [IntKind.wrap,IntKind.bits,IntKind.signed]; omega
    have zz:IntKind.i64.wrap (97 + id)=97 + id:=IntWalk.i64_in _ (by omega);have bx:IntKind.i32.wrap (97 + id)=97 + id:=eY _ (by omega);have hes:=AX (97 + id);have ma:(⟨#[109]⟩:ByteArray).size=1:=rfl;have sb:(⟨#[109]⟩:ByteArray).size + (Utf8.encode (97 + id)).size<=9223372036854775807:=by omega
    unfold sO aO at hk;generalize hE:Utf8.encode (97 + id)=nm at *
    generalize CL l (aS l i0 p.ty) (p.flag / 4)=iz at *
    obtain ⟨iv,ib⟩:=iz;simp only [qA] at zr;generalize aS l i0 p.ty=t at *
    rcases lst with ⟨lm,l1,l2⟩ | ⟨N,lm,l1,l2,l3,l4⟩
    ·subst lm;have ja:PB 160 1=true:=by rw [CA]; omega
     cases rc with
     | false =>
      simp [fB,-V,-y3,-y0,J,e1,e2,e3,m3,e7,m7,e9,e10,ga,g1,bc,cw,aj,ri,nh,c1,c2,rk,zz,bx,hE,sb,l1,ja,l2];refine hk _ _ ⟨rfl,?_,?_,?_,?_,?_,?_,?_,.inr ⟨s.next + 1 + 1 + 1 + 1 + 1 + 1 + 1,?_,?_,?_,?_,?_⟩,⟨?_,?_,?_,?_,?_⟩,?_⟩
      ·simp [e1]
      ·simp [e2]
      ·simp [e3]
      ·simp [iB,m3]
      ·simp [e7]
      ·simp [iB,m7]
      ·simp [e9]
      ·simp
      ·omega
      ·dsimp only; omega
      ·simp
      ·simp [iB,nA,Vl.zero,Vl.kind,Vl.b,Vl.i,Vl.s,Vl.id,Vl.kn,Vl.keys,Vl.xn,Vl.items,Vl.rn,Vl.rest]
      ·repeat (first | exact cm | refine WC.set ?_ (by omega) | refine WC.kill ?_ hM (by omega))
      ·exact cg
      ·exact co
      ·dsimp only; omega
      ·exact (((((cl.mono (by dsimp only; omega)).set fA).set fA).set fA).set fA).set (OE (by simp [ZD,AV.free0,nA]))
      ·dsimp only; omega
     | true =>
      by_cases f1:p.flag % 4=1
      ·simp [fB,-V,-y3,-y0,J,e1,e2,e3,m3,e7,m7,e9,e10,ga,g1,bc,cw,aj,ri,nh,c1,c2,rk,zz,bx,hE,sb,l1,ja,l2,hq4,f1];refine hk _ _ ⟨rfl,?_,?_,?_,?_,?_,?_,?_,.inr ⟨s.next + 1 + 1 + 1 + 1 + 1 + 1 + 1 + 1,?_,?_,?_,?_,?_⟩,⟨?_,?_,?_,?_,?_⟩,?_⟩
       ·simp [e1]
       ·simp [e2]
       ·simp [e3]
       ·simp [iB,m3]
       ·simp [e7]
       ·simp [iB,m7]
       ·simp [e9]
       ·simp
       ·omega
       ·dsimp only; omega
       ·simp
       ·simp [iB,nA,Vl.zero,Vl.kind,Vl.b,Vl.i,Vl.s,Vl.id,Vl.kn,Vl.keys,Vl.xn,Vl.items,Vl.rn,Vl.rest,f1]
       ·repeat (first | exact cm | refine WC.set ?_ (by omega) | refine WC.kill ?_ hM (by omega))
       ·exact cg
       ·exact co
       ·dsimp only; omega
       ·exact ((((((cl.mono (by dsimp only; omega)).set fA).set fA).set fA).set fA).set fA).set (OE (by simp [ZD,AV.free0,nA]))
       ·dsimp only; omega
      ·by_cases f2:2<=p.flag % 4
       ·simp [fB,-V,-y3,-y0,J,e1,e2,e3,m3,e7,m7,e9,e10,ga,g1,bc,cw,aj,ri,nh,c1,c2,rk,zz,bx,hE,sb,l1,ja,l2,hq4,f1,f2,hv4,ax,zr];refine hk _ _ ⟨rfl,?_,?_,?_,?_,?_,?_,?_,.inr ⟨s.next + 1 + 1 + 1 + 1 + 1 + 1 + 1 + 1,?_,?_,?_,?_,?_⟩,⟨?_,?_,?_,?_,?_⟩,?_⟩
        ·simp [e1]
        ·simp [e2]
        ·simp [e3]
        ·simp [iB,m3]
        ·simp [e7]
        ·simp [iB,m7]
        ·simp [e9]
        ·simp
        ·omega
        ·dsimp only; omega
        ·simp
        ·simp [iB,nA,Vl.zero,Vl.kind,Vl.b,Vl.i,Vl.s,Vl.id,Vl.kn,Vl.keys,Vl.xn,Vl.items,Vl.rn,Vl.rest,f1,f2]
        ·repeat (first | exact cm | refine WC.set ?_ (by omega) | refine WC.kill ?_ hM (by omega))
        ·exact cg
        ·exact co
        ·dsimp only; omega
        ·exact (((((((cl.mono (by dsimp only; omega)).set fA).set fA).set fA).set fA).set fA).set fA).set (OE (by simp [ZD,AV.free0,nA]))
        ·dsimp only; omega
       ·simp [fB,-V,-y3,-y0,J,e1,e2,e3,m3,e7,m7,e9,e10,ga,g1,bc,cw,aj,ri,nh,c1,c2,rk,zz,bx,hE,sb,l1,ja,l2,hq4,f1,f2];refine hk _ _ ⟨rfl,?_,?_,?_,?_,?_,?_,?_,.inr ⟨s.next + 1 + 1 + 1 + 1 + 1 + 1 + 1,?_,?_,?_,?_,?_⟩,⟨?_,?_,?_,?_,?_⟩,?_⟩
        ·simp [e1]
        ·simp [e2]
        ·simp [e3]
        ·simp [iB,m3]
        ·simp [e7]
        ·simp [iB,m7]
        ·simp [e9]
        ·simp
        ·omega
        ·dsimp only; omega
        ·simp
        ·simp [iB,nA,Vl.zero,Vl.kind,Vl.b,Vl.i,Vl.s,Vl.id,Vl.kn,Vl.keys,Vl.xn,Vl.items,Vl.rn,Vl.rest,f1,f2]
        ·repeat (first | exact cm | refine WC.set ?_ (by omega) | refine WC.kill ?_ hM (by omega))
        ·exact cg
        ·exact co
        ·dsimp only; omega
        ·exact (((((cl.mono (by dsimp only; omega)).set fA).set fA).set fA).set fA).set (OE (by simp [ZD,AV.free0,nA]))
        ·dsimp only; omega
    ·have ik:(ms.map nA).length=ms.length:=by simp
     have ja:PB 160 (ms.length + 1)=true:=by rw [CA]; omega
     have ed:=OO ms;have hfr:ZD (ms.map nA)=true:=tJ nA ms fun m=>by simp [nA,AV.free0]
     have bi:iF (jA (ms.map nA)) 13 0 ms.length=some (ms.map nA):=by have:=WM ed hfr; rwa [ik] at this
     cases rc with
     | false =>
      simp [fB,-V,-y3,-y0,J,e1,e2,e3,m3,e7,m7,e9,e10,ga,g1,bc,cw,aj,ri,nh,c1,c2,rk,zz,bx,hE,sb,l3,ja,l4,bi];refine hk _ _ ⟨rfl,?_,?_,?_,?_,?_,?_,?_,.inr ⟨s.next + 1 + 1 + 1 + 1 + 1 + 1 + 1,?_,?_,?_,?_,?_⟩,⟨?_,?_,?_,?_,?_⟩,?_⟩
      ·simp [uB,lB,rA.kill_v,rA.kill_mk,AV.kill,AV.kill0,e1]
      ·simp [uB,lB,rA.kill_v,rA.kill_mk,AV.kill,AV.kill0,e2]
      ·simp [uB,lB,rA.kill_v,rA.kill_mk,AV.kill,AV.kill0,e3]
      ·simp [uB,lB,rA.kill_v,rA.kill_mk,AV.kill,AV.kill0,iB,m3]
      ·simp [uB,lB,rA.kill_v,rA.kill_mk,AV.kill,AV.kill0,e7]
      ·simp [uB,lB,rA.kill_v,rA.kill_mk,AV.kill,AV.kill0,iB,m7]
      ·simp [uB,lB,rA.kill_v,rA.kill_mk,AV.kill,AV.kill0,e9]
      ·simp
      ·omega
      ·dsimp only; omega
      ·simp
      ·simp [iB,nA,Vl.zero,Vl.kind,Vl.b,Vl.i,Vl.s,Vl.id,Vl.kn,Vl.keys,Vl.xn,Vl.items,Vl.rn,Vl.rest]
      ·repeat (first | exact cm | refine WC.set ?_ (by omega) | refine WC.kill ?_ hM (by omega))
      ·dsimp only; rw [cg]; exact hG.same (by omega)
      ·exact co
      ·dsimp only; omega
      ·exact ((((((cl.mono (by dsimp only; omega)).set fA).set fA).set fA).set fA).kill).set (OE (by simp [ZD,AV.free0,nA]))
      ·dsimp only; omega
     | true =>
      by_cases f1:p.flag % 4=1
      ·simp [fB,-V,-y3,-y0,J,e1,e2,e3,m3,e7,m7,e9,e10,ga,g1,bc,cw,aj,ri,nh,c1,c2,rk,zz,bx,hE,sb,l3,ja,l4,bi,hq4,f1];refine hk _ _ ⟨rfl,?_,?_,?_,?_,?_,?_,?_,.inr ⟨s.next + 1 + 1 + 1 + 1 + 1 + 1 + 1 + 1,?_,?_,?_,?_,?_⟩,⟨?_,?_,?_,?_,?_⟩,?_⟩
       ·simp [uB,lB,rA.kill_v,rA.kill_mk,AV.kill,AV.kill0,e1]
       ·simp [uB,lB,rA.kill_v,rA.kill_mk,AV.kill,AV.kill0,e2]
       ·simp [uB,lB,rA.kill_v,rA.kill_mk,AV.kill,AV.kill0,e3]
       ·simp [uB,lB,rA.kill_v,rA.kill_mk,AV.kill,AV.kill0,iB,m3]
       ·simp [uB,lB,rA.kill_v,rA.kill_mk,AV.kill,AV.kill0,e7]
       ·simp [uB,lB,rA.kill_v,rA.kill_mk,AV.kill,AV.kill0,iB,m7]
       ·simp [uB,lB,rA.kill_v,rA.kill_mk,AV.kill,AV.kill0,e9]
       ·simp
       ·omega
       ·dsimp only; omega
       ·simp
       ·simp [iB,nA,Vl.zero,Vl.kind,Vl.b,Vl.i,Vl.s,Vl.id,Vl.kn,Vl.keys,Vl.xn,Vl.items,Vl.rn,Vl.rest,f1]
       ·repeat (first | exact cm | refine WC.set ?_ (by omega) | refine WC.kill ?_ hM (by omega))
       ·dsimp only; rw [cg]; exact hG.same (by omega)
       ·exact co
       ·dsimp only; omega
       ·exact (((((((cl.mono (by dsimp only; omega)).set fA).set fA).set fA).set fA).set fA).kill).set (OE (by simp [ZD,AV.free0,nA]))
       ·dsimp only; omega
      ·by_cases f2:2<=p.flag % 4
       ·simp [fB,-V,-y3,-y0,J,e1,e2,e3,m3,e7,m7,e9,e10,ga,g1,bc,cw,aj,ri,nh,c1,c2,rk,zz,bx,hE,sb,l3,ja,l4,bi,hq4,f1,f2,hv4,ax,zr];refine hk _ _ ⟨rfl,?_,?_,?_,?_,?_,?_,?_,.inr ⟨s.next + 1 + 1 + 1 + 1 + 1 + 1 + 1 + 1,?_,?_,?_,?_,?_⟩,⟨?_,?_,?_,?_,?_⟩,?_⟩
        ·simp [uB,lB,rA.kill_v,rA.kill_mk,AV.kill,AV.kill0,e1]
        ·simp [uB,lB,rA.kill_v,rA.kill_mk,AV.kill,AV.kill0,e2]
        ·simp [uB,lB,rA.kill_v,rA.kill_mk,AV.kill,AV.kill0,e3]
        ·simp [uB,lB,rA.kill_v,rA.kill_mk,AV.kill,AV.kill0,iB,m3]
        ·simp [uB,lB,rA.kill_v,rA.kill_mk,AV.kill,AV.kill0,e7]
        ·simp [uB,lB,rA.kill_v,rA.kill_mk,AV.kill,AV.kill0,iB,m7]
        ·simp [uB,lB,rA.kill_v,rA.kill_mk,AV.kill,AV.kill0,e9]
        ·simp
        ·omega
        ·dsimp only; omega
        ·simp
        ·simp [iB,nA,Vl.zero,Vl.kind,Vl.b,Vl.i,Vl.s,Vl.id,Vl.kn,Vl.keys,Vl.xn,Vl.items,Vl.rn,Vl.rest,f1,f2]
        ·repeat (first | exact cm | refine WC.set ?_ (by omega) | refine WC.kill ?_ hM (by omega))
        ·dsimp only; rw [cg]; exact hG.same (by omega)
        ·exact co
        ·dsimp only; omega
        ·exact ((((((((cl.mono (by dsimp only; omega)).set fA).set fA).set fA).set fA).set fA).set fA).kill).set (OE (by simp [ZD,AV.free0,nA]))
        ·dsimp only; omega
       ·simp [fB,-V,-y3,-y0,J,e1,e2,e3,m3,e7,m7,e9,e10,ga,g1,bc,cw,aj,ri,nh,c1,c2,rk,zz,bx,hE,sb,l3,ja,l4,bi,hq4,f1,f2];refine hk _ _ ⟨rfl,?_,?_,?_,?_,?_,?_,?_,.inr ⟨s.next + 1 + 1 + 1 + 1 + 1 + 1 + 1,?_,?_,?_,?_,?_⟩,⟨?_,?_,?_,?_,?_⟩,?_⟩
        ·simp [uB,lB,rA.kill_v,rA.kill_mk,AV.kill,AV.kill0,e1]
        ·simp [uB,lB,rA.kill_v,rA.kill_mk,AV.kill,AV.kill0,e2]
        ·simp [uB,lB,rA.kill_v,rA.kill_mk,AV.kill,AV.kill0,e3]
        ·simp [uB,lB,rA.kill_v,rA.kill_mk,AV.kill,AV.kill0,iB,m3]
        ·simp [uB,lB,rA.kill_v,rA.kill_mk,AV.kill,AV.kill0,e7]
        ·simp [uB,lB,rA.kill_v,rA.kill_mk,AV.kill,AV.kill0,iB,m7]
        ·simp [uB,lB,rA.kill_v,rA.kill_mk,AV.kill,AV.kill0,e9]
        ·simp
        ·omega
        ·dsimp only; omega
        ·simp
        ·simp [iB,nA,Vl.zero,Vl.kind,Vl.b,Vl.i,Vl.s,Vl.id,Vl.kn,Vl.keys,Vl.xn,Vl.items,Vl.rn,Vl.rest,f1,f2]
        ·repeat (first | exact cm | refine WC.set ?_ (by omega) | refine WC.kill ?_ hM (by omega))
        ·dsimp only; rw [cg]; exact hG.same (by omega)
        ·exact co
        ·dsimp only; omega
        ·exact ((((((cl.mono (by dsimp only; omega)).set fA).set fA).set fA).set fA).kill).set (OE (by simp [ZD,AV.free0,nA]))
        ·dsimp only; omega
  ·have sv:BM l i0 id p=false:=by simp [BM,c1]
   simp [fB,-V,-y3,-y0,J,e1,e2,e3,m3,e7,m7,e9,e10,ga,g1,bc,cw,aj,ri,nh,c1,zi];refine next _ ⟨?_,?_,?_,?_,?_,?_,?_,lst.of ?_ ?_ ?_,⟨?_,?_,?_,?_,?_⟩,?_⟩ ?_ sv
   ·simp [e1]
   ·simp [e2]
   ·simp [e3]
   ·simp [iB,m3]
   ·simp [e7]
   ·simp [iB,m7]
   ·simp [e9]
   ·simp
   ·intro N; simp [iB]
   ·simp only; omega
   ·exact (cm.set (by omega)).set (by omega)
   ·exact cg
   ·exact co
   ·simp only; omega
   ·exact ((cl.mono (by dsimp only; omega)).set fA).set fA
   ·simp only; omega
   ·simp
 ·have ga:¬ (j:Int)<x.parts.length:=by omega
  simp [fB,-V,-y3,-y0,J,e7,m7,e10,fa];rw [ye (by omega),List.find?_nil] at hf;have ly:uQ l i0 rc id x.parts=[]:=by rw [uQ,<- hf]
  refine hk _ _ ⟨rfl,?_⟩;rw [ly,List.append_nil];obtain ⟨cm,cg,co,cn,cl⟩:=calm;refine ⟨?_,?_,?_,?_,?_,?_,?_,lst.of ?_ ?_ ?_,⟨?_,?_,?_,?_,?_⟩,?_⟩
  ·simp [e1]
  ·simp [e2]
  ·simp [e3]
  ·simp [m3]
  ·simp [e7]
  ·simp [m7]
  ·simp [e9]
  ·simp
  ·intro N; simp
  ·simp
  ·exact cm
  ·exact cg
  ·exact co
  ·simp only; omega
  ·exact cl.mono (by dsimp only; omega)
  ·simp only; omega
end
section
set_option maxHeartbeats 4000000
theorem PL.of {n0:Nat} {s0:aA} {dn:Bool} {l:List OD} {i0:Int} {rc:Bool} {x:OD} {id id':Int} {ms:List bB} {s s':aA} (h:PL n0 s0 dn l i0 rc x id ms s)
  (h1:(s'.env 1).v=(s.env 1).v) (h2:(s'.env 2).v=(s.env 2).v) (h3:(s'.env 3).v=(s.env 3).v) (h7:(s'.env 7).v=(s.env 7).v) (h8:s'.env 8=s.env 8) (h9:(s'.env 9).v=.int .i64 id') (hm:s'.mem=s.mem) (hg:s'.gh=s.gh) (ho:s'.obj=s.obj) (hn:s.next<=s'.next):PL n0 s0 dn l i0 rc x id' ms s':=by
 obtain ⟨e1,e2,e3,m3,e7,m7,e9,lst,⟨cm,cg,co,cn,cl⟩,lt⟩:=h;refine ⟨by rw [h1,e1],by rw [h2,e2],by rw [h3,e3],by rw [hm,m3],by rw [h7,e7],by rw [hm,m7],h9,lst.of h8 (fun N=>by rw [hm]) hn,⟨by rw [hm]; exact cm,by rw [hg,cg],by rw [ho,co],by omega,by rw [hm]; exact cl.mono hn⟩,by omega⟩
theorem J8 {r:RV} {dn:Bool} {l:List OD} (hl:oks l) {i0:Int} (fg:0<=i0) (nf:i0<l.length) {rc:Bool} {x:OD} (hx:l[i0.toNat]?=some x) {a1 a2 a3:An} (s0:aA) (hM:fL s0.next s0.mem) (hG:wB s0.next s0.gh) (k:rA->aA->Option RV)
  (hk:∀ y s',W6 s0.next s0 s'->gX s0.next (uF l i0 rc x.parts) y s'->k y s'=some r):evH kA tA 77 [⟨.agg (kJ dn l),a1⟩,⟨.int .i64 i0,a2⟩,⟨.bool rc,a3⟩] s0 k=some r:=by
 refine tO MK rfl rfl ?_;have hxo:x.ok:=hl.2.2 _ (yQ hx);have g:(l.map AD)[i0.toNat]?=some (AD x):=by simp [hx]
 simp only [AD] at g;simp [MK,kJ,-V,-y3,-y0,J,g,fg];refine bA 12 (fun i s=>PL s0.next s0 dn l i0 rc x ((i + 1:Nat):Int) (qK l i0 rc x.parts i) s)
  (fun e s=>e=.exit 0/\∃ id,PL s0.next s0 dn l i0 rc x id (uF l i0 rc x.parts) s) (fun i hi s k' h ih hk=>?_) _ _ ?_ (fun e s h=>?_)
 ·refine uA ?_;by_cases fa:i<12
  ·have LN:((i + 1:Nat):Int)<=12:=by omega
   have e9:=h.e9;have hw:IntKind.i64.wrap (((i + 1:Nat):Int) + 1)=((i + 1 + 1:Nat):Int):=LA (by omega);obtain ⟨z,hz⟩:∃ z:Int,z=((i + 1:Nat):Int):=⟨_,rfl⟩;rw [<- hz] at e9 LN hw;simp [xK,-V,-y3,-y0,J,e9,LN];refine parts_in hl fg nf hxo hM hG (id:=z) (by omega) (yw (TL l i0 rc x.parts i) hi) _ _ (h.of ?_ ?_ ?_ ?_ ?_ ?_ ?_ ?_ ?_ ?_) ?_ (fun s' h'=>?_)
   ·simp
   ·simp
   ·simp
   ·simp
   ·simp
   ·simp [e9]
   ·rfl
   ·rfl
   ·rfl
   ·dsimp only; omega
   ·simp
   ·have e9':=h'.e9;simp [-V,-y3,-y0,J,e9',hw];rw [hz] at h';refine ih fa _ (PL.of (ms:=qK l i0 rc x.parts (i + 1)) h' ?_ ?_ ?_ ?_ ?_ ?_ ?_ ?_ ?_ ?_)
    ·simp
    ·simp
    ·simp
    ·simp
    ·simp
    ·simp
    ·rfl
    ·rfl
    ·rfl
    ·dsimp only; omega
  ·have hi12:i=12:=by omega
   subst hi12;have e9:=h.e9;simp at e9;simp [xK,-V,-y3,-y0,J,e9];refine hk _ _ ⟨rfl,13,PL.of (id':=13) h ?_ ?_ ?_ ?_ ?_ ?_ ?_ ?_ ?_ ?_⟩
   ·simp
   ·simp
   ·simp
   ·simp
   ·simp
   ·simp [e9]
   ·rfl
   ·rfl
   ·rfl
   ·dsimp only; omega
 ·refine ⟨?_,?_,?_,?_,?_,?_,?_,.inl ⟨rfl,?_,?_⟩,⟨?_,?_,?_,?_,?_⟩,?_⟩
  ·simp
  ·simp
  ·simp
  ·simp [iB]
  ·simp
  ·simp [iB]
  ·simp
  ·simp
  ·simp
  ·exact (((WC.refl).set (by omega)).set (by omega)).set (by omega)
  ·rfl
  ·rfl
  ·dsimp only; omega
  ·exact (((hM.mono (by dsimp only; omega)).set fA).set fA).set fA
  ·dsimp only; omega
 ·obtain ⟨rfl,id,h⟩:=h;obtain ⟨e1,e2,e3,m3,e7,m7,e9,lst,⟨cm,cg,co,cn,cl⟩,lt⟩:=h;simp [-V,-y3,-y0,J,sN,tR,kO];refine hk _ _ ⟨cm,cg,co,?_,cl.mono ?_⟩ (lst.of ?_ (fun N=>?_) ?_)
  ·dsimp only; omega
  ·dsimp only; omega
  ·rfl
  ·rfl
  ·dsimp only; omega
end
def eN (x:rA):Prop:=∀ k,x.strip k=x
def nJ (e:Nat->rA):Prop:=∀ t,eN (e t)
def gS (m:Nat) (M:Nat->Nat->Option (List rA)):Prop:=∀ t n r,n<m->M t n=some r->∀ x∈r,eN x
theorem rN (v:AV):eN ⟨v,.no⟩:=fun _=>rfl
theorem dZ (v:AV):eN ⟨v,.ex⟩:=fun _=>rfl
theorem nJ.same {e:Nat->rA} (h:nJ e) (k:Nat):AZ k e=e:=funext fun t=>by rw [i4]; exact h t k
theorem SZ (k:Nat) (M:Nat->Nat->Option (List rA)) (t n:Nat):OV k M t n=(M t n).map (·.map (rA.strip k)):=rfl
theorem WC.strip {m:Nat} {M0 M:Nat->Nat->Option (List rA)} (h:WC m M0 M) (h0:gS m M0) (k:Nat):WC m M0 (OV k M):=fun t n hn=>by
 rw [SZ,h t n hn];cases hr:M0 t n with
 | none=>rfl
 | some r =>
  refine congrArg some ?_;have:r.map (rA.strip k)=r.map id:=yz fun x hx=>h0 t n r hn hr x hx k
  rwa [List.map_id] at this
theorem fL.strip {m:Nat} {M:Nat->Nat->Option (List rA)} (h:fL m M) (k:Nat):fL m (OV k M):=fun t n r he x hx=>by
 rw [SZ] at he;obtain ⟨r0,hr,rfl⟩:=yg.1 he;obtain ⟨y,hy,rfl⟩:=yB.1 hx;exact h t n r0 hr y hy
theorem wB.strip {m:Nat} {e:Nat->rA} (h:wB m e) (k:Nat):wB m (AZ k e):=fun t=>h t
theorem rowOf_kill {l:List (List AV)} (h:ZD l=true) (t n:Nat):(jA l).map (rA.kill t n)=jA l:=by
 have:(jA l).map (rA.kill t n)=(jA l).map id:=yz fun x hx=>by
  have:=OE (m:=0) h x hx t n (Nat.zero_le _);show (⟨x.v.kill t n,x.a⟩:rA)=x;rw [this]
 rwa [List.map_id] at this
def gK (i:Int):ByteArray:=Utf8.encode (65 + i)
def sName (d:Int):ByteArray:=⟨#[115]⟩++Utf8.encode (97 + d)
def xI (a:Int):List eU:=(OF a).map fun d=>⟨d,sName d⟩
def gA.of (k:Int) (nm:ByteArray):gA:=⟨k,nm,0,0,0,true,[],true,[],0,0,false⟩
def IB (l:List OD) (i:Int):gA :=
 let x:=HA l i
 let n:Int:=l.length
 match x.kind with
 | 1=>.of 1 ⟨#[]⟩
 | 2=>{ gA.of 2 ⟨#[]⟩ with low:=x.low,high:=x.high }
 | 3=>{ gA.of 3 ⟨#[]⟩ with max:=x.a % 4 }
 | 4=>{ gA.of 4 (gK i) with opn:=decide (x.b % 2=1),sn:=false,syms:=xI x.a }
 | 5=>{ gA.of 5 (gK i) with mn:=(uF l i true x.parts).isEmpty,mems:=uF l i true x.parts }
 | 6=>if (uF l i false x.parts).isEmpty=true then .of 5 (gK i) else { gA.of 6 (gK i) with opn:=decide (x.b % 2=1),mn:=false,mems:=uF l i false x.parts }
 | 7=>{ gA.of 7 ⟨#[]⟩ with max:=x.a % 4,elem:=x.c % n }
 | 8=>if TK l x.b<0 then { gA.of 7 ⟨#[]⟩ with max:=x.a % 4,elem:=x.c % n } else { gA.of 8 ⟨#[]⟩ with max:=x.a % 4,key:=TK l x.b,elem:=x.c % n }
 | _=>{ gA.of 9 ⟨#[]⟩ with elem:=x.c % n }
def JF (t:gA) (c:AV):List AV:=[.int .i64 t.kind,.str t.name,.int .i64 t.low,.int .i64 t.high,.int .i64 t.max,.sl t.sn (t.syms.map MD),c,.int .i64 t.key,.int .i64 t.elem,.bool t.opn]
def bJ (ms:List bB) (c:AV) (s:aA):Prop :=
 (ms=[]/\c=.sl true [])\/∃ N,ms≠[]/\N<s.next/\c=.ref 88 N 13 0 ms.length ms.length/\s.mem 88 N=some (jA (ms.map nA))
theorem gX.mems {n0:Nat} {ms:List bB} {x:rA} {s:aA} (h:gX n0 ms x s):bJ ms x.v s:=by
 rcases h with ⟨h1,h2,_⟩ | ⟨N,h1,_,h3,h4,h5⟩
 ·exact .inl ⟨h1,h2⟩
 ·exact .inr ⟨N,h1,h3,h4,h5⟩
theorem U3 (ms:List bB):ZD (ms.map nA)=true:=tJ nA ms fun m=>by simp [nA,AV.free0]
theorem bJ.keep {ms:List bB} {c:AV} {s s':aA} (h:bJ ms c s) (hm:∀ N,N<s.next->s'.mem 88 N=s.mem 88 N) (hn:s.next<=s'.next):bJ ms c s':=by
 rcases h with h | ⟨N,h1,h2,h3,h4⟩
 ·exact .inl h
 ·exact .inr ⟨N,h1,yW h2 hn,h3,(hm N h2).trans h4⟩
theorem bJ.low {ms:List bB} {c:AV} {s:aA} (h:bJ ms c s):s8 s.next c:=by
 rcases h with ⟨_,rfl⟩ | ⟨N,_,h2,rfl,_⟩
 ·exact mM rfl
 ·exact d8 h2
def mJ (S:List gA) (L:List (List AV)) (s:aA):Prop:=S.length=L.length/\∀ (i:Nat) (t:gA) (c:List AV),S[i]?=some t->L[i]?=some c->∃ m,c=JF t m/\bJ t.mems m s
theorem mJ.snoc {S:List gA} {L:List (List AV)} {s:aA} (h:mJ S L s) {t:gA} {m:AV} (hm:bJ t.mems m s):mJ (S++[t]) (L++[JF t m]) s:=by
 obtain ⟨h1,h2⟩:=h;refine ⟨by simp [h1],fun i t' c' ht hc=>?_⟩;rcases Nat.lt_or_ge i S.length with fa | dh
 ·rw [yV fa] at ht;rw [yV (by omega)] at hc;exact h2 i t' c' ht hc
 ·rw [yP dh] at ht;rw [yP (by omega)] at hc;have hi:i - S.length=0:=by
   rcases yG (i - S.length) with h0 | h0
   ·exact h0
   ·rw [yZ (by simp; omega)] at ht; cases ht
  rw [hi] at ht;rw [<- h1,hi] at hc;injection ht with ht;injection hc with hc;exact ⟨m,by rw [<- ht,<- hc],by rw [<- ht]; exact hm⟩
theorem mJ.keep {S:List gA} {L:List (List AV)} {s s':aA} (h:mJ S L s) (hm:∀ N,N<s.next->s'.mem 88 N=s.mem 88 N) (hn:s.next<=s'.next):mJ S L s' :=
 ⟨h.1,fun i t c ht hc=>by obtain ⟨m,h1,h2⟩:=h.2 i t c ht hc; exact ⟨m,h1,h2.keep hm hn⟩⟩
theorem mJ.els {S:List gA} {L:List (List AV)} {s:aA} (h:mJ S L s):kB 10 L=true:=by
 refine y6.2 fun c hc=>?_
 obtain ⟨i,hi,rfl⟩:=yy hc;have ba:=h.1;have hiS:i<S.length:=by omega
 obtain ⟨m,h1,_⟩:=h.2 i S[i] L[i] (y4 (by omega)) (y4 hi);rw [h1];rfl
section
set_option maxHeartbeats 4000000
def LQ (p n8:Nat) (M M':Nat->Nat->Option (List rA)):Prop:=∀ t n,¬ (t=p/\n=n8)->(∀ r,M t n=some r->∀ x∈r,eN x)->M' t n=M t n
theorem LQ.refl {p n8:Nat} {M:Nat->Nat->Option (List rA)}:LQ p n8 M M:=fun _ _ _ _=>rfl
theorem LQ.strip {p n8:Nat} {M M':Nat->Nat->Option (List rA)} (h:LQ p n8 M M') (k:Nat):LQ p n8 M (OV k M'):=fun t n h1 h2=>by
 rw [s4,h t n h1 h2];cases hr:M t n with
 | none=>rfl
 | some r =>
  refine congrArg some ?_;have:r.map (rA.strip k)=r.map id:=yz fun x hx=>h2 r hr x hx k
  rwa [List.map_id] at this
theorem LQ.set {p n8:Nat} {M M':Nat->Nat->Option (List rA)} (h:LQ p n8 M M') {r:List rA}:LQ p n8 M (N5 M' p n8 r):=fun t n h1 h2=>by
 rw [iB,if_neg h1];exact h t n h1 h2
def XJ (nm:ByteArray) (op:Bool) (S:List eU) (b:Bool) (a:An):List rA:=[⟨.int .i64 4,.no⟩,⟨.str nm,.no⟩,⟨.int .i64 0,.no⟩,⟨.int .i64 0,.no⟩,⟨.int .i64 0,.no⟩,⟨.sl b (S.map MD),a⟩,⟨.sl true [],.no⟩,⟨.int .i64 0,.no⟩,⟨.int .i64 0,.no⟩,⟨.bool op,.no⟩]
theorem idl_rng (a:Int):∀ i,∀ d∈MW a i,1<=d/\d<=i
 | 0,d,h=>by cases h
 | i + 1,d,h=>by
  rw [MW] at h;rcases yE.1 h with h | h
  ·have:=idl_rng a i d h; omega
  ·split at h
   ·simp at h; omega
   ·cases h
theorem idsZ_rng (a:Int):∀ d∈OF a,1<=d/\d<=6:=fun d h=>by
 unfold OF at h;split at h
 ·simp at h; omega
 ·have:=idl_rng a 6 d h; omega
theorem esyms_ev {r:RV} {a:Int} {n8:Nat} {nm:ByteArray} {op:Bool} (s0:aA) (k:Ex->aA->Option RV)
  (h9:(s0.env 9).v=.sl false ((OF a).map QL)) (zt:(s0.env 10).v=.int .i64 0) (h8:(s0.env 8).v=.ptr 8 n8 0) (fa:n8<s0.next) (hm:s0.mem 8 n8=some (XJ nm op [] true .no)) (hG:nJ s0.gh) (hL:fL s0.next s0.mem) (hE:wB s0.next s0.env)
  (hk:∀ s',(∀ t,t<9->(s'.env t).v=(s0.env t).v)->LQ 8 n8 s0.mem s'.mem->s'.gh=s0.gh->s'.obj=s0.obj->s0.next<=s'.next->fL s'.next s'.mem->wB s'.next s'.env->(∃ an,s'.mem 8 n8=some (XJ nm op (xI a) false an))->k (.exit 3) s'=some r):kI kA tA HG s0 k=some r:=by
 have ep:=CS a;refine bA (OF a).length (fun i s=>(∀ t,t<10->(s.env t).v=(s0.env t).v)/\(s.env 10).v=.int .i64 i/\LQ 8 n8 s0.mem s.mem/\s.gh=s0.gh/\s.obj=s0.obj/\s0.next<=s.next/\fL s.next s.mem/\wB s.next s.env/\(i=0/\s.mem 8 n8=some (XJ nm op [] true .no)\/¬ i=0/\s.mem 8 n8=some (XJ nm op ((xI a).take i) false (.own 91 144))))
  (fun e s=>e=.exit 3/\(∀ t,t<9->(s.env t).v=(s0.env t).v)/\LQ 8 n8 s0.mem s.mem/\s.gh=s0.gh/\s.obj=s0.obj/\s0.next<=s.next/\fL s.next s.mem/\wB s.next s.env/\∃ an,s.mem 8 n8=some (XJ nm op (xI a) false an)) (fun i hi s k h ih hk=>?_) s0 k ⟨fun _ _=>rfl,by simpa using zt,LQ.refl,rfl,rfl,yf _,hL,hE,.inl ⟨rfl,hm⟩⟩ (fun e s h=>by obtain ⟨rfl,h1,h2,h3,h4,h5,h6,h7,h8⟩:=h; exact hk s h1 h2 h3 h4 h5 h6 h7 h8)
 obtain ⟨he,e10,mb,hg,ho,hn,hL,hE,ka⟩:=h;have e9:=(he 9 (by omega)).trans h9;have e8:=(he 8 (by omega)).trans h8;refine uA ?_;by_cases ga:i<(OF a).length
 ·have rm:(i:Int)<(OF a).length:=by omega
  have xh:=LA (i:=i);have g1:((OF a).map QL)[i]?=some (QL (OF a)[i]):=by simp [ga]
  have hd:=idsZ_rng a _ (y5 ga);have zy:(xI a).take (i + 1)=(xI a).take i++[⟨(OF a)[i],sName (OF a)[i]⟩]:=by
   have hl:i<(xI a).length:=by simpa [xI] using ga
   rw [<- yr hl];simp [xI]
  have te:((xI a).take i).length=i:=by simp [xI]; omega
  generalize (OF a)[i]=d at *
  have hlm:((OF a).map QL).length=(OF a).length:=by simp
  generalize (OF a).map QL=D at *
  generalize hS:(xI a).take i=S at *
  obtain ⟨z,hz⟩:∃ z:Int,z=i:=⟨_,rfl⟩;have bc:0<=z:=by omega
  have zi:IntKind.i64.wrap (z + 1)=((i + 1:Nat):Int):=by rw [hz]; exact xh
  rw [<- hz] at e10 rm;rw [show i=z.toNat from by omega] at g1;simp only [QL] at g1;have hw97:IntKind.i64.wrap (97 + d)=97 + d:=IntWalk.i64_in _ (by omega);have bo:IntKind.i32.wrap (97 + d)=97 + d:=eY _ (by omega);have hes:=AX (97 + d);have ma:(⟨#[115]⟩:ByteArray).size=1:=rfl;have sb:(⟨#[115]⟩:ByteArray).size + (Utf8.encode (97 + d)).size<=9223372036854775807:=by omega
  unfold sName at zy;generalize hEn:Utf8.encode (97 + d)=en at *
  have ja:PB 24 (i + 1)=true:=by rw [CA]; omega
  have ed:=els_sym S;rcases ka with ⟨fg,hr⟩ | ⟨fg,hr⟩
  ·have hS0:S=[]:=by rw [<- hS,fg]; rfl
   subst hS0;subst fg;simp only [XJ,yo] at hr;simp [HG,-V,-y3,-y0,J,e8,e9,e10,hlm,rm,bc,g1,hw97,bo,hEn,sb,hr,ja,zi];refine ih ga _ ⟨fun t ht=>?_,?_,?_,?_,ho,?_,?_,?_,.inr ⟨by omega,?_⟩⟩
   ·have:=he t ht;have q:∀ c,10<=c->¬ t=c:=fun c hc=>by omega
    simp [q,this]
   ·simp
   ·repeat (first | exact mb | refine LQ.set ?_ | refine LQ.strip ?_ _)
   ·simp only [hg,hG.same]
   ·dsimp only; omega
   ·exact ((hL.mono (by dsimp only; omega)).strip 91).set fA
   ·dsimp only
    repeat (first | exact hE.mono (by omega) | refine wB.put ?_ (fun _ _ _=>rfl) | refine wB.put ?_ (LC (by omega)) | refine wB.strip ?_ _)
   ·simp [XJ,zy,MD]
  ·simp only [XJ] at hr;simp [HG,-V,-y3,-y0,J,e8,e9,e10,hlm,rm,bc,g1,hw97,bo,hEn,sb,hr,te,ed,ja,zi];refine ih ga _ ⟨fun t ht=>?_,?_,?_,?_,ho,?_,?_,?_,.inr ⟨by omega,?_⟩⟩
   ·have:=he t ht;have q:∀ c,10<=c->¬ t=c:=fun c hc=>by omega
    simp [q,this]
   ·simp
   ·repeat (first | exact mb | refine LQ.set ?_ | refine LQ.strip ?_ _)
   ·simp only [hg,hG.same]
   ·dsimp only; omega
   ·exact (((hL.mono (by dsimp only; omega)).strip 91).strip 91).set fA
   ·dsimp only
    repeat (first | exact hE.mono (by omega) | refine wB.put ?_ (fun _ _ _=>rfl) | refine wB.put ?_ (LC (by omega)) | refine wB.strip ?_ _)
   ·simp [XJ,zy,MD]
 ·have ww:i=(OF a).length:=by omega
  have rm:¬ (i:Int)<(OF a).length:=by omega
  simp [HG,-V,-y3,-y0,J,e9,e10,ga];have fg:¬ i=0:=by omega
  rcases ka with ⟨h0,_⟩ | ⟨_,hr⟩
  ·exact absurd h0 fg
  ·rw [yv (by simp [xI]; omega)] at hr;refine hk _ _ ⟨rfl,fun t ht=>?_,mb,hg,ho,by dsimp only; omega,hL.mono (by dsimp only; omega),?_,_,hr⟩
   ·have:=he t (by omega);simp [show ¬ t=69 from by omega,show ¬ t=70 from by omega,show ¬ t=71 from by omega,show ¬ t=72 from by omega,this]
   ·dsimp only
    repeat (first | exact hE.mono (by omega) | refine wB.put ?_ (fun _ _ _=>rfl))
end
section
set_option maxHeartbeats 4000000
def tE:C:=.reg [oF 164 0 5,oL 165 164,oA 166 10 8,oS 167 (.bslr 10 zzb 1 [(0,(.t 166))]),oS 168 (.appn .any 102 10 120 (.t 165) (.t 167)),oF 169 0 5,oW 169 168]
def tC:C:=oR [oF 26 0 1,oL 27 26,oM 28 6,oI 29 5 27 28,oA 30 5 29,oY 7 zze,oV 5 7 30] (oR [oA 31 1 1,oM 32 6,oC2 33 72 31 32,oS 34 (.build zzb [(0,(1,(.t 33)))]),oY 8 zzb,oV 10 8 34] (.seq (oR [oF 35 0 8,oL 36 35,oC1 37 73 36] (oD 37 (.reg [oM 38 6,oS 39 (.bin .add false (.c (.int .i64 65)) (.t 38)),oS 40 (.conv (.some .i32) (.t 39)),oS 41 (.rstr (.t 40)),oF 42 1 8,oW 42 41]) .skip)) (.seq (oR [oF 43 0 8,oL 44 43] (.block 2 (oR [oC 46 .eql 44 2,oM 45 46] (oD 45 (.reg [oS 47 (.load (.root 7) true 5 (.t 7)),oC1 48 74 47,oS 49 (.load (.root 7) true 5 (.t 7)),oC1 50 75 49,oF 51 2 8,oN (.store (.root 8) false 1 (.t 51) (.t 48)),oF 52 3 8,oN (.store (.root 8) false 1 (.t 52) (.t 50))]) (oR [oC 54 .eql 44 3,oM 53 54] (oD 53 (.reg [oF 55 1 7,oL 56 55,oS 57 (.bin .rem false (.t 56) (.c (.int .u8 4))),oS 58 (.conv (.some .i64) (.t 57)),oF 59 4 8,oW 59 58]) (oR [oC 61 .eql 44 4,oM 60 61] (oD 60 (oR [oF 62 2 7,oL 63 62,oS 64 (.bin .rem false (.t 63) (.c (.int .u8 2))),oS 65 (.bin .eql false (.t 64) (.c (.int .u8 1))),oF 66 9 8,oW 66 65] (oR [oA 67 5 7,oC1 68 76 67,oM 9 68] (oR [oJ 10 0] (.block 3 (.loop HG))))) (oR [oC 94 .eql 44 5,oM 93 94] (oD 93 (.reg [oA 95 1 1,oM 96 6,oS 97 (.callh 171 (.c (.fn 77 [])) [(.t 95),(.t 96),(.c (.bool true))]),oF 98 6 8,oW 98 97]) (oR [oC 100 .eql 44 6,oM 99 100] (oD 99 (oR [oF 101 2 7,oL 102 101,oS 103 (.bin .rem false (.t 102) (.c (.int .u8 2))),oS 104 (.bin .eql false (.t 103) (.c (.int .u8 1))),oF 105 9 8,oW 105 104] (oR [oA 106 1 1,oM 107 6,oS 108 (.callh 171 (.c (.fn 77 [])) [(.t 106),(.t 107),(.c (.bool false))]),oF 109 6 8,oW 109 108] (oR [oF 110 6 8,oL 111 110,oH 112 111,oC 113 .eql 112 0] (oD 113 (.reg [oF 114 1 8,oL 115 114,oS 116 (.build zzb [(0,(1,(.c (.int .i64 5)))),(1,(1,(.t 115)))]),oV 10 8 116]) .skip)))) (oR [oC 118 .eql 44 7,oM 117 118] (oD 117 (.reg [oF 119 1 7,oLr 120 7 1 119,oS 121 (.bin .rem false (.t 120) (.c (.int .u8 4))),oS 122 (.conv (.some .i64) (.t 121)),oF 123 3 7,oLr 124 7 1 123,oS 125 (.conv (.some .i64) (.t 124)),oM 126 4,oB 127 .rem 125 126,oF 128 4 8,oN (.store (.root 8) false 1 (.t 128) (.t 122)),oF 129 8 8,oN (.store (.root 8) false 1 (.t 129) (.t 127))]) (oR [oC 131 .eql 44 8,oM 130 131] (oD 130 (oR [oF 132 1 7,oLr 133 7 1 132,oS 134 (.bin .rem false (.t 133) (.c (.int .u8 4))),oS 135 (.conv (.some .i64) (.t 134)),oS 136 (.load (.root 1) true 1 (.t 1)),oF 137 2 7,oLr 138 7 1 137,oC2 139 78 136 138,oF 140 3 7,oLr 141 7 1 140,oS 142 (.conv (.some .i64) (.t 141)),oM 143 4,oB 144 .rem 142 143,oF 145 4 8,oN (.store (.root 8) false 1 (.t 145) (.t 135)),oF 146 7 8,oN (.store (.root 8) false 1 (.t 146) (.t 139)),oF 147 8 8,oN (.store (.root 8) false 1 (.t 147) (.t 144))] (oR [oF 148 7 8,oL 149 148,oC 150 .lss 149 0] (oD 150 (.reg [oF 151 4 8,oL 152 151,oF 153 8 8,oL 154 153,oS 155 (.build zzb [(0,(1,(.c (.int .i64 7)))),(4,(1,(.t 152))),(8,(1,(.t 154)))]),oV 10 8 155]) .skip))) (oR [oC 157 .eql 44 9,oM 156 157] (oD 156 (.reg [oF 158 3 7,oL 159 158,oS 160 (.conv (.some .i64) (.t 159)),oM 161 4,oB 162 .rem 160 161,oF 163 8 8,oW 163 162]) .skip)))))))))))))))))) tE)))
theorem of_L2:fR=.seq (.seq (.reg [⟨(.some 21),(.mv (.t 6)),.none⟩,⟨(.some 22),(.mv (.t 4)),.none⟩,⟨(.some 23),(.bin .lss .false (.t 21) (.t 22)),.none⟩]) (.cond (.t 23) .skip (.exit 0))) (.seq (.block 1 tC) (.reg [⟨(.some 24),(.mv (.t 6)),.none⟩,⟨(.some 25),(.bin .add .false (.t 24) (.c (.int .i64 1))),.none⟩,⟨(.some 6),(.mv (.t 25)),.none⟩])):=rfl
def M5I (n0:Nat) (l:List OD) (i:Nat) (s:aA):Prop :=
 (i=0/\∃ a,s.mem 5 (n0 + 3)=some [⟨.sl true [],a⟩]/\eN ⟨.sl true [],a⟩)\/∃ N L,¬ i=0/\s.mem 5 (n0 + 3)=some [⟨.ref 168 N 10 0 i i,.no⟩]/\n0<=N/\N<s.next/\s.mem 168 N=some (jA L)/\L.length=i/\mJ ((List.range i).map fun (j:Nat)=>IB l (j:Int)) L s
theorem M5I.keep {n0:Nat} {l:List OD} {i:Nat} {s s':aA} (h:M5I n0 l i s) (h5:s'.mem 5 (n0 + 3)=s.mem 5 (n0 + 3)) (ej:∀ N,N<s.next->s'.mem 168 N=s.mem 168 N) (h88:∀ N,N<s.next->s'.mem 88 N=s.mem 88 N) (hn:s.next<=s'.next):M5I n0 l i s':=by
 rcases h with ⟨h1,a,h2,h3⟩ | ⟨N,L,h1,h2,h0,h3,h4,h6,h7⟩
 ·exact .inl ⟨h1,a,h5.trans h2,h3⟩
 ·exact .inr ⟨N,L,h1,h5.trans h2,h0,yW h3 hn,(ej N h3).trans h4,h6,h7.keep h88 hn⟩
structure P6 (n0:Nat) (s0:aA) (dn:Bool) (l:List OD) (i:Nat) (s:aA):Prop where
 e1:(s.env 1).v=.ptr 1 n0 0
 m1:s.mem 1 n0=some [⟨.sl dn (l.map AD),.no⟩]
 e2:(s.env 2).v=.ptr 2 n0 0
 m2:∃ a,s.mem 2 n0=some [⟨.sl true [],a⟩]/\eN ⟨.sl true [],a⟩
 e4:(s.env 4).v=.int .i64 l.length
 e5:(s.env 5).v=.ptr 5 (n0 + 3) 0
 e6:(s.env 6).v=.int .i64 i
 m5:M5I n0 l i s
 calm:W6 n0 s0 s
 lowE:wB s.next s.env
 lt:n0 + 3<s.next
structure jN (n0:Nat) (s0:aA) (dn:Bool) (l:List OD) (i:Nat) (n8:Nat) (s:aA):Prop where
 ofI:P6 n0 s0 dn l i s
 e8:(s.env 8).v=.ptr 8 n8 0
 lt8:n8<s.next
 row:∃ m r,s.mem 8 n8=some r/\r.map (·.v)=JF (IB l (i:Int)) m/\bJ (IB l (i:Int)).mems m s
theorem kind1_ev {r:RV} {n0:Nat} {s0:aA} {dn:Bool} {l:List OD} (hl:oks l) {i:Nat} (hi:i<l.length) {s:aA} {k:Ex->aA->Option RV} (h:P6 n0 s0 dn l i s) (wc:(HA l (i:Int)).kind=1) (hk:∀ n8 s',jN n0 s0 dn l i n8 s'->tE.run (BI kA tA) (aN kA tA) s' k=some r):tC.run (BI kA tA) (aN kA tA) s k=some r:=by
 obtain ⟨e1,m1,e2,m2,e4,e5,e6,m5,⟨cm,cg,co,cn,cl⟩,lowE,lt⟩:=h;have ac:=HH (dn:=dn) hl (z:=(i:Int)) (by omega) (by omega);have g:l[i]?=some l[i]:=y4 hi;have gm:(l.map AD)[i]?=some (AD (HA l (i:Int))):=by simp [HA,g]
 have db:UC l (i:Int)=1:=by rw [<- wc]; simp [UC,HA,g]
 have wa:IB l (i:Int)=gA.of 1 ⟨#[]⟩:=by simp only [IB,wc]
 rw [db] at ac;generalize HA l (i:Int)=x at *
 have sb:=UD 1;simp only [sA,kJ,AD] at ac gm;obtain ⟨z,hz⟩:∃ z:Int,z=i:=⟨_,rfl⟩;have bc:0<=z:=by omega
 rw [<- hz] at e6 ac;rw [show i=z.toNat from by omega] at gm;simp [tC,-V,-y3,-y0,J,e1,m1,e4,e6,bc,gm,ac,sb];refine hk (s.next + 1) _ ⟨⟨?_,?_,?_,?_,?_,?_,?_,?_,⟨?_,?_,?_,?_,?_⟩,?_,?_⟩,?_,?_,?_⟩
 ·simp [e1]
 ·simp [m1]
 ·simp [e2]
 ·simpa using m2
 ·simp [e4]
 ·simp [e5]
 ·simp [e6,hz]
 ·exact m5.keep (by simp) (fun N _=>by simp) (fun N _=>by simp) (by dsimp only; omega)
 ·repeat (first | exact cm | refine WC.set ?_ (by omega))
 ·exact cg
 ·exact co
 ·dsimp only; omega
 ·exact ((((cl.mono (by dsimp only; omega)).set fA).set fA).set fA).set fA
 ·dsimp only
  repeat (first | exact lowE.mono (by omega) | refine wB.put ?_ (fun _ _ _=>rfl) | refine wB.put ?_ (LC (by omega)))
 ·dsimp only; omega
 ·simp
 ·dsimp only; omega
 ·refine ⟨.sl true [],_,by simp; rfl,?_,.inl ⟨?_,rfl⟩⟩
  ·rw [wa]; simp [JF,gA.of]
  ·rw [wa]; rfl
end
section
set_option maxHeartbeats 4000000
theorem ZN (x:OD) (hx:x.ok):u8 x.k/\u8 x.a/\u8 x.b/\u8 x.c/\True:=⟨hx.1,hx.2.1,hx.2.2.1,hx.2.2.2.1,trivial⟩
theorem eH {l:List OD} (hl:oks l) {i:Nat} (hi:i<l.length):(HA l (i:Int)).ok:=by
 have g:l[i]?=some l[i]:=y4 hi;simp only [HA,Int.toNat_natCast,g];exact hl.2.2 _ (y5 hi)
section
variable {r:RV} {n0:Nat} {s0:aA} {dn:Bool} {l:List OD} (hl:oks l) {i:Nat} (hi:i<l.length) {s:aA} {k:Ex->aA->Option RV} (h:P6 n0 s0 dn l i s)
include r n0 s0 dn l hl i hi s k h
theorem kind2_ev (wc:(HA l (i:Int)).kind=2) (hk:∀ n8 s',jN n0 s0 dn l i n8 s'->tE.run (BI kA tA) (aN kA tA) s' k=some r):tC.run (BI kA tA) (aN kA tA) s k=some r:=by
 obtain ⟨e1,m1,e2,m2,e4,e5,e6,m5,⟨cm,cg,co,cn,cl⟩,lowE,lt⟩:=h;have ac:=HH (dn:=dn) hl (z:=(i:Int)) (by omega) (by omega);have g:l[i]?=some l[i]:=y4 hi;have gm:(l.map AD)[i]?=some (AD (HA l (i:Int))):=by simp [HA,g]
 have db:UC l (i:Int)=2:=by rw [<- wc]; simp [UC,HA,g]
 have wa:IB l (i:Int)={ gA.of 2 ⟨#[]⟩ with low:=(HA l (i:Int)).low,high:=(HA l (i:Int)).high }:=by simp only [IB,wc]
 have hx:=eH hl hi;rw [db] at ac;generalize HA l (i:Int)=x at *
 have sb:=UD 2;obtain ⟨xk,xa,xb,xc,_⟩:=ZN x hx;have xg:=low_ev x hx;have dm:=high_ev x hx;simp only [sA,AD] at xg dm;simp only [sA,kJ,AD] at ac gm;obtain ⟨z,hz⟩:∃ z:Int,z=i:=⟨_,rfl⟩;have bc:0<=z:=by omega
 rw [<- hz] at e6 ac;rw [show i=z.toNat from by omega] at gm;simp [tC,-V,-y3,-y0,J,e1,m1,e4,e6,bc,gm,ac,sb,xg,dm];refine hk (s.next + 1) _ ⟨⟨?_,?_,?_,?_,?_,?_,?_,?_,⟨?_,?_,?_,?_,?_⟩,?_,?_⟩,?_,?_,?_⟩
 ·simp [e1]
 ·simp [m1]
 ·simp [e2]
 ·simpa using m2
 ·simp [e4]
 ·simp [e5]
 ·simp [e6,hz]
 ·exact m5.keep (by simp) (fun N _=>by simp) (fun N _=>by simp) (by dsimp only; omega)
 ·repeat (first | exact cm | refine WC.set ?_ (by omega))
 ·exact cg
 ·exact co
 ·dsimp only; omega
 ·exact ((((((cl.mono (by dsimp only; omega)).set fA).set fA).set fA).set fA).set fA).set fA
 ·dsimp only
  repeat (first | exact lowE.mono (by omega) | refine wB.put ?_ (fun _ _ _=>rfl) | refine wB.put ?_ (LC (by omega)))
 ·dsimp only; omega
 ·simp
 ·dsimp only; omega
 ·refine ⟨.sl true [],_,by simp; rfl,?_,.inl ⟨?_,rfl⟩⟩
  ·rw [wa]; simp [JF,gA.of]
  ·rw [wa]; rfl
theorem kind3_ev (wc:(HA l (i:Int)).kind=3) (hk:∀ n8 s',jN n0 s0 dn l i n8 s'->tE.run (BI kA tA) (aN kA tA) s' k=some r):tC.run (BI kA tA) (aN kA tA) s k=some r:=by
 obtain ⟨e1,m1,e2,m2,e4,e5,e6,m5,⟨cm,cg,co,cn,cl⟩,lowE,lt⟩:=h;have ac:=HH (dn:=dn) hl (z:=(i:Int)) (by omega) (by omega);have g:l[i]?=some l[i]:=y4 hi;have gm:(l.map AD)[i]?=some (AD (HA l (i:Int))):=by simp [HA,g]
 have db:UC l (i:Int)=3:=by rw [<- wc]; simp [UC,HA,g]
 have wa:IB l (i:Int)={ gA.of 3 ⟨#[]⟩ with max:=(HA l (i:Int)).a % 4 }:=by simp only [IB,wc]
 have hx:=eH hl hi;rw [db] at ac;generalize HA l (i:Int)=x at *
 have sb:=UD 3;obtain ⟨xk,xa,xb,xc,_⟩:=ZN x hx;have tx:x.a.tmod 4=x.a % 4:=yu xa.1;have ax:IntKind.i64.wrap (x.a % 4)=x.a % 4:=IntWalk.i64_in _ (by omega);simp only [sA,kJ,AD] at ac gm;obtain ⟨z,hz⟩:∃ z:Int,z=i:=⟨_,rfl⟩;have bc:0<=z:=by omega
 rw [<- hz] at e6 ac;rw [show i=z.toNat from by omega] at gm;simp [tC,-V,-y3,-y0,J,e1,m1,e4,e6,bc,gm,ac,sb,tx,ax];refine hk (s.next + 1) _ ⟨⟨?_,?_,?_,?_,?_,?_,?_,?_,⟨?_,?_,?_,?_,?_⟩,?_,?_⟩,?_,?_,?_⟩
 ·simp [e1]
 ·simp [m1]
 ·simp [e2]
 ·simpa using m2
 ·simp [e4]
 ·simp [e5]
 ·simp [e6,hz]
 ·exact m5.keep (by simp) (fun N _=>by simp) (fun N _=>by simp) (by dsimp only; omega)
 ·repeat (first | exact cm | refine WC.set ?_ (by omega))
 ·exact cg
 ·exact co
 ·dsimp only; omega
 ·exact (((((cl.mono (by dsimp only; omega)).set fA).set fA).set fA).set fA).set fA
 ·dsimp only
  repeat (first | exact lowE.mono (by omega) | refine wB.put ?_ (fun _ _ _=>rfl) | refine wB.put ?_ (LC (by omega)))
 ·dsimp only; omega
 ·simp
 ·dsimp only; omega
 ·refine ⟨.sl true [],_,by simp; rfl,?_,.inl ⟨?_,rfl⟩⟩
  ·rw [wa]; simp [JF,gA.of]
  ·rw [wa]; rfl
theorem kind7_ev (wc:(HA l (i:Int)).kind=7) (hk:∀ n8 s',jN n0 s0 dn l i n8 s'->tE.run (BI kA tA) (aN kA tA) s' k=some r):tC.run (BI kA tA) (aN kA tA) s k=some r:=by
 obtain ⟨e1,m1,e2,m2,e4,e5,e6,m5,⟨cm,cg,co,cn,cl⟩,lowE,lt⟩:=h;have ac:=HH (dn:=dn) hl (z:=(i:Int)) (by omega) (by omega);have g:l[i]?=some l[i]:=y4 hi;have gm:(l.map AD)[i]?=some (AD (HA l (i:Int))):=by simp [HA,g]
 have db:UC l (i:Int)=7:=by rw [<- wc]; simp [UC,HA,g]
 have wa:IB l (i:Int)={ gA.of 7 ⟨#[]⟩ with max:=(HA l (i:Int)).a % 4,elem:=(HA l (i:Int)).c % l.length }:=by simp only [IB,wc]
 have hx:=eH hl hi;rw [db] at ac;generalize HA l (i:Int)=x at *
 have sb:=UD 7;obtain ⟨xk,xa,xb,xc,_⟩:=ZN x hx;have tx:x.a.tmod 4=x.a % 4:=yu xa.1;have ax:IntKind.i64.wrap (x.a % 4)=x.a % 4:=IntWalk.i64_in _ (by omega);have ll:IntKind.i64.wrap x.c=x.c:=IntWalk.i64_in _ (by simp only [u8] at xc; omega);have hmc:x.c.tmod l.length=x.c % l.length:=yu xc.1;have ir:¬ (l.length:Int)=0:=by omega
 have xf:¬ l=[]:=by intro e; rw [e] at hi; simp at hi
 simp only [sA,kJ,AD] at ac gm;obtain ⟨z,hz⟩:∃ z:Int,z=i:=⟨_,rfl⟩;have bc:0<=z:=by omega
 rw [<- hz] at e6 ac;rw [show i=z.toNat from by omega] at gm;simp [tC,-V,-y3,-y0,J,e1,m1,e4,e6,bc,gm,ac,sb,tx,ax,ll,hmc,ir,xf];refine hk (s.next + 1) _ ⟨⟨?_,?_,?_,?_,?_,?_,?_,?_,⟨?_,?_,?_,?_,?_⟩,?_,?_⟩,?_,?_,?_⟩
 ·simp [e1]
 ·simp [m1]
 ·simp [e2]
 ·simpa using m2
 ·simp [e4]
 ·simp [e5]
 ·simp [e6,hz]
 ·exact m5.keep (by simp) (fun N _=>by simp) (fun N _=>by simp) (by dsimp only; omega)
 ·repeat (first | exact cm | refine WC.set ?_ (by omega))
 ·exact cg
 ·exact co
 ·dsimp only; omega
 ·exact ((((((cl.mono (by dsimp only; omega)).set fA).set fA).set fA).set fA).set fA).set fA
 ·dsimp only
  repeat (first | exact lowE.mono (by omega) | refine wB.put ?_ (fun _ _ _=>rfl) | refine wB.put ?_ (LC (by omega)))
 ·dsimp only; omega
 ·simp
 ·dsimp only; omega
 ·refine ⟨.sl true [],_,by simp; rfl,?_,.inl ⟨?_,rfl⟩⟩
  ·rw [wa]; simp [JF,gA.of]
  ·rw [wa]; rfl
theorem kind9_ev (wc:(HA l (i:Int)).kind=9) (hk:∀ n8 s',jN n0 s0 dn l i n8 s'->tE.run (BI kA tA) (aN kA tA) s' k=some r):tC.run (BI kA tA) (aN kA tA) s k=some r:=by
 obtain ⟨e1,m1,e2,m2,e4,e5,e6,m5,⟨cm,cg,co,cn,cl⟩,lowE,lt⟩:=h;have ac:=HH (dn:=dn) hl (z:=(i:Int)) (by omega) (by omega);have g:l[i]?=some l[i]:=y4 hi;have gm:(l.map AD)[i]?=some (AD (HA l (i:Int))):=by simp [HA,g]
 have db:UC l (i:Int)=9:=by rw [<- wc]; simp [UC,HA,g]
 have wa:IB l (i:Int)={ gA.of 9 ⟨#[]⟩ with elem:=(HA l (i:Int)).c % l.length }:=by simp only [IB,wc]
 have hx:=eH hl hi;rw [db] at ac;generalize HA l (i:Int)=x at *
 have sb:=UD 9;obtain ⟨xk,xa,xb,xc,_⟩:=ZN x hx;have ll:IntKind.i64.wrap x.c=x.c:=IntWalk.i64_in _ (by simp only [u8] at xc; omega);have hmc:x.c.tmod l.length=x.c % l.length:=yu xc.1;have ir:¬ (l.length:Int)=0:=by omega
 have xf:¬ l=[]:=by intro e; rw [e] at hi; simp at hi
 simp only [sA,kJ,AD] at ac gm;obtain ⟨z,hz⟩:∃ z:Int,z=i:=⟨_,rfl⟩;have bc:0<=z:=by omega
 rw [<- hz] at e6 ac;rw [show i=z.toNat from by omega] at gm;simp [tC,-V,-y3,-y0,J,e1,m1,e4,e6,bc,gm,ac,sb,ll,hmc,ir,xf];refine hk (s.next + 1) _ ⟨⟨?_,?_,?_,?_,?_,?_,?_,?_,⟨?_,?_,?_,?_,?_⟩,?_,?_⟩,?_,?_,?_⟩
 ·simp [e1]
 ·simp [m1]
 ·simp [e2]
 ·simpa using m2
 ·simp [e4]
 ·simp [e5]
 ·simp [e6,hz]
 ·exact m5.keep (by simp) (fun N _=>by simp) (fun N _=>by simp) (by dsimp only; omega)
 ·repeat (first | exact cm | refine WC.set ?_ (by omega))
 ·exact cg
 ·exact co
 ·dsimp only; omega
 ·exact (((((cl.mono (by dsimp only; omega)).set fA).set fA).set fA).set fA).set fA
 ·dsimp only
  repeat (first | exact lowE.mono (by omega) | refine wB.put ?_ (fun _ _ _=>rfl) | refine wB.put ?_ (LC (by omega)))
 ·dsimp only; omega
 ·simp
 ·dsimp only; omega
 ·refine ⟨.sl true [],_,by simp; rfl,?_,.inl ⟨?_,rfl⟩⟩
  ·rw [wa]; simp [JF,gA.of]
  ·rw [wa]; rfl
theorem kind8n_ev (wc:(HA l (i:Int)).kind=8) (hc:TK l (HA l (i:Int)).b<0) (hk:∀ n8 s',jN n0 s0 dn l i n8 s'->tE.run (BI kA tA) (aN kA tA) s' k=some r):tC.run (BI kA tA) (aN kA tA) s k=some r:=by
 obtain ⟨e1,m1,e2,m2,e4,e5,e6,m5,⟨cm,cg,co,cn,cl⟩,lowE,lt⟩:=h;have ac:=HH (dn:=dn) hl (z:=(i:Int)) (by omega) (by omega);have g:l[i]?=some l[i]:=y4 hi;have gm:(l.map AD)[i]?=some (AD (HA l (i:Int))):=by simp [HA,g]
 have db:UC l (i:Int)=8:=by rw [<- wc]; simp [UC,HA,g]
 have wa:IB l (i:Int)={ gA.of 7 ⟨#[]⟩ with max:=(HA l (i:Int)).a % 4,elem:=(HA l (i:Int)).c % l.length }:=by simp only [IB,wc]; rw [if_pos hc]
 have hx:=eH hl hi;rw [db] at ac;generalize HA l (i:Int)=x at *
 have sb:=UD 8;obtain ⟨xk,xa,xb,xc,_⟩:=ZN x hx;have tx:x.a.tmod 4=x.a % 4:=yu xa.1;have ax:IntKind.i64.wrap (x.a % 4)=x.a % 4:=IntWalk.i64_in _ (by omega);have ll:IntKind.i64.wrap x.c=x.c:=IntWalk.i64_in _ (by simp only [u8] at xc; omega);have hmc:x.c.tmod l.length=x.c % l.length:=yu xc.1;have ir:¬ (l.length:Int)=0:=by omega
 have xf:¬ l=[]:=by intro e; rw [e] at hi; simp at hi
 have td:=key_ev dn l hl x.b xb;simp only [sA,kJ] at td;simp only [sA,kJ,AD] at ac gm;obtain ⟨z,hz⟩:∃ z:Int,z=i:=⟨_,rfl⟩;have bc:0<=z:=by omega
 rw [<- hz] at e6 ac;rw [show i=z.toNat from by omega] at gm;simp [tC,-V,-y3,-y0,J,e1,m1,e4,e6,bc,gm,ac,sb,tx,ax,ll,hmc,ir,xf,td,hc];refine hk (s.next + 1) _ ⟨⟨?_,?_,?_,?_,?_,?_,?_,?_,⟨?_,?_,?_,?_,?_⟩,?_,?_⟩,?_,?_,?_⟩
 ·simp [e1]
 ·simp [m1]
 ·simp [e2]
 ·simpa using m2
 ·simp [e4]
 ·simp [e5]
 ·simp [e6,hz]
 ·exact m5.keep (by simp) (fun N _=>by simp) (fun N _=>by simp) (by dsimp only; omega)
 ·repeat (first | exact cm | refine WC.set ?_ (by omega))
 ·exact cg
 ·exact co
 ·dsimp only; omega
 ·exact ((((((((cl.mono (by dsimp only; omega)).set fA).set fA).set fA).set fA).set fA).set fA).set fA).set fA
 ·dsimp only
  repeat (first | exact lowE.mono (by omega) | refine wB.put ?_ (fun _ _ _=>rfl) | refine wB.put ?_ (LC (by omega)))
 ·dsimp only; omega
 ·simp
 ·dsimp only; omega
 ·refine ⟨.sl true [],_,by simp; rfl,?_,.inl ⟨?_,rfl⟩⟩
  ·rw [wa]; simp [JF,gA.of]
  ·rw [wa]; rfl
theorem kind8p_ev (wc:(HA l (i:Int)).kind=8) (hc:¬ TK l (HA l (i:Int)).b<0) (hk:∀ n8 s',jN n0 s0 dn l i n8 s'->tE.run (BI kA tA) (aN kA tA) s' k=some r):tC.run (BI kA tA) (aN kA tA) s k=some r:=by
 obtain ⟨e1,m1,e2,m2,e4,e5,e6,m5,⟨cm,cg,co,cn,cl⟩,lowE,lt⟩:=h;have ac:=HH (dn:=dn) hl (z:=(i:Int)) (by omega) (by omega);have g:l[i]?=some l[i]:=y4 hi;have gm:(l.map AD)[i]?=some (AD (HA l (i:Int))):=by simp [HA,g]
 have db:UC l (i:Int)=8:=by rw [<- wc]; simp [UC,HA,g]
 have wa:IB l (i:Int)={ gA.of 8 ⟨#[]⟩ with max:=(HA l (i:Int)).a % 4,key:=TK l (HA l (i:Int)).b,elem:=(HA l (i:Int)).c % l.length }:=by simp only [IB,wc]; rw [if_neg hc]
 have hx:=eH hl hi;rw [db] at ac;generalize HA l (i:Int)=x at *
 have sb:=UD 8;obtain ⟨xk,xa,xb,xc,_⟩:=ZN x hx;have tx:x.a.tmod 4=x.a % 4:=yu xa.1;have ax:IntKind.i64.wrap (x.a % 4)=x.a % 4:=IntWalk.i64_in _ (by omega);have ll:IntKind.i64.wrap x.c=x.c:=IntWalk.i64_in _ (by simp only [u8] at xc; omega);have hmc:x.c.tmod l.length=x.c % l.length:=yu xc.1;have ir:¬ (l.length:Int)=0:=by omega
 have xf:¬ l=[]:=by intro e; rw [e] at hi; simp at hi
 have td:=key_ev dn l hl x.b xb;simp only [sA,kJ] at td;simp only [sA,kJ,AD] at ac gm;obtain ⟨z,hz⟩:∃ z:Int,z=i:=⟨_,rfl⟩;have bc:0<=z:=by omega
 rw [<- hz] at e6 ac;rw [show i=z.toNat from by omega] at gm;simp [tC,-V,-y3,-y0,J,e1,m1,e4,e6,bc,gm,ac,sb,tx,ax,ll,hmc,ir,xf,td,hc];refine hk (s.next + 1) _ ⟨⟨?_,?_,?_,?_,?_,?_,?_,?_,⟨?_,?_,?_,?_,?_⟩,?_,?_⟩,?_,?_,?_⟩
 ·simp [e1]
 ·simp [m1]
 ·simp [e2]
 ·simpa using m2
 ·simp [e4]
 ·simp [e5]
 ·simp [e6,hz]
 ·exact m5.keep (by simp) (fun N _=>by simp) (fun N _=>by simp) (by dsimp only; omega)
 ·repeat (first | exact cm | refine WC.set ?_ (by omega))
 ·exact cg
 ·exact co
 ·dsimp only; omega
 ·exact (((((((cl.mono (by dsimp only; omega)).set fA).set fA).set fA).set fA).set fA).set fA).set fA
 ·dsimp only
  repeat (first | exact lowE.mono (by omega) | refine wB.put ?_ (fun _ _ _=>rfl) | refine wB.put ?_ (LC (by omega)))
 ·dsimp only; omega
 ·simp
 ·dsimp only; omega
 ·refine ⟨.sl true [],_,by simp; rfl,?_,.inl ⟨?_,rfl⟩⟩
  ·rw [wa]; simp [JF,gA.of]
  ·rw [wa]; rfl
end
end
section
set_option maxHeartbeats 4000000
theorem mZ (l:List (List AV)):∀ x∈jA l,eN x:=fun x hx=>by
 obtain ⟨v,_,rfl⟩:=yB.1 hx;exact rN v
theorem bJ.stay {ms:List bB} {c:AV} {s s':aA} (h:bJ ms c s) (hm:∀ n r,s.mem 88 n=some r->(∀ x∈r,eN x)->s'.mem 88 n=some r) (hn:s.next<=s'.next):bJ ms c s':=by
 rcases h with h | ⟨N,h1,h2,h3,h4⟩
 ·exact .inl h
 ·exact .inr ⟨N,h1,yW h2 hn,h3,hm N _ h4 (mZ _)⟩
theorem mJ.stay {S:List gA} {L:List (List AV)} {s s':aA} (h:mJ S L s) (hm:∀ n r,s.mem 88 n=some r->(∀ x∈r,eN x)->s'.mem 88 n=some r) (hn:s.next<=s'.next):mJ S L s' :=
 ⟨h.1,fun i t c ht hc=>by obtain ⟨m,h1,h2⟩:=h.2 i t c ht hc; exact ⟨m,h1,h2.stay hm hn⟩⟩
theorem M5I.stay {n0:Nat} {l:List OD} {i:Nat} {s s':aA} (h:M5I n0 l i s) (hm:∀ t n r,(t=5\/t=88\/t=168)->s.mem t n=some r->(∀ x∈r,eN x)->s'.mem t n=some r) (hn:s.next<=s'.next):M5I n0 l i s':=by
 rcases h with ⟨h1,a,h2,h3⟩ | ⟨N,L,h1,h2,h0,h3,h4,h6,h7⟩
 ·exact .inl ⟨h1,a,hm 5 _ _ (.inl rfl) h2 (by simpa using h3),h3⟩
 ·exact .inr ⟨N,L,h1,hm 5 _ _ (.inl rfl) h2 (by simpa using rN _),h0,yW h3 hn,hm 168 _ _ (.inr (.inr rfl)) h4 (mZ _),h6,h7.stay (fun n r=>hm 88 n r (.inr (.inl rfl))) hn⟩
theorem kind4_ev {r:RV} {n0:Nat} {s0:aA} {dn:Bool} {l:List OD} (hl:oks l) (hG:nJ s0.gh) (hP:gS n0 s0.mem) {i:Nat} (hi:i<l.length) {s:aA} {k:Ex->aA->Option RV} (h:P6 n0 s0 dn l i s) (wc:(HA l (i:Int)).kind=4) (hk:∀ n8 s',jN n0 s0 dn l i n8 s'->tE.run (BI kA tA) (aN kA tA) s' k=some r):tC.run (BI kA tA) (aN kA tA) s k=some r:=by
 obtain ⟨e1,m1,e2,m2,e4,e5,e6,m5,⟨cm,cg,co,cn,cl⟩,lowE,lt⟩:=h;have ac:=HH (dn:=dn) hl (z:=(i:Int)) (by omega) (by omega);have g:l[i]?=some l[i]:=y4 hi;have gm:(l.map AD)[i]?=some (AD (HA l (i:Int))):=by simp [HA,g]
 have db:UC l (i:Int)=4:=by rw [<- wc]; simp [UC,HA,g]
 have wa:IB l (i:Int)={ gA.of 4 (gK i) with opn:=decide ((HA l (i:Int)).b % 2=1),sn:=false,syms:=xI (HA l (i:Int)).a }:=by simp only [IB,wc]
 have hx:=eH hl hi;have hN5:=hl.2.1;rw [db] at ac;generalize HA l (i:Int)=x at *
 have sb:=UD 4;have wh:=ids7_ev x hx;obtain ⟨xk,xa,xb,xc,_⟩:=ZN x hx;have jr:x.b.tmod 2=x.b % 2:=yu xb.1;simp only [sA,kJ,AD] at ac gm wh;obtain ⟨z,hz⟩:∃ z:Int,z=i:=⟨_,rfl⟩;have bc:0<=z:=by omega
 have mw:IntKind.i64.wrap (65 + z)=65 + z:=IntWalk.i64_in _ (by omega);have bo:IntKind.i32.wrap (65 + z)=65 + z:=eY _ (by omega);rw [<- hz] at e6 ac;rw [show i=z.toNat from by omega] at gm;simp [tC,-V,-y3,-y0,J,e1,m1,e4,e6,bc,gm,ac,sb,wh,jr,mw,bo];refine esyms_ev (a:=x.a) (n8:=s.next + 1) (nm:=Utf8.encode (65 + z)) (op:=decide (x.b % 2=1)) _ _ ?_ ?_ ?_ ?_ ?_ ?_ ?_ ?_ (fun s' h1 h2 h3 h4 h5 h6 h7 h8=>?_)
 ·simp
 ·simp
 ·simp
 ·dsimp only; omega
 ·simp [XJ]
 ·show nJ s.gh;rw [cg]; exact hG
 ·exact ((((((cl.mono (by dsimp only; omega)).set fA).set fA).set fA).set fA).set fA).set fA
 ·dsimp only
  repeat (first | exact lowE.mono (by omega) | refine wB.put ?_ (fun _ _ _=>rfl) | refine wB.put ?_ (LC (by omega)))
 ·obtain ⟨an,h8⟩:=h8;simp [-V,-y3,-y0,J];have mb:∀ t n r,¬ t=8->¬ t=7->s.mem t n=some r->(∀ x∈r,eN x)->s'.mem t n=some r:=fun t n r t8 t7 hr hp=>by
   refine (h2 t n (by omega) fun r' gg=>?_).trans ?_
   ·simp [t7,t8,hr] at gg;subst gg;exact hp
   ·simp [t7,t8,hr]
  refine hk (s.next + 1) s' ⟨⟨(h1 1 (by omega)).trans (by simp [e1]),mb 1 n0 _ (by omega) (by omega) m1 (by simpa using rN _),(h1 2 (by omega)).trans (by simp [e2]),?_,(h1 4 (by omega)).trans (by simp [e4]),(h1 5 (by omega)).trans (by simp [e5]),(h1 6 (by omega)).trans (by simp [e6,hz]),?_,⟨?_,?_,?_,?_,h6⟩,h7,?_⟩,(h1 8 (by omega)).trans (by simp),?_,?_⟩
  ·obtain ⟨a,m2,p2⟩:=m2;exact ⟨a,mb 2 n0 _ (by omega) (by omega) m2 (by simpa using p2),p2⟩
  ·exact m5.stay (fun t n r ht=>mb t n r (by omega) (by omega)) (by dsimp only at h5; omega)
  ·intro t n hn;refine (h2 t n (by omega) fun r' gg=>?_).trans ?_
   ·simp [show ¬ n=s.next from by omega,show ¬ n=s.next + 1 from by omega,cm t n hn] at gg;exact hP t n r' hn gg
   ·simp [show ¬ n=s.next from by omega,show ¬ n=s.next + 1 from by omega,cm t n hn]
  ·rw [h3]; exact cg
  ·rw [h4]; exact co
  ·dsimp only at h5; omega
  ·dsimp only at h5; omega
  ·dsimp only at h5; omega
  ·refine ⟨.sl true [],_,h8,?_,.inl ⟨?_,rfl⟩⟩
   ·rw [wa,hz]; simp [JF,gA.of,XJ,gK]
   ·rw [wa]; rfl
end
section
set_option maxHeartbeats 4000000
theorem wB.wait {m nt:Nat} {e g:Nat->rA} (h:wB m e) (h':wB m g):wB m (E4 nt e g):=fun t=>by
 rw [fD];split
 ·exact h t
 ·exact h' _
theorem wB.back {m nt:Nat} {g:Nat->rA} (h:wB m g):wB m (backE nt g):=fun t=>by
 rw [NN];split
 ·exact h t
 ·exact fun _ _ _=>rfl
theorem X3 (nt:Nat) (e g:Nat->rA):sW nt (E4 nt e g)=g:=funext fun t=>by
 rw [xZ,fD,if_neg (by omega)];congr 1;omega
theorem WC.trans {m m':Nat} {A B C:Nat->Nat->Option (List rA)} (h:WC m A B) (h':WC m' B C) (hm:m<=m'):WC m A C:=fun t n hn=>(h' t n (by omega)).trans (h t n hn)
theorem bJ.lowV {ms:List bB} {c:AV} {s:aA} (h:bJ ms c s):lowV s.next c:=lowV_of h.low (by
 rcases h with ⟨_,rfl⟩ | ⟨N,_,_,rfl,_⟩ <;> rfl)
section
variable {r:RV} {n0:Nat} {s0:aA} {dn:Bool} {l:List OD} (hl:oks l) (hG:wB n0 s0.gh) {i:Nat} (hi:i<l.length) {s:aA} {k:Ex->aA->Option RV} (h:P6 n0 s0 dn l i s)
include r n0 s0 dn l hl hG i hi s k h
theorem kind5_ev (wc:(HA l (i:Int)).kind=5) (hk:∀ n8 s',jN n0 s0 dn l i n8 s'->tE.run (BI kA tA) (aN kA tA) s' k=some r):tC.run (BI kA tA) (aN kA tA) s k=some r:=by
 obtain ⟨e1,m1,e2,m2,e4,e5,e6,m5,⟨cm,cg,co,cn,cl⟩,lowE,lt⟩:=h;have ac:=HH (dn:=dn) hl (z:=(i:Int)) (by omega) (by omega);have g:l[i]?=some l[i]:=y4 hi;have gm:(l.map AD)[i]?=some (AD (HA l (i:Int))):=by simp [HA,g]
 have gx:l[((i:Int)).toNat]?=some (HA l (i:Int)):=by simp [HA,g]
 have db:UC l (i:Int)=5:=by rw [<- wc]; simp [UC,HA,g]
 have wa:IB l (i:Int)={ gA.of 5 (gK (i:Int)) with mn:=(uF l (i:Int) true (HA l (i:Int)).parts).isEmpty,mems:=(uF l (i:Int) true (HA l (i:Int)).parts) }:=by simp only [IB,wc]
 have hx:=eH hl hi;have hN5:=hl.2.1;rw [db] at ac;generalize HA l (i:Int)=x at *
 have sb:=UD 5;obtain ⟨xk,xa,xb,xc,_⟩:=ZN x hx;have jr:x.b.tmod 2=x.b % 2:=yu xb.1;simp only [sA,kJ,AD] at ac gm;obtain ⟨z,hz⟩:∃ z:Int,z=i:=⟨_,rfl⟩;have bc:0<=z:=by omega
 have tt:z<l.length:=by omega
 have mw:IntKind.i64.wrap (65 + z)=65 + z:=IntWalk.i64_in _ (by omega);have bo:IntKind.i32.wrap (65 + z)=65 + z:=eY _ (by omega);rw [<- hz] at e6 ac gx wa;rw [show i=z.toNat from by omega] at gm;simp [tC,-V,-y3,-y0,J,e1,m1,e4,e6,bc,gm,ac,sb,mw,bo,jr];refine J8 hl bc tt gx _ ?_ ?_ _ (fun y s' hc hli=>?_)
 ·exact (((((cl.mono (by dsimp only; omega)).set fA).set fA).set fA).set fA).set fA
 ·dsimp only;refine wB.wait ?_ (by rw [cg]; exact hG.mono (by omega))
  repeat (first | exact lowE.mono (by omega) | refine wB.put ?_ (fun _ _ _=>rfl) | refine wB.put ?_ (LC (by omega)))
 ·obtain ⟨rl,fk,co2,cn2,cl2⟩:=hc;dsimp only at fk co2 cn2 rl;have rt:=hli.mems;have ft:=rt.lowV;have g1:(s'.gh 1).v=.ptr 1 n0 0:=by rw [fk]; simp [fD,e1]
  have g2:(s'.gh 2).v=.ptr 2 n0 0:=by rw [fk]; simp [fD,e2]
  have g4:(s'.gh 4).v=.int .i64 l.length:=by rw [fk]; simp [fD,e4]
  have g5:(s'.gh 5).v=.ptr 5 (n0 + 3) 0:=by rw [fk]; simp [fD,e5]
  have g6:(s'.gh 6).v=.int .i64 z:=by rw [fk]; simp [fD,e6]
  have g8:(s'.gh 8).v=.ptr 8 (s.next + 1) 0:=by rw [fk]; simp [fD]
  have m8:s'.mem 8 (s.next + 1)=some [⟨.int .i64 5,.no⟩,⟨.str (Utf8.encode (65 + z)),.no⟩,⟨.int .i64 0,.no⟩,⟨.int .i64 0,.no⟩,⟨.int .i64 0,.no⟩,⟨.sl true [],.no⟩,⟨.sl true [],.no⟩,⟨.int .i64 0,.no⟩,⟨.int .i64 0,.no⟩,⟨.bool false,.no⟩]:=by rw [rl 8 (s.next + 1) (by omega)]; simp
  have hgl:wB s'.next s'.gh:=by
   rw [fk];refine wB.wait ?_ (by rw [cg]; exact hG.mono (by omega))
   repeat (first | exact lowE.mono (by omega) | refine wB.put ?_ (fun _ _ _=>rfl) | refine wB.put ?_ (LC (by omega)))
  have fin:∀ (E:Nat->rA) (M:Nat->Nat->Option (List rA)) (row:List rA) (nx:Nat),(∀ t,t<9->(E t).v=(s'.gh t).v)->wB s'.next E->s'.next<nx->(∀ t n,M t n=if t=8/\n=s.next + 1 then some row else s'.mem t n)->(∀ q∈row,lowV s'.next q.v)->(∃ m,row.map (·.v)=JF (IB l z) m/\bJ (IB l z).mems m s')->jN n0 s0 dn l i (s.next + 1) ⟨E,M,nx,s'.obj,sW 171 s'.gh⟩:=fun E M row nx hE hEl hnx hM hrl hr=>by
   refine ⟨⟨?_,?_,?_,?_,?_,?_,?_,?_,⟨?_,?_,?_,?_,?_⟩,?_,?_⟩,?_,?_,?_⟩
   ·exact (hE 1 (by omega)).trans g1
   ·simp [hM,rl 1 n0 (by omega),m1]
   ·exact (hE 2 (by omega)).trans g2
   ·simpa [hM,rl 2 n0 (by omega)] using m2
   ·exact (hE 4 (by omega)).trans g4
   ·exact (hE 5 (by omega)).trans g5
   ·exact (hE 6 (by omega)).trans (by rw [g6,hz])
   ·refine m5.keep (by simp [hM,rl 5 (n0 + 3) (by omega)]) (fun N hN=>by simp [hM,rl 168 N (by omega)]) (fun N hN=>by simp [hM,rl 88 N (by omega)]) (by dsimp only; omega)
   ·intro t n hn;show M t n=_;rw [hM,if_neg (by omega),rl t n (by omega)];simp [show ¬ n=s.next from by omega,show ¬ n=s.next + 1 from by omega,cm t n hn]
   ·show sW 171 s'.gh=s0.gh;rw [fk,X3];exact cg
   ·exact co2.trans co
   ·dsimp only; omega
   ·intro t n r' gg q hq;have gg:M t n=some r':=gg;rw [hM] at gg;split at gg
    ·injection gg with gg; subst gg;exact iJ (by dsimp only; omega) (hrl q hq)
    ·exact iJ (by dsimp only; omega) (cl2 t n r' gg q hq)
   ·exact hEl.mono (by dsimp only; omega)
   ·dsimp only; omega
   ·exact (hE 8 (by omega)).trans g8
   ·dsimp only; omega
   ·obtain ⟨m,eg,wi⟩:=hr;rw [<- hz];refine ⟨m,row,by show M 8 _=_; rw [hM,if_pos ⟨rfl,rfl⟩],eg,wi.keep (fun N hN=>?_) (by dsimp only; omega)⟩;show M 88 N=_;rw [hM,if_neg (by omega)]
  rcases rt with ⟨_,e⟩ | ⟨N,_,_,e,_⟩
  ·simp [-V,-y3,-y0,J,g8,m8,e];refine hk _ _ (fin _ _ _ _ (fun t ht=>?_) ?_ (by omega) (fun t n=>by simp [iB]; rfl) (fun q hq=>?_) ?_)
   ·have q:∀ c,9<=c->¬ t=c:=fun c hc=>by omega
    simp [q,NN,show t<171 from by omega]
   ·repeat (first | exact hgl.back | refine wB.put ?_ (fun _ _ _=>rfl) | refine wB.put ?_ (LC (by omega)) | refine wB.put ?_ ft | refine wB.put ?_ (by rw [<- e]; exact ft))
   ·simp only [yc,yH,or_false] at hq;rcases hq with rfl | rfl | rfl | rfl | rfl | rfl | rfl | rfl | rfl | rfl <;> first | exact pO rfl | (rw [<- e]; exact ft)
   ·exact ⟨y.v,by rw [wa,e]; simp [JF,gA.of,gK],by rw [wa]; exact hli.mems⟩
  ·simp [-V,-y3,-y0,J,g8,m8,e];refine hk _ _ (fin _ _ _ _ (fun t ht=>?_) ?_ (by omega) (fun t n=>by simp [iB]; rfl) (fun q hq=>?_) ?_)
   ·have q:∀ c,9<=c->¬ t=c:=fun c hc=>by omega
    simp [q,NN,show t<171 from by omega]
   ·repeat (first | exact hgl.back | refine wB.put ?_ (fun _ _ _=>rfl) | refine wB.put ?_ (LC (by omega)) | refine wB.put ?_ ft | refine wB.put ?_ (by rw [<- e]; exact ft))
   ·simp only [yc,yH,or_false] at hq;rcases hq with rfl | rfl | rfl | rfl | rfl | rfl | rfl | rfl | rfl | rfl <;> first | exact pO rfl | (rw [<- e]; exact ft)
   ·exact ⟨y.v,by rw [wa,e]; simp [JF,gA.of,gK],by rw [wa]; exact hli.mems⟩
theorem kind6_ev (wc:(HA l (i:Int)).kind=6) (hk:∀ n8 s',jN n0 s0 dn l i n8 s'->tE.run (BI kA tA) (aN kA tA) s' k=some r):tC.run (BI kA tA) (aN kA tA) s k=some r:=by
 obtain ⟨e1,m1,e2,m2,e4,e5,e6,m5,⟨cm,cg,co,cn,cl⟩,lowE,lt⟩:=h;have ac:=HH (dn:=dn) hl (z:=(i:Int)) (by omega) (by omega);have g:l[i]?=some l[i]:=y4 hi;have gm:(l.map AD)[i]?=some (AD (HA l (i:Int))):=by simp [HA,g]
 have gx:l[((i:Int)).toNat]?=some (HA l (i:Int)):=by simp [HA,g]
 have db:UC l (i:Int)=6:=by rw [<- wc]; simp [UC,HA,g]
 have wa:IB l (i:Int)=if (uF l (i:Int) false (HA l (i:Int)).parts).isEmpty=true then .of 5 (gK (i:Int)) else { gA.of 6 (gK (i:Int)) with opn:=decide ((HA l (i:Int)).b % 2=1),mn:=false,mems:=(uF l (i:Int) false (HA l (i:Int)).parts) }:=by simp only [IB,wc]
 have hx:=eH hl hi;have hN5:=hl.2.1;rw [db] at ac;generalize HA l (i:Int)=x at *
 have sb:=UD 6;obtain ⟨xk,xa,xb,xc,_⟩:=ZN x hx;have jr:x.b.tmod 2=x.b % 2:=yu xb.1;simp only [sA,kJ,AD] at ac gm;obtain ⟨z,hz⟩:∃ z:Int,z=i:=⟨_,rfl⟩;have bc:0<=z:=by omega
 have tt:z<l.length:=by omega
 have mw:IntKind.i64.wrap (65 + z)=65 + z:=IntWalk.i64_in _ (by omega);have bo:IntKind.i32.wrap (65 + z)=65 + z:=eY _ (by omega);rw [<- hz] at e6 ac gx wa;rw [show i=z.toNat from by omega] at gm;simp [tC,-V,-y3,-y0,J,e1,m1,e4,e6,bc,gm,ac,sb,mw,bo,jr];refine J8 hl bc tt gx _ ?_ ?_ _ (fun y s' hc hli=>?_)
 ·exact ((((((cl.mono (by dsimp only; omega)).set fA).set fA).set fA).set fA).set fA).set fA
 ·dsimp only;refine wB.wait ?_ (by rw [cg]; exact hG.mono (by omega))
  repeat (first | exact lowE.mono (by omega) | refine wB.put ?_ (fun _ _ _=>rfl) | refine wB.put ?_ (LC (by omega)))
 ·obtain ⟨rl,fk,co2,cn2,cl2⟩:=hc;dsimp only at fk co2 cn2 rl;have rt:=hli.mems;have ft:=rt.lowV;have g1:(s'.gh 1).v=.ptr 1 n0 0:=by rw [fk]; simp [fD,e1]
  have g2:(s'.gh 2).v=.ptr 2 n0 0:=by rw [fk]; simp [fD,e2]
  have g4:(s'.gh 4).v=.int .i64 l.length:=by rw [fk]; simp [fD,e4]
  have g5:(s'.gh 5).v=.ptr 5 (n0 + 3) 0:=by rw [fk]; simp [fD,e5]
  have g6:(s'.gh 6).v=.int .i64 z:=by rw [fk]; simp [fD,e6]
  have g8:(s'.gh 8).v=.ptr 8 (s.next + 1) 0:=by rw [fk]; simp [fD]
  have m8:s'.mem 8 (s.next + 1)=some [⟨.int .i64 6,.no⟩,⟨.str (Utf8.encode (65 + z)),.no⟩,⟨.int .i64 0,.no⟩,⟨.int .i64 0,.no⟩,⟨.int .i64 0,.no⟩,⟨.sl true [],.no⟩,⟨.sl true [],.no⟩,⟨.int .i64 0,.no⟩,⟨.int .i64 0,.no⟩,⟨.bool (decide (x.b % 2=1)),.no⟩]:=by rw [rl 8 (s.next + 1) (by omega)]; simp
  have hgl:wB s'.next s'.gh:=by
   rw [fk];refine wB.wait ?_ (by rw [cg]; exact hG.mono (by omega))
   repeat (first | exact lowE.mono (by omega) | refine wB.put ?_ (fun _ _ _=>rfl) | refine wB.put ?_ (LC (by omega)))
  have fin:∀ (E:Nat->rA) (M:Nat->Nat->Option (List rA)) (row:List rA) (nx:Nat),(∀ t,t<9->(E t).v=(s'.gh t).v)->wB s'.next E->s'.next<nx->(∀ t n,M t n=if t=8/\n=s.next + 1 then some row else s'.mem t n)->(∀ q∈row,lowV s'.next q.v)->(∃ m,row.map (·.v)=JF (IB l z) m/\bJ (IB l z).mems m s')->jN n0 s0 dn l i (s.next + 1) ⟨E,M,nx,s'.obj,sW 171 s'.gh⟩:=fun E M row nx hE hEl hnx hM hrl hr=>by
   refine ⟨⟨?_,?_,?_,?_,?_,?_,?_,?_,⟨?_,?_,?_,?_,?_⟩,?_,?_⟩,?_,?_,?_⟩
   ·exact (hE 1 (by omega)).trans g1
   ·simp [hM,rl 1 n0 (by omega),m1]
   ·exact (hE 2 (by omega)).trans g2
   ·simpa [hM,rl 2 n0 (by omega)] using m2
   ·exact (hE 4 (by omega)).trans g4
   ·exact (hE 5 (by omega)).trans g5
   ·exact (hE 6 (by omega)).trans (by rw [g6,hz])
   ·refine m5.keep (by simp [hM,rl 5 (n0 + 3) (by omega)]) (fun N hN=>by simp [hM,rl 168 N (by omega)]) (fun N hN=>by simp [hM,rl 88 N (by omega)]) (by dsimp only; omega)
   ·intro t n hn;show M t n=_;rw [hM,if_neg (by omega),rl t n (by omega)];simp [show ¬ n=s.next from by omega,show ¬ n=s.next + 1 from by omega,cm t n hn]
   ·show sW 171 s'.gh=s0.gh;rw [fk,X3];exact cg
   ·exact co2.trans co
   ·dsimp only; omega
   ·intro t n r' gg q hq;have gg:M t n=some r':=gg;rw [hM] at gg;split at gg
    ·injection gg with gg; subst gg;exact iJ (by dsimp only; omega) (hrl q hq)
    ·exact iJ (by dsimp only; omega) (cl2 t n r' gg q hq)
   ·exact hEl.mono (by dsimp only; omega)
   ·dsimp only; omega
   ·exact (hE 8 (by omega)).trans g8
   ·dsimp only; omega
   ·obtain ⟨m,eg,wi⟩:=hr;rw [<- hz];refine ⟨m,row,by show M 8 _=_; rw [hM,if_pos ⟨rfl,rfl⟩],eg,wi.keep (fun N hN=>?_) (by dsimp only; omega)⟩;show M 88 N=_;rw [hM,if_neg (by omega)]
  rcases rt with ⟨h0,e⟩ | ⟨N,h0,_,e,_⟩
  ·simp [-V,-y3,-y0,J,g8,m8,e];refine hk _ _ (fin _ _ _ _ (fun t ht=>?_) ?_ (by omega) (fun t n=>by simp [iB]; split <;> rfl) (fun q hq=>?_) ?_)
   ·have q:∀ c,9<=c->¬ t=c:=fun c hc=>by omega
    simp [q,NN,show t<171 from by omega]
   ·repeat (first | exact hgl.back | refine wB.put ?_ (fun _ _ _=>rfl) | refine wB.put ?_ (LC (by omega)) | refine wB.put ?_ ft | refine wB.put ?_ (by rw [<- e]; exact ft))
   ·simp only [yc,yH,or_false] at hq;rcases hq with rfl | rfl | rfl | rfl | rfl | rfl | rfl | rfl | rfl | rfl <;> first | exact pO rfl | (rw [<- e]; exact ft)
   ·refine ⟨.sl true [],?_,.inl ⟨?_,rfl⟩⟩
    ·rw [wa,if_pos (by simp [h0])]; simp [JF,gA.of,gK]
    ·rw [wa,if_pos (by simp [h0])]; rfl
  ·have xf:¬ ((uF l z false x.parts).length:Int)=0:=by
    have:=List.length_pos_iff.2 h0;omega
   simp [-V,-y3,-y0,J,g8,m8,e,xf,h0];refine hk _ _ (fin _ _ _ _ (fun t ht=>?_) ?_ (by omega) (fun t n=>by simp [iB]; rfl) (fun q hq=>?_) ?_)
   ·have q:∀ c,9<=c->¬ t=c:=fun c hc=>by omega
    simp [q,NN,show t<171 from by omega]
   ·repeat (first | exact hgl.back | refine wB.put ?_ (fun _ _ _=>rfl) | refine wB.put ?_ (LC (by omega)) | refine wB.put ?_ ft | refine wB.put ?_ (by rw [<- e]; exact ft))
   ·simp only [yc,yH,or_false] at hq;rcases hq with rfl | rfl | rfl | rfl | rfl | rfl | rfl | rfl | rfl | rfl <;> first | exact pO rfl | (rw [<- e]; exact ft)
   ·exact ⟨y.v,by rw [wa,if_neg (by simpa using h0),e]; simp [JF,gA.of,gK],by rw [wa,if_neg (by simpa using h0)]; exact hli.mems⟩
end
end
section
set_option maxHeartbeats 4000000
structure OfJ (n0:Nat) (s0:aA) (dn:Bool) (l:List OD) (i j:Nat) (s:aA):Prop where
 e1:(s.env 1).v=.ptr 1 n0 0
 m1:s.mem 1 n0=some [⟨.sl dn (l.map AD),.no⟩]
 e2:(s.env 2).v=.ptr 2 n0 0
 m2:∃ a,s.mem 2 n0=some [⟨.sl true [],a⟩]/\eN ⟨.sl true [],a⟩
 e4:(s.env 4).v=.int .i64 l.length
 e5:(s.env 5).v=.ptr 5 (n0 + 3) 0
 e6:(s.env 6).v=.int .i64 i
 m5:M5I n0 l j s
 calm:W6 n0 s0 s
 lowE:wB s.next s.env
 lt:n0 + 3<s.next
theorem KH {sz:Nat} {L:List (List AV)} (h:∀ c∈L,c.length=sz):GK (jA L) sz 0 L.length=some L:=by
 have ba:∀ {L:List (List AV)},(∀ c∈L,c.length=sz)->L.flatten.length=L.length * sz:=by
  intro L h
  induction L with
  | nil=>simp
  | cons c r ih =>
   simp only [yC,yA,yI];rw [ih fun c hc=>h c (yh _ hc),h c yk,yt];omega
 have hv:∀ l:List AV,(l.map fun v=>(⟨v,An.no⟩:rA)).map (·.v)=l:=fun l=>by simp [Function.comp_def]
 unfold GK;rw [if_pos (by rw [jA,yn,ba h]; omega)];congr 1;refine List.ext_getElem (by simp) fun i h1 h2=>?_
 simp only [List.getElem_map,List.getElem_range,yD];simp only [jA];rw [<- List.map_drop,<- List.map_take,hv]
 induction L generalizing i with
 | nil=>simp at h2
 | cons c r ih =>
  have hc:=h c yk;cases i with
  | zero=>simp [<- hc]
  | succ i =>
   simp only [yC,List.getElem_cons_succ];rw [yt,Nat.add_comm,<- hc,<- List.drop_drop];rw [List.drop_left,hc];exact ih (fun c hc=>h c (yh _ hc)) i (by simpa using h2) (by simpa using h2)
theorem bJ.stay2 {ms:List bB} {c:AV} {s s':aA} (h:bJ ms c s) (hm:∀ n L,ZD L=true->s.mem 88 n=some (jA L)->s'.mem 88 n=some (jA L)) (hn:s.next<=s'.next):bJ ms c s':=by
 rcases h with h | ⟨N,h1,h2,h3,h4⟩
 ·exact .inl h
 ·exact .inr ⟨N,h1,yW h2 hn,h3,hm N _ (U3 _) h4⟩
theorem mJ.stay2 {S:List gA} {L:List (List AV)} {s s':aA} (h:mJ S L s) (hm:∀ n L,ZD L=true->s.mem 88 n=some (jA L)->s'.mem 88 n=some (jA L)) (hn:s.next<=s'.next):mJ S L s' :=
 ⟨h.1,fun i t c ht hc=>by obtain ⟨m,h1,h2⟩:=h.2 i t c ht hc; exact ⟨m,h1,h2.stay2 hm hn⟩⟩
theorem tail_ev {r:RV} {n0:Nat} {s0:aA} {dn:Bool} {l:List OD} (hl:oks l) (hM0:fL n0 s0.mem) (hG:wB n0 s0.gh) {i:Nat} (hi:i<l.length) {n8:Nat} {s:aA} {k:Ex->aA->Option RV} (h:jN n0 s0 dn l i n8 s) (hk:∀ s',OfJ n0 s0 dn l i (i + 1) s'->k .nrm s'=some r):tE.run (BI kA tA) (aN kA tA) s k=some r:=by
 obtain ⟨⟨e1,m1,e2,m2,e4,e5,e6,m5,⟨cm,cg,co,cn,cl⟩,lowE,lt⟩,e8,lt8,m,row,m8,ka,rt⟩:=h;have hN5:=hl.2.1;generalize hT:IB l (i:Int)=T at *
 have ui:=rt;have ba:row.length=10:=by have:=congrArg List.length ka; simpa [JF] using this
 have od:SA true 10 0 row=some ⟨.agg (JF T m),.no⟩:=by
  unfold SA;simp [ba,<- ka];rw [yv (by rw [yn]; omega)]
 have hCl:(JF T m).length=10:=rfl;have hmf:∀ t n,t≠88->m.noName t n=true:=fun t n ht=>by
  rcases rt with ⟨_,rfl⟩ | ⟨N,_,_,rfl,_⟩
  ·rfl
  ·simp [AV.noName];omega
 have hmw:m.leaf=true:=by
  rcases rt with ⟨_,rfl⟩ | ⟨N,_,_,rfl,_⟩ <;> rfl
 have rz:∀ t n,t≠88->(JF T m).all (AV.noName t n)=true:=fun t n ht=>by
  refine y6.2 fun c hc=>?_
  simp only [JF,yc,yH,or_false] at hc;rcases hc with rfl | rfl | rfl | rfl | rfl | rfl | rfl | rfl | rfl | rfl <;> first | exact hmf t n ht | rfl
 have rq:∀ c∈JF T m,s8 s.next c:=fun c hc=>by
  simp only [JF,yc,yH,or_false] at hc;rcases hc with rfl | rfl | rfl | rfl | rfl | rfl | rfl | rfl | rfl | rfl <;> first | exact ui.low | exact mM rfl
 have tu:∀ c∈JF T m,c.leaf=true:=fun c hc=>by
  simp only [JF,yc,yH,or_false] at hc;rcases hc with rfl | rfl | rfl | rfl | rfl | rfl | rfl | rfl | rfl | rfl <;> first | exact hmw | rfl
 have ja:PB 120 (i + 1)=true:=by rw [CA]; omega
 have ri:(AV.agg (JF T m)).whole=true:=rfl;rcases m5 with ⟨fg,a,h5,hp5⟩ | ⟨N,L,fg,h5,ir,hN,ej,hLl,wa⟩
 ·subst fg;have helC:kB 10 [JF T m]=true:=rfl;have hraw:GK (jA [JF T m]) 10 0 1=some [JF T m]:=KH (L:=[JF T m]) (by simp [hCl]);generalize hC:JF T m=C at *
  have hC2:C.length=10:=hCl;simp [tE,-V,-y3,-y0,J,-SA,-xA,RA,OA,lA,zA,e5,e8,h5,m8,od,AV.raws,hraw,ja,helC,hC2];have pm:∀ x∈jA [C],lowV s.next x.v:=b5 (fun c hc=>by simp only [yL] at hc; subst hc; exact rq) (fun c hc=>by simp only [yL] at hc; subst hc; exact tu);refine hk _ ⟨?_,?_,?_,?_,?_,?_,?_,.inr ⟨s.next,[C],by omega,by simp,by omega,by dsimp only; omega,by simp,rfl,?_⟩,⟨?_,?_,?_,?_,?_⟩,?_,?_⟩
  ·simp [e1]
  ·simp [m1]
  ·simp [e2]
  ·simpa using m2
  ·simp [e4]
  ·simp [e5]
  ·simp [e6]
  ·refine ⟨rfl,fun j t c ht hc=>?_⟩;have hj:j=0:=by
    rcases yG j with h0 | h0
    ·exact h0
    ·rw [yZ (by simp; omega)] at hc; cases hc
   subst hj;simp at ht hc;subst ht;subst hc;rw [show IB l (0:Int)=T from hT];exact ⟨m,hC.symm,rt.keep (fun N hN=>by simp) (by dsimp only; omega)⟩
  ·repeat (first | exact cm | refine WC.set ?_ (by omega))
  ·exact cg
  ·exact co
  ·dsimp only; omega
  ·exact ((((cl.set pm).set pm).mono (Nat.le_succ _)).set fun x hx=>by simp at hx; subst hx; exact tQ (by omega))
  ·dsimp only;have hag:lowV s.next (.agg C):=rQ rq
   repeat (first | exact lowE.mono (by omega) | refine wB.put ?_ (fun _ _ _=>rfl) | refine wB.put ?_ (LC (by omega)) | refine wB.put ?_ (tQ (by omega)) | refine wB.put ?_ (iJ (by omega) hag))
  ·dsimp only; omega
 ·have ed:∀ c∈L,c.length=10:=fun c hc=>by simpa using y6.1 wa.els c hc
  have helC:kB 10 [JF T m]=true:=rfl;have hraw:GK (jA [JF T m]) 10 0 1=some [JF T m]:=KH (L:=[JF T m]) (by simp [hCl]);have hraw2:GK (jA L) 10 0 i=some L:=by rw [<- hLl]; exact KH ed
  have hnn2:(L++[JF T m]).flatten.all (AV.noName 168 N)=true:=by
   rw [List.flatten_append,List.all_append,y7];refine ⟨y6.2 fun v hv=>?_,by simpa using rz 168 N (by omega)⟩;obtain ⟨c,hc,hv⟩:=List.mem_flatten.1 hv;obtain ⟨j,hj,rfl⟩:=yy hc;have hjS:j<((List.range i).map fun (j:Nat)=>IB l (j:Int)).length:=by rw [wa.1]; exact hj
   obtain ⟨m',h1,h2⟩:=wa.2 j _ _ (y4 hjS) (y4 hj);rw [h1] at hv;simp only [JF,yc,yH,or_false] at hv;rcases hv with rfl | rfl | rfl | rfl | rfl | rfl | rfl | rfl | rfl | rfl <;> first | rfl | skip
   rcases h2 with ⟨_,rfl⟩ | ⟨N',_,_,rfl,_⟩ <;> rfl
  generalize hC:JF T m=C at *
  have hC2:C.length=10:=hCl;simp [tE,-V,-y3,-y0,J,-SA,-xA,RA,OA,lA,zA,e5,e8,h5,m8,od,AV.raws,hraw,hraw2,ej,ja,helC,hC2,hnn2,-y6,-List.flatten_append,-List.all_flatten,-List.all_append];have hgh:gY 168 N s.gh=s.gh:=by rw [cg]; exact hG.same ir
  have mb:∀ (s':aA),s'.mem=N5 (N5 (Z7 168 N (N5 s.mem 167 s.next (jA [C]))) 168 s.next (jA (L++[C]))) 5 (n0 + 3) [⟨.ref 168 s.next 10 0 (i + 1) (i + 1),.no⟩]->∀ n L,ZD L=true->s.mem 88 n=some (jA L)->s'.mem 88 n=some (jA L):=fun s' mg n L' hL' h'=>by
   rw [mg];simp [h',rowOf_kill hL']
  have pm:∀ x∈jA [C],lowV s.next x.v:=b5 (fun c hc=>by simp only [yL] at hc; subst hc; exact rq) (fun c hc=>by simp only [yL] at hc; subst hc; exact tu);have hlowR2:∀ x∈jA (L++[C]),lowV s.next x.v:=fun x hx=>by
   rw [jA,List.flatten_append,List.map_append] at hx;rcases yE.1 hx with hx | hx
   ·exact cl 168 N _ ej x hx
   ·exact pm x hx
  refine hk _ ⟨?_,?_,?_,?_,?_,?_,?_,.inr ⟨s.next,L++[C],by omega,by simp,by omega,by dsimp only; omega,by simp,by simp [hLl],?_⟩,⟨?_,?_,?_,?_,?_⟩,?_,?_⟩
  ·simp [uB,e1,AV.kill,AV.kill0]
  ·simp [lB,m1,AV.kill,AV.kill0]
  ·simp [uB,e2,AV.kill,AV.kill0]
  ·obtain ⟨a,m2,p2⟩:=m2;exact ⟨a,by simp [lB,m2,AV.kill,AV.kill0],p2⟩
  ·simp [uB,e4,AV.kill,AV.kill0]
  ·simp [uB,e5,AV.kill,AV.kill0]
  ·simp [uB,e6,AV.kill,AV.kill0]
  ·rw [J,List.map_append,yl,yo,hT];subst hC;exact (wa.stay2 (mb _ rfl) (by dsimp only; omega)).snoc (rt.stay2 (mb _ rfl) (by dsimp only; omega))
  ·exact (((cm.set (by omega)).kill hM0 ir).set (by omega)).set (by omega)
  ·show gY 168 N s.gh=s0.gh;rw [hgh];exact cg
  ·exact co
  ·dsimp only; omega
  ·exact ((((cl.set pm).kill.set hlowR2).mono (Nat.le_succ _)).set fun x hx=>by simp at hx; subst hx; exact tQ (by omega))
  ·dsimp only;have hag:lowV s.next (.agg C):=rQ rq;have hN':N<s.next + 1:=by omega
   repeat (first | exact lowE.mono (by omega) | refine wB.kill ?_ | refine wB.put ?_ (fun _ _ _=>rfl) | refine wB.put ?_ (LC (by omega)) | refine wB.put ?_ (tQ (by omega)) | refine wB.put ?_ (iJ (by omega) hag))
  ·dsimp only; omega
end
section
set_option maxHeartbeats 4000000
theorem head_ev {r:RV} {n0:Nat} {s0:aA} {dn:Bool} {l:List OD} (hl:oks l) (hM:fL n0 s0.mem) (hP:gS n0 s0.mem) (hG:wB n0 s0.gh) (hG':nJ s0.gh) {i:Nat} (hi:i<l.length) {s:aA} {k:Ex->aA->Option RV} (h:P6 n0 s0 dn l i s) (hk:∀ s',OfJ n0 s0 dn l i (i + 1) s'->k .nrm s'=some r):tC.run (BI kA tA) (aN kA tA) s k=some r:=by
 have ht:∀ n8 s',jN n0 s0 dn l i n8 s'->tE.run (BI kA tA) (aN kA tA) s' k=some r:=fun n8 s' h'=>tail_ev hl hM hG hi h' hk
 have hx:=eH hl hi;have hr:1<=(HA l (i:Int)).kind/\(HA l (i:Int)).kind<=9:=by
  have:=hx.1.1;simp only [OD.kind];omega
 by_cases h1:(HA l (i:Int)).kind=1
 ·exact kind1_ev hl hi h h1 ht
 by_cases h2:(HA l (i:Int)).kind=2
 ·exact kind2_ev hl hi h h2 ht
 by_cases h3:(HA l (i:Int)).kind=3
 ·exact kind3_ev hl hi h h3 ht
 by_cases h4:(HA l (i:Int)).kind=4
 ·exact kind4_ev hl hG' hP hi h h4 ht
 by_cases h5:(HA l (i:Int)).kind=5
 ·exact kind5_ev hl hG hi h h5 ht
 by_cases h6:(HA l (i:Int)).kind=6
 ·exact kind6_ev hl hG hi h h6 ht
 by_cases h7:(HA l (i:Int)).kind=7
 ·exact kind7_ev hl hi h h7 ht
 by_cases h8:(HA l (i:Int)).kind=8
 ·by_cases hc:TK l (HA l (i:Int)).b<0
  ·exact kind8n_ev hl hi h h8 hc ht
  ·exact kind8p_ev hl hi h h8 hc ht
 ·exact kind9_ev hl hi h (by omega) ht
theorem OfJ.toI {n0:Nat} {s0:aA} {dn:Bool} {l:List OD} {i j:Nat} {s:aA} (h:OfJ n0 s0 dn l i j s) {E:Nat->rA} {nx:Nat} (hE:∀ t,t<9->¬ t=6->(E t).v=(s.env t).v) (h6:(E 6).v=.int .i64 j) (hL:wB nx E) (hn:s.next<=nx):P6 n0 s0 dn l j ⟨E,s.mem,nx,s.obj,s.gh⟩:=by
 obtain ⟨e1,m1,e2,m2,e4,e5,e6,m5,⟨cm,cg,co,cn,cl⟩,lowE,lt⟩:=h;exact ⟨(hE 1 (by omega) (by omega)).trans e1,m1,(hE 2 (by omega) (by omega)).trans e2,m2,(hE 4 (by omega) (by omega)).trans e4,(hE 5 (by omega) (by omega)).trans e5,h6,m5.keep rfl (fun _ _=>rfl) (fun _ _=>rfl) hn,⟨cm,cg,co,by dsimp only; omega,cl.mono hn⟩,hL,by dsimp only; omega⟩
theorem P6.toJ {n0:Nat} {s0:aA} {dn:Bool} {l:List OD} {i:Nat} {s:aA} (h:P6 n0 s0 dn l i s):OfJ n0 s0 dn l i i s:=⟨h.e1,h.m1,h.e2,h.m2,h.e4,h.e5,h.e6,h.m5,h.calm,h.lowE,h.lt⟩
def lF (l:List OD):List gA:=(List.range l.length).map fun (j:Nat)=>IB l (j:Int)
structure OfEnd (s0:aA) (l:List OD) (s:aA):Prop where
 calm:W6 s0.next s0 s
 e2:(s.env 2).v=.ptr 2 s0.next 0
 e3:(s.env 3).v=.bool true
 lt:s0.next<s.next
 typs:∃ N L,s.mem 2 s0.next=some [⟨.ref 168 N 10 0 l.length l.length,.no⟩]/\s0.next<=N/\N<s.next/\s.mem 168 N=some (jA L)/\L.length=l.length/\mJ (lF l) L s
theorem of_run {r:RV} {dn:Bool} {l:List OD} (hl:oks l) (s0:aA) (h0:(s0.env 0).v=.agg (kJ dn l)) (hM:fL s0.next s0.mem) (hP:gS s0.next s0.mem) (hE:wB s0.next s0.env) (hG:wB s0.next s0.gh) (hG':nJ s0.gh) (k:Ex->aA->Option RV) (hk:∀ s',OfEnd s0 l s'->k .ret s'=some r):bG.code.run (BI kA tA) (aN kA tA) s0 k=some r:=by
 have hN1:=hl.1;have hN5:=hl.2.1;have c1:¬ (l.length:Int)<1:=by omega
 have c2:¬ 5<(l.length:Int):=by omega
 simp only [kJ] at h0;simp [bG,-V,-y3,-y0,J,h0,c1,c2];refine bA l.length (fun i s=>P6 s0.next s0 dn l i s) (fun e s=>e=.exit 0/\P6 s0.next s0 dn l l.length s) (fun i hi s k' h ih tc=>?_) _ _ ?_ (fun e s h=>?_)
 ·refine uA ?_;rw [of_L2];by_cases fa:i<l.length
  ·have xh:=LA (i:=i);simp [-V,-y3,-y0,J,h.e4,h.e6,fa];refine head_ev hl hM hP hG hG' fa (h.toJ.toI (fun t ht h6=>?_) ?_ ?_ ?_) (fun s' hj=>?_)
   ·have q:∀ c,9<=c->¬ t=c:=fun c hc=>by omega
    simp [q]
   ·simp [h.e6]
   ·try dsimp only
    repeat (first | exact h.lowE.mono (by omega) | refine wB.put ?_ (fun _ _ _=>rfl))
   ·(try dsimp only); omega
   ·simp [-V,-y3,-y0,J,hj.e6,xh];refine ih fa _ (hj.toI (fun t ht h6=>?_) ?_ ?_ ?_)
    ·have q:∀ c,9<=c->¬ t=c:=fun c hc=>by omega
     simp [q,h6]
    ·simp
    ·try dsimp only
     repeat (first | exact hj.lowE.mono (by omega) | refine wB.put ?_ (fun _ _ _=>rfl))
    ·(try dsimp only); omega
  ·have ww:i=l.length:=by omega
   subst ww;simp [-V,-y3,-y0,J,h.e4,h.e6];refine tc _ _ ⟨rfl,h.toJ.toI (fun t ht h6=>?_) ?_ ?_ ?_⟩
   ·have q:∀ c,9<=c->¬ t=c:=fun c hc=>by omega
    simp [q]
   ·simp [h.e6]
   ·try dsimp only
    repeat (first | exact h.lowE.mono (by omega) | refine wB.put ?_ (fun _ _ _=>rfl))
   ·(try dsimp only); omega
 ·refine ⟨?_,?_,?_,⟨.ex,?_,dZ _⟩,?_,?_,?_,.inl ⟨rfl,.ex,?_,dZ _⟩,⟨?_,?_,?_,?_,?_⟩,?_,?_⟩
  all_goals first | (simp; done) | skip
  ·dsimp only
   repeat (first | exact WC.refl | refine WC.set ?_ (by omega))
  ·dsimp only; omega
  ·exact (((((hM.mono (by dsimp only; omega)).set fA).set fA).set fA))
  ·dsimp only
   repeat (first | exact hE.mono (by omega) | refine wB.put ?_ (fun _ _ _=>rfl) | refine wB.put ?_ (LC (by omega)))
 ·obtain ⟨rfl,h⟩:=h;obtain ⟨e1,m1,e2,⟨a2,m2,p2⟩,e4,e5,e6,m5,⟨cm,cg,co,cn,cl⟩,lowE,lt⟩:=h;rcases m5 with ⟨fg,_⟩ | ⟨N,L,fg,h5,ir,hN,ej,hLl,wa⟩
  ·omega
  simp [-V,-y3,-y0,J,e5,h5,e2,m2];refine hk _ ⟨⟨?_,?_,?_,?_,?_⟩,?_,?_,?_,N,L,?_,ir,?_,?_,hLl,?_⟩
  ·exact cm.set (yf _)
  ·exact cg
  ·exact co
  ·dsimp only; omega
  ·exact (cl.mono (Nat.le_succ _)).set fun x hx=>by simp at hx; subst hx; exact tQ (by omega)
  ·simp [e2]
  ·simp
  ·dsimp only; omega
  ·simp
  ·dsimp only; omega
  ·simp [ej]
  ·exact wa.keep (fun N _=>by simp) (by dsimp only; omega)
end
section
set_option maxHeartbeats 4000000
theorem of_bad {r:RV} {dn:Bool} {l:List OD} (hl:¬ (1<=l.length/\l.length<=5)) (s0:aA) (h0:(s0.env 0).v=.agg (kJ dn l)) (hM:fL s0.next s0.mem) (k:Ex->aA->Option RV) (hk:∀ s',W6 s0.next s0 s'->(s'.env 2).v=.ptr 2 s0.next 0->(s'.env 3).v=.bool false->s'.mem 2 s0.next=some [⟨.sl true [],.no⟩]->k .ret s'=some r):bG.code.run (BI kA tA) (aN kA tA) s0 k=some r:=by
 simp only [kJ] at h0;by_cases c1:(l.length:Int)<1
 ·have gf:l.length=0:=by omega
  have c1'':l=[]:=yF gf;subst c1'';simp [bG,-V,-y3,-y0,J,h0];refine hk _ ⟨?_,rfl,rfl,?_,?_⟩ ?_ ?_ ?_
  ·dsimp only
   repeat (first | exact WC.refl | refine WC.set ?_ (by omega))
  ·dsimp only; omega
  ·exact (((hM.mono (by dsimp only; omega)).set fA).set fA).set fA
  ·simp
  ·simp
  ·simp
 ·have c2:5<(l.length:Int):=by omega
  simp [bG,-V,-y3,-y0,J,h0,c1,c2];refine hk _ ⟨?_,rfl,rfl,?_,?_⟩ ?_ ?_ ?_
  ·dsimp only
   repeat (first | exact WC.refl | refine WC.set ?_ (by omega))
  ·dsimp only; omega
  ·exact (((hM.mono (by dsimp only; omega)).set fA).set fA).set fA
  ·simp
  ·simp
  ·simp
theorem ofH_ev {r:RV} {dn:Bool} {l:List OD} {a:An} (hx:∀ x∈l,x.ok) (s0:aA) (hM:fL s0.next s0.mem) (hP:gS s0.next s0.mem) (hG:wB s0.next s0.gh) (hG':nJ s0.gh) (k:rA->aA->Option RV)
  (hbad:¬ oks l->∀ s',W6 s0.next s0 s'->k ⟨.tup [.agg [.sl true []],.bool false],.no⟩ s'=some r)
  (sj:oks l->∀ N L s',W6 s0.next s0 s'->s0.next<=N->N<s'.next->s'.mem 168 N=some (jA L)->L.length=l.length->mJ (lF l) L s'->k ⟨.tup [.agg [.ref 168 N 10 0 l.length l.length],.bool true],.no⟩ s'=some r):evH kA tA 37 [⟨.agg (kJ dn l),a⟩] s0 k=some r:=by
 refine tO bG rfl rfl ?_;have ht:bG.res=[.cell 2 true 1,.tmp 3]:=rfl;by_cases hl:1<=l.length/\l.length<=5
 ·refine of_run ⟨hl.1,hl.2,hx⟩ (s0.initH _) rfl hM hP (fun t=>?_) hG hG' _ (fun s' h=>?_)
  ·rcases t with _ | t
   ·exact rQ (fun c hc=>by simp only [kJ,yL] at hc; subst hc; exact mM rfl)
   ·exact fun _ _ _=>rfl
  ·obtain ⟨⟨cm,cg,co,cn,cl⟩,e2,e3,lt,N,L,h2,hN,fa,ej,hL,hT⟩:=h;have oo:(s'.env 2).v=.ptr 2 s0.next 0:=e2;have ci:s'.mem 2 s0.next=some [⟨.ref 168 N 10 0 l.length l.length,.no⟩]:=h2;simp [sN,ht,tR,kO,oo,e3,ci,SA,AV.tupOk];exact sj ⟨hl.1,hl.2,hx⟩ N L s' ⟨cm,cg,co,cn,cl⟩ hN fa ej hL hT
 ·refine of_bad hl (s0.initH _) rfl hM _ (fun s' hc e2 e3 h2=>?_);have oo:(s'.env 2).v=.ptr 2 s0.next 0:=e2;have ci:s'.mem 2 s0.next=some [⟨.sl true [],.no⟩]:=h2;simp [sN,ht,tR,kO,oo,e3,ci,SA,AV.tupOk];exact hbad (fun h=>hl ⟨h.1,h.2.1⟩) s' ⟨hc.mem,hc.gh,hc.obj,hc.next,hc.low⟩
end
theorem TV {sz:Nat} {L:List (List AV)} (h:kB sz L=true) {k:Nat} {c:List AV} (hk:L[k]?=some c) :
  jA L=jA (L.take k)++(c.map (⟨·,.no⟩)++jA (L.drop (k + 1)))/\(jA (L.take k)).length=k * sz/\k<L.length/\c.length=sz:=by
 obtain ⟨fa,he⟩:=ym.1 hk;have h1:kB sz (L.take k)=true:=y6.2 fun x hx=>y6.1 h x (List.mem_of_mem_take hx)
 refine ⟨?_,?_,fa,?_⟩
 ·have:L=L.take k++(c :: L.drop (k + 1)):=by rw [<- he,<- y9 fa,yR]
  have h2:=congrArg jA this;rw [eK] at h2;rw [h2];simp [jA]
 ·rw [dJ h1,yN,Nat.min_eq_left (by omega)]
 ·have:=y6.1 h c (yQ hk);simpa using this
theorem p9 {L:List (List AV)} {k:Nat} (hk:k<L.length) (c:List AV):jA (L.take k)++(c.map (⟨·,.no⟩)++jA (L.drop (k + 1)))=jA (L.set k c):=by
 have:L.set k c=L.take k++(c :: L.drop (k + 1)):=by
  rw [List.set_eq_take_append_cons_drop,if_pos hk]
 rw [this,eK];simp [jA]
section
variable {sz:Nat} {L:List (List AV)} (h:kB sz L=true)
include sz L h
theorem row_get1 {k j:Nat} {c:List AV} (hk:L[k]?=some c) {v:AV} (hj:c[j]?=some v) (z:Nat):SA false z (k * sz + j) (jA L)=some ⟨v,.no⟩:=by
 obtain ⟨h1,h2,h3,h4⟩:=TV h hk;obtain ⟨bm,_⟩:=ym.1 hj;rw [h1,RA,yP (by omega),h2,Nat.add_sub_cancel_left,yV (by simpa using bm),y8,hj];rfl
theorem a9 {k j:Nat} {c:List AV} (hk:L[k]?=some c) (hj:j<c.length) {x:AV} (hx:x.leaf=true) (z:Nat):xA false z (k * sz + j) (jA L) x .no=some (jA (L.set k (c.set j x))):=by
 obtain ⟨h1,h2,h3,h4⟩:=TV h hk;rw [<- p9 h3,h1];unfold xA;simp only [yp,if_false];rw [if_pos ⟨hx,by simp only [yA,yn,h2]; omega⟩];congr 1;rw [List.set_append_right (h:=by omega),h2,Nat.add_sub_cancel_left,List.set_append_left (h:=by simpa using hj),List.map_set]
theorem row_setN {k j z:Nat} {c cs:List AV} (hk:L[k]?=some c) (hj:j + z<=c.length) (hz:cs.length=z) (a:An):xA true z (k * sz + j) (jA L) (.agg cs) a=some (jA (L.set k (c.take j++cs++c.drop (j + z)))):=by
 obtain ⟨h1,h2,h3,h4⟩:=TV h hk;rw [<- p9 h3,h1];unfold xA;simp only [if_true];rw [if_pos ⟨hz,by simp only [yA,yn,h2]; omega⟩];congr 1;rw [List.take_append,List.drop_append,h2];rw [yv (l:=jA (L.take k)) (by omega),List.drop_of_length_le (l:=jA (L.take k)) (by omega)];rw [show k * sz + j - k * sz=j from by omega,show k * sz + j + z - k * sz=j + z from by omega];rw [List.take_append_of_le_length (by simp; omega),List.drop_append_of_le_length (by simp; omega)];simp
end
theorem rowEls_eq (row:List rA) (sz off len:Nat):iF row sz off len=if row.all (fun x=>x.v.free0)=true then GK row sz off len else none:=by
 unfold iF GK;by_cases h1:off + len * sz<=row.length <;> by_cases h2:row.all (fun x=>x.v.free0)=true <;> simp only [h1,h2,true_and,false_and,and_true,and_false,if_true,if_false,yp]
theorem frz1_free {s:aA} {v:AV} (h:v.free0=true):AV.frz1 s v=v:=by
 cases v <;> first | rfl | (simp [AV.free0] at h; done)
theorem frz_row {s:aA} {t n sz c:Nat} {L:List (List AV)} (h:kB sz L=true) (hm:s.mem t n=some (jA L)) (hf:(L.map fun c=>c.map (AV.frz1 s)).flatten.all AV.free0=true):AV.frz0 s (.ref t n sz 0 L.length c)=.sl false (L.map fun c=>c.map (AV.frz1 s)):=by
 have hr:GK (jA L) sz 0 L.length=some L:=KH fun c hc=>by simpa using y6.1 h c hc
 simp only [AV.frz0,hm,V,rowEls_eq];by_cases za:(jA L).all (fun x=>x.v.free0)=true
 ·rw [if_pos za,hr];have:(L.map fun c=>c.map (AV.frz1 s))=L.map id:=yz fun c hc=>by
   have:c.map (AV.frz1 s)=c.map id:=yz fun v hv=>frz1_free (by
    have:=y6.1 za ⟨v,.no⟩ (yB.2 ⟨v,List.mem_flatten.2 ⟨c,hc,hv⟩,rfl⟩);exact this)
   rwa [List.map_id] at this
  rw [this,List.map_id]
 ·rw [if_neg za];simp only [rowDeep,hr,V];rw [if_pos hf]
def rwM (n:Nat) (a b:bB):Prop:=b.id=a.id/\b.name=a.name/\b.crit=a.crit/\(b=a\/(0<=b.ty/\b.ty<n/\b.has=false/\b.dflt=Vl.zero))
def rwL (n:Nat) (xs bs:List bB):Prop:=xs.length=bs.length/\∀ (i:Nat) a b,xs[i]?=some a->bs[i]?=some b->rwM n a b
theorem g9 (n:Nat) (xs:List bB):rwL n xs xs:=⟨rfl,fun i a b h h'=>by
 rw [h] at h';injection h' with h';subst h';exact ⟨rfl,rfl,rfl,.inl rfl⟩⟩
def bB.rewired (m:bB) (ty:Int):bB:=⟨m.id,m.name,ty,m.crit,false,Vl.zero⟩
theorem rwL_set {n:Nat} {xs bs:List bB} (h:rwL n xs bs) {k:Nat} {m:bB} (hk:bs[k]?=some m) {ty:Int} (h0:0<=ty) (h1:ty<n):rwL n xs (bs.set k (m.rewired ty)):=by
 obtain ⟨hl,h⟩:=h;refine ⟨by simpa using hl,fun i a b ha hb=>?_⟩;rw [List.getElem?_set] at hb;split at hb
 ·rename_i e;subst e;split at hb
  ·injection hb with hb;subst hb;obtain ⟨g1,g2,g3,_⟩:=h k a m ha hk;exact ⟨g1,g2,g3,.inr ⟨h0,h1,rfl,rfl⟩⟩
  ·cases hb
 ·exact h i a b ha hb
def MemsR (n:Nat) (xs:List bB) (c:AV) (s:aA):Prop :=
 (xs=[]/\c=.sl true [])\/∃ N bs,xs≠[]/\rwL n xs bs/\c=.ref 88 N 13 0 xs.length xs.length/\s.mem 88 N=some (jA (bs.map nA))
def pP (n:Nat) (S:List gA) (L:List (List AV)) (s:aA):Prop:=S.length=L.length/\∀ (i:Nat) (t:gA) (c:List AV),S[i]?=some t->L[i]?=some c->∃ m,c=JF t m/\MemsR n t.mems m s
theorem mJ.toR {S:List gA} {L:List (List AV)} {s:aA} (h:mJ S L s) (n:Nat):pP n S L s:=⟨h.1,fun i t c ht hc=>by
 obtain ⟨m,h1,h2⟩:=h.2 i t c ht hc;refine ⟨m,h1,?_⟩;rcases h2 with h2 | ⟨N,g1,_,g3,g4⟩
 ·exact .inl h2
 ·exact .inr ⟨N,_,g1,g9 n _,g3,g4⟩⟩
theorem pP.els {n:Nat} {S:List gA} {L:List (List AV)} {s:aA} (h:pP n S L s):kB 10 L=true:=by
 refine y6.2 fun c hc=>?_
 obtain ⟨i,hi,rfl⟩:=yy hc;have ba:=h.1;obtain ⟨m,h1,_⟩:=h.2 i S[i] L[i] (y4 (by omega)) (y4 hi);rw [h1];rfl
theorem pP.keep {n:Nat} {S:List gA} {L:List (List AV)} {s s':aA} (h:pP n S L s) (hm:∀ N,s'.mem 88 N=s.mem 88 N):pP n S L s':=⟨h.1,fun i t c ht hc=>by
 obtain ⟨m,h1,h2⟩:=h.2 i t c ht hc;refine ⟨m,h1,?_⟩;rcases h2 with h2 | ⟨N,bs,g1,g2,g3,g4⟩
 ·exact .inl h2
 ·exact .inr ⟨N,bs,g1,g2,g3,(hm N).trans g4⟩⟩
theorem memC_inj {a b:List bB} (h:jA (a.map nA)=jA (b.map nA)) (hl:a.length=b.length):a.map nA=b.map nA:=by
 have h1:=KH (sz:=13) (L:=a.map nA) (by simp [nA]);have h2:=KH (sz:=13) (L:=b.map nA) (by simp [nA]);rw [h] at h1;simp only [yn] at h1 h2;rw [hl,h2] at h1;injection h1 with h1;exact h1.symm
theorem pP.store {n:Nat} {S:List gA} {L:List (List AV)} {s s':aA} (h:pP n S L s) {N k:Nat} {bs:List bB} {m:bB} (hN:s.mem 88 N=some (jA (bs.map nA))) (hk:bs[k]?=some m) {ty:Int} (h0:0<=ty) (h1:ty<n) (hm:∀ N',s'.mem 88 N'=if N'=N then some (jA ((bs.set k (m.rewired ty)).map nA)) else s.mem 88 N'):pP n S L s':=⟨h.1,fun i t c ht hc=>by
 obtain ⟨m',g1,g2⟩:=h.2 i t c ht hc;refine ⟨m',g1,?_⟩;rcases g2 with g2 | ⟨N',iT,g2,g3,g4,g5⟩
 ·exact .inl g2
 ·by_cases e:N'=N
  ·subst e;rw [hN] at g5;injection g5 with g5;have ba:bs.length=iT.length:=by
    have e1:=congrArg List.length g5;rw [dJ (OO _),dJ (OO _)] at e1;simp only [yn] at e1;omega
   have ui:=memC_inj g5 ba;have tc:k<iT.length:=by rw [<- ba]; exact (ym.1 hk).1
   have hkm:nA iT[k]=nA m:=by
    have:=congrArg (·[k]?) ui;simp only [y8,hk,y4 tc,yq,Option.some.injEq] at this;exact this.symm
   refine .inr ⟨N',iT.set k (iT[k].rewired ty),g2,rwL_set g3 (y4 tc) h0 h1,g4,?_⟩;rw [hm,if_pos rfl,List.map_set,List.map_set,ui];have:nA (m.rewired ty)=nA (iT[k].rewired ty):=by
    simp only [nA,List.cons.injEq,AV.int.injEq,AV.str.injEq,AV.bool.injEq,true_and] at hkm;simp only [nA,bB.rewired,hkm.1,hkm.2.1,hkm.2.2.2.1]
   rw [this]
  ·exact .inr ⟨N',iT,g2,g3,g4,by rw [hm,if_neg e]; exact g5⟩⟩
def rwT (n:Nat) (a b:gA):Prop:=∃ bs,rwL n a.mems bs/\b={ a with mn:=bs.isEmpty,mems:=bs }
def rwS (n:Nat) (S T:List gA):Prop:=S.length=T.length/\∀ (i:Nat) a b,S[i]?=some a->T[i]?=some b->rwT n a b
theorem frz_mems {n:Nat} {xs:List bB} {c:AV} {s:aA} (h:MemsR n xs c s):∃ bs,rwL n xs bs/\AV.frz1 s c=.sl bs.isEmpty (bs.map nA):=by
 rcases h with ⟨rfl,rfl⟩ | ⟨N,bs,h1,h2,rfl,h4⟩
 ·exact ⟨[],g9 n [],rfl⟩
 ·refine ⟨bs,h2,?_⟩;have ta:bs.isEmpty=false:=by
   cases bs with
   | nil=>exact absurd (yF h2.1) h1
   | cons=>rfl
  have:=WM (sz:=13) (OO bs) (U3 bs);simp only [yn] at this;simp only [AV.frz1,h4,V,h2.1,this,ta]
theorem frz_typs {n:Nat} {S:List gA} {L:List (List AV)} {s:aA} (h:pP n S L s) {t N c:Nat} (hm:s.mem t N=some (jA L)):∃ T,rwS n S T/\AV.frz0 s (.ref t N 10 0 L.length c)=.sl false (T.map eA):=by
 have wr:∀ i:Nat,∃ b:gA,∀ (hi:i<S.length),rwT n S[i] b/\(L[i]'(by rw [<- h.1]; exact hi)).map (AV.frz1 s)=eA b:=fun i=>by
  by_cases hi:i<S.length
  ·have hiL:i<L.length:=by rw [<- h.1]; exact hi
   obtain ⟨m,h1,h2⟩:=h.2 i _ _ (y4 hi) (y4 hiL);obtain ⟨bs,g1,g2⟩:=frz_mems h2;refine ⟨{ S[i] with mn:=bs.isEmpty,mems:=bs },fun _=>⟨⟨bs,g1,rfl⟩,?_⟩⟩;rw [h1];simp only [JF,yl,yo,g2];rfl
  ·exact ⟨gA.of 0 ⟨#[]⟩,fun h=>absurd h hi⟩
 obtain ⟨f,hf⟩:=Classical.axiomOfChoice wr;have hL:(L.map fun c=>c.map (AV.frz1 s))=((List.range S.length).map f).map eA:=by
  refine List.ext_getElem (by simp [h.1]) fun i h1 h2=>?_
  have hi:i<S.length:=by simpa using h2
  simp only [List.getElem_map,List.getElem_range];exact (hf i hi).2
 refine ⟨(List.range S.length).map f,⟨by simp,fun i a b ha hb=>?_⟩,?_⟩
 ·obtain ⟨hi,he⟩:=ym.1 ha;simp only [y8,List.getElem?_range hi,yq,Option.some.injEq] at hb;rw [<- he,<- hb];exact (hf i hi).1
 ·rw [frz_row h.els hm (by rw [hL]; simp [eA,AV.free0]),hL]
section
set_option maxHeartbeats 4000000
structure lX where
 ty:Int
 mem:Int
 to:Int
def RR (w:lX):List AV:=[.int .u8 w.ty,.int .u8 w.mem,.int .u8 w.to]
def lX.ok (w:lX):Prop:=u8 w.ty/\u8 w.mem/\u8 w.to
structure RwI (dn wn:Bool) (l:List OD) (ws:List lX) (N:Nat) (L:List (List AV)) (i:Nat) (s:aA):Prop where
 e1:(s.env 1).v=.ptr 1 1 0
 m1:s.mem 1 1=some [⟨.sl dn (l.map AD),.no⟩,⟨.sl wn (ws.map RR),.no⟩]
 e2:(s.env 2).v=.ptr 2 1 0
 m2:s.mem 2 1=some [⟨.sl true [],.ex⟩]
 e4:∃ q,(s.env 4).v=.ptr 4 q 0/\s.mem 4 q=some [⟨.ref 168 N 10 0 l.length l.length,.no⟩]
 e6:(s.env 6).v=.int .i64 i
 m168:s.mem 168 N=some (jA L)
 typs:pP l.length (lF l) L s
theorem els_set {sz:Nat} {L:List (List AV)} (h:kB sz L=true) {k:Nat} {c:List AV} (hc:c.length=sz):kB sz (L.set k c)=true:=by
 refine y6.2 fun x hx=>?_
 rcases List.mem_or_eq_of_mem_set hx with hx | rfl
 ·exact y6.1 h x hx
 ·simpa using hc
def memC1 (m:bB) (ty:Int):List AV:=[.int .i64 m.id,.str m.name,.int .i64 ty,.bool m.crit,.bool m.has,.int .i64 m.dflt.kind,.bool m.dflt.b,.int .i64 m.dflt.i,.str m.dflt.s,.int .i64 m.dflt.id,.sl m.dflt.kn (m.dflt.keys.map pA),.sl m.dflt.xn (m.dflt.items.map pA),.sl m.dflt.rn (m.dflt.rest.map sK)]
def Q8 (m:bB) (ty:Int):List AV:=[.int .i64 m.id,.str m.name,.int .i64 ty,.bool m.crit,.bool false,.int .i64 m.dflt.kind,.bool m.dflt.b,.int .i64 m.dflt.i,.str m.dflt.s,.int .i64 m.dflt.id,.sl m.dflt.kn (m.dflt.keys.map pA),.sl m.dflt.xn (m.dflt.items.map pA),.sl m.dflt.rn (m.dflt.rest.map sK)]
theorem rw_stores {bs:List bB} {c:Nat} {m:bB} (hc:bs[c]?=some m) (b:Int) :
  xA false 1 (c * 13 + 2) (jA (bs.map nA)) (.int .i64 b) .no=some (jA ((bs.map nA).set c (memC1 m b))) ∧
  xA false 1 (c * 13 + 4) (jA ((bs.map nA).set c (memC1 m b))) (.bool false) .no=some (jA ((bs.map nA).set c (Q8 m b))) ∧
  xA true 8 (c * 13 + 5) (jA ((bs.map nA).set c (Q8 m b))) (.agg [.int .i64 0,.bool false,.int .i64 0,.str ⟨#[]⟩,.int .i64 0,.sl true [],.sl true [],.sl true []]) .no=some (jA ((bs.set c (m.rewired b)).map nA)):=by
 have fa:c<(bs.map nA).length:=by simpa using (ym.1 hc).1
 have g0:(bs.map nA)[c]?=some (nA m):=by rw [y8,hc]; rfl
 have g1:∀ e,((bs.map nA).set c e)[c]?=some e:=fun e=>List.getElem?_set_self fa
 refine ⟨?_,?_,?_⟩
 ·rw [a9 (OO bs) g0 (by simp [nA]) rfl];rfl
 ·rw [a9 (els_set (OO bs) rfl) (g1 _) (by simp [memC1]) rfl,List.set_set];rfl
 ·have:=row_setN (sz:=13) (els_set (OO bs) (k:=c) (c:=Q8 m b) rfl) (g1 (Q8 m b)) (j:=5) (z:=8) (cs:=[.int .i64 0,.bool false,.int .i64 0,.str ⟨#[]⟩,.int .i64 0,.sl true [],.sl true [],.sl true []]) (by simp [Q8]) rfl .no;rw [this,List.set_set,List.map_set];rfl
theorem rw_round {r:RV} {dn wn:Bool} {l:List OD} (hl:oks l) {ws:List lX} (hw:∀ w∈ws,w.ok) (hw8:ws.length<=8) {N:Nat} {L:List (List AV)} (hL:L.length=l.length) {i:Nat} (hi:i<ws.length) (s:aA) (k:Ex->aA->Option RV) (h:RwI dn wn l ws N L i s) (hk:∀ s',RwI dn wn l ws N L (i + 1) s'->k .nrm s'=some r):dI.run (BI kA tA) (aN kA tA) s k=some r:=by
 obtain ⟨e1,m1,e2,m2,⟨q,e4,m4⟩,e6,m168,typs⟩:=h;have hN1:=hl.1;have hN5:=hl.2.1;have rm:(i:Int)<ws.length:=by omega
 have xh:=LA (i:=i);have g1:(ws.map RR)[i]?=some (RR ws[i]):=by simp [hi]
 have hwo:=hw _ (y5 hi);generalize ws[i]=w at *
 obtain ⟨⟨w1,w1'⟩,⟨w2,w2'⟩,⟨w3,w3'⟩⟩:=hwo;simp only [RR] at g1;have hwt:IntKind.i64.wrap w.ty=w.ty:=IntWalk.i64_in _ (by omega);have aq:IntKind.i64.wrap w.mem=w.mem:=IntWalk.i64_in _ (by omega);have hwo:IntKind.i64.wrap w.to=w.to:=IntWalk.i64_in _ (by omega);have ko:¬ (l.length:Int)=0:=by omega
 have xf:¬ l=[]:=by intro e; rw [e] at hN1; simp at hN1
 have ht:w.ty.tmod l.length=w.ty % l.length:=yu w1;have ht2:w.to.tmod l.length=w.to % l.length:=yu w3;have hp1:0<=w.ty % l.length/\w.ty % l.length<l.length:=⟨yJ _ ko,yM _ (by omega)⟩;have oy:0<=w.to % l.length/\w.to % l.length<l.length:=⟨yJ _ ko,yM _ (by omega)⟩;generalize w.ty % (l.length:Int)=a at *
 generalize w.to % (l.length:Int)=b at *
 have haL:a.toNat<L.length:=by omega
 have haS:a.toNat<(lF l).length:=by rw [typs.1]; exact haL
 obtain ⟨m,ti,hm2⟩:=typs.2 a.toNat _ _ (y4 haS) (y4 haL);have hga:L[a.toNat]?=some (JF (lF l)[a.toNat] m):=by rw [y4 haL,ti]
 have gl:=row_get1 typs.els hga (j:=6) (v:=m) rfl 1;rw [RA] at gl;have ic:a.toNat<l.length:=by omega
 have ha2:a<l.length:=hp1.2;have ha0:=hp1.1;obtain ⟨z,hz⟩:∃ z:Int,z=i:=⟨_,rfl⟩;have bc:0<=z:=by omega
 rw [<- hz] at e6 rm xh;rw [show i=z.toNat from by omega] at g1;rcases hm2 with ⟨xj,rfl⟩ | ⟨N',bs,ta,jf,rfl,h88⟩
 ·simp [dI,-V,-y3,-y0,J,-SA,-xA,RA,OA,lA,zA,e1,m1,e4,m4,e6,bc,rm,g1,hwt,ht,ko,xf,ha0,ha2,m168,gl,xh,ic];refine hk _ ⟨?_,?_,?_,?_,⟨q,?_,?_⟩,?_,?_,typs.keep fun _=>rfl⟩
  ·simp [e1]
  ·exact m1
  ·simp [e2]
  ·exact m2
  ·simp [e4]
  ·exact m4
  ·simp
  ·exact m168
 ·have wd:¬ ((lF l)[a.toNat].mems.length:Int)=0:=by
   have:=List.length_pos_iff.2 ta;omega
  have hk0':0<((lF l)[a.toNat].mems.length:Int):=by omega
  have hlb:=jf.1;generalize (lF l)[a.toNat].mems=ms at *
  have ht3:w.mem.tmod ms.length=w.mem % ms.length:=yu w2;have zj:0<=w.mem % ms.length/\w.mem % ms.length<ms.length:=⟨yJ _ wd,yM _ hk0'⟩;generalize w.mem % (ms.length:Int)=c at *
  have kq:=zj.1;have hcn:c.toNat<ms.length:=by omega
  have hcb:c.toNat<bs.length:=by omega
  have gb:bs[c.toNat]?=some bs[c.toNat]:=y4 hcb;obtain ⟨st1,st2,st3⟩:=rw_stores gb b;simp [dI,-V,-y3,-y0,J,-SA,-xA,RA,OA,lA,zA,e1,m1,e4,m4,e6,bc,rm,g1,hwt,ht,ko,xf,ha0,ha2,m168,gl,xh,ic,wd,aq,ht3,kq,hcn,ta,hwo,ht2,oy,h88,st1,st2,st3];refine hk _ ⟨?_,?_,?_,?_,⟨q,?_,?_⟩,?_,?_,typs.store h88 gb oy.1 oy.2 fun N''=>?_⟩
  ·simp [e1]
  ·simp [m1]
  ·simp [e2]
  ·simp [m2]
  ·simp [e4]
  ·simp [m4]
  ·simp
  ·simp [m168]
  ·by_cases e:N''=N'
   ·simp [e,List.map_set]
   ·simp [e]
def Of11End (l:List OD) (ws:List lX) (e:Ex) (s:aA):Prop:=e=.ret/\(s.env 2).v=.ptr 2 1 0 ∧
  ((¬ (oks l/\ws.length<=8)/\(s.env 3).v=.bool false/\∃ a,s.mem 2 1=some [⟨.sl true [],a⟩]) ∨
   (oks l/\ws.length<=8/\(s.env 3).v=.bool true/\∃ N L a,s.mem 2 1=some [⟨.ref 168 N 10 0 l.length l.length,a⟩]/\s.mem 168 N=some (jA L)/\L.length=l.length/\pP l.length (lF l) L s))
theorem lowE_arg {m:Nat} {xs:List AV} (h:∀ x∈xs,lowV m x):wB m (argE xs):=fun t=>by
 rw [G4];rcases Nat.lt_or_ge t xs.length with h' | h'
 ·rw [List.getD_eq_getElem?_getD,y4 h'];exact h _ (y5 h')
 ·rw [List.getD_eq_getElem?_getD,yZ h'];exact fun _ _ _=>rfl
theorem low_noM (m:Nat):fL m noM:=fun t n r h=>by cases h
theorem pure_noM (m:Nat):gS m noM:=fun t n r _ h=>by cases h
theorem gS.set {m:Nat} {M:Nat->Nat->Option (List rA)} (h:gS m M) {t n:Nat} {r:List rA} (hr:∀ x∈r,eN x):gS m (N5 M t n r):=fun t' n' r' hn he=>by
 rw [iB] at he;split at he
 ·injection he with he; subst he; exact hr
 ·exact h t' n' r' hn he
theorem nJ.put {e:Nat->rA} (h:nJ e) {d:Nat} {x:rA} (hx:eN x):nJ (putE e d x):=fun t=>by
 rw [BF];split
 ·exact hx
 ·exact h t
theorem nJ.wait {nt:Nat} {e g:Nat->rA} (h:nJ e) (h':nJ g):nJ (E4 nt e g):=fun t=>by
 rw [fD];split
 ·exact h t
 ·exact h' _
theorem pure_arg (xs:List AV):nJ (argE xs):=fun t=>by rw [G4]; exact rN _
theorem pure_und:nJ undE:=fun t=>by rw [j6]; exact rN _
theorem low_und (m:Nat):wB m undE:=fun t=>by rw [j6]; exact fun _ _ _=>rfl
section
variable {dn wn:Bool} {l:List OD} (hl:∀ x∈l,x.ok) {ws:List lX} (hw:∀ w∈ws,w.ok)
include dn wn l hl ws hw
theorem of11_run (k:Ex->aA->Option RV) (r:RV) (hk:∀ e s',Of11End l ws e s'->k e s'=some r):bK.code.run (BI kA tA) (aN kA tA) (aA.init [.agg [.sl dn (l.map AD),.sl wn (ws.map RR)]] none) k=some r:=by
 simp [bK,-V,-y3,-y0,J];refine ofH_ev (dn:=dn) hl _ ?_ ?_ ?_ ?_ _ (fun dd s' hc=>?_) (fun hyes N L s' hc ir hN ej hL hT=>?_)
 ·exact ((low_noM _).set fA).set fA
 ·refine ((pure_noM _).set fun x hx=>?_).set fun x hx=>?_
  ·simp at hx;rcases hx with rfl | rfl <;> exact rN _
  ·simp at hx;subst hx;exact dZ _
 ·dsimp only;refine wB.wait ?_ (low_und _);have ha:wB 3 (argE [.agg [.sl dn (l.map AD),.sl wn (ws.map RR)]]):=lowE_arg fun x hx=>by
   simp only [yL] at hx;subst hx;exact rQ fun c hc=>by
    simp only [yc,yH,or_false] at hc;rcases hc with rfl | rfl <;> exact mM rfl
  repeat (first | exact ha | refine wB.put ?_ (fun _ _ _=>rfl) | refine wB.put ?_ (LC (by omega)) | refine wB.put ?_ (rQ fun c hc=>by simp only [yL] at hc; subst hc; exact mM rfl))
 ·dsimp only;refine nJ.wait ?_ pure_und
  repeat (first | exact pure_arg _ | refine nJ.put ?_ (rN _))
 ·obtain ⟨cm,cg,co,cn,cl⟩:=hc;dsimp only at cg cm cn;have g1:(s'.gh 1).v=.ptr 1 1 0:=by rw [cg]; simp [fD]
  have g2:(s'.gh 2).v=.ptr 2 1 0:=by rw [cg]; simp [fD]
  have m1:=cm 1 1 (by omega);have m2:=cm 2 1 (by omega);simp at m1 m2;simp [-V,-y3,-y0,J,g1,g2,m1,m2];refine hk _ _ ⟨rfl,by simp [g2],.inl ⟨fun h=>dd h.1,by simp,_,by simp; rfl⟩⟩
 ·obtain ⟨cm,cg,co,cn,cl⟩:=hc;dsimp only at cg cm cn;have g1:(s'.gh 1).v=.ptr 1 1 0:=by rw [cg]; simp [fD]
  have g2:(s'.gh 2).v=.ptr 2 1 0:=by rw [cg]; simp [fD]
  have m1:=cm 1 1 (by omega);have m2:=cm 2 1 (by omega);simp at m1 m2;by_cases h8:8<(ws.length:Int)
  ·simp [-V,-y3,-y0,J,g1,g2,m1,m2,h8];refine hk _ _ ⟨rfl,by simp [g2],.inl ⟨fun h=>by have:=h.2; omega,by simp,_,by simp; rfl⟩⟩
  ·have hw8:ws.length<=8:=by omega
   simp [-V,-y3,-y0,J,g1,g2,m1,m2,h8];refine bA ws.length (fun i s=>RwI dn wn l ws N L i s) (fun e s=>e=.exit 0/\RwI dn wn l ws N L ws.length s) (fun i hi s k' h ih tc=>?_) _ _ ?_ (fun e s h=>?_)
   ·refine uA ?_;by_cases fa:i<ws.length
    ·exact rw_round hyes hw hw8 hL fa s _ h fun s' h'=>ih fa _ h'
    ·have ww:i=ws.length:=by omega
     subst ww;obtain ⟨e1,m1,e2,m2,⟨q,e4,m4⟩,e6,m168,typs⟩:=h;simp [dI,-V,-y3,-y0,J,e1,m1,e6];exact tc _ _ ⟨rfl,by simp [e1],m1,by simp [e2],m2,⟨q,by simp [e4],m4⟩,by simp [e6],m168,typs.keep fun _=>rfl⟩
   ·exact ⟨by simp [g1],by simp [m1],by simp [g2],by simp [m2],⟨s'.next,by simp,by simp⟩,by simp,by simp [ej],(hT.toR _).keep fun _=>by simp⟩
   ·obtain ⟨rfl,e1,m1,e2,m2,⟨q,e4,m4⟩,e6,m168,typs⟩:=h;simp [-V,-y3,-y0,J,e4,m4,e2,m2];refine hk _ _ ⟨rfl,by simp [e2],.inr ⟨hyes,hw8,by simp,N,L,_,by simp; rfl,by simp [m168],hL,typs.keep fun _=>by simp⟩⟩
theorem of11_ev:∃ r:RV,((¬ (oks l/\ws.length<=8)/\r=(.tup [.agg [.sl true []],.bool false],none))\/(oks l/\ws.length<=8/\∃ T,rwS l.length (lF l) T/\r=(.tup [.agg [.sl false (T.map eA)],.bool true],none)))/\BI kA tA 35 [.agg [.sl dn (l.map AD),.sl wn (ws.map RR)]] none=some r:=by
 refine K2 K6 bK rfl rfl (F:=Of11End l ws) (of11_run hl hw) fun e s' h=>?_
 have ae:bK.res=[.cell 2 true 1,.tmp 3]:=rfl;obtain ⟨rfl,e2,⟨dd,e3,a,m2⟩ | ⟨hy,h8,e3,N,L,a,m2,m168,hL,hT⟩⟩:=h
 ·exact ⟨_,by simp [fin,ae,ZW,e2,e3,m2,SA,AV.frz,AV.frz0,B4,AV.free,AV.free0,U1],.inl ⟨dd,rfl⟩⟩
 ·obtain ⟨T,g1,g2⟩:=frz_typs hT (c:=l.length) m168;rw [hL] at g2;have f1:AV.frz s' (.agg [.ref 168 N 10 0 l.length l.length])=.agg [.sl false (T.map eA)]:=by simp only [AV.frz,yl,yo,g2]
  have f2:AV.frz s' (.bool true)=.bool true:=rfl;exact ⟨_,by simp [fin,ae,ZW,e2,e3,m2,SA,f1,f2,B4,AV.free,AV.free0,U1,-AV.frz,-AV.frz0],.inr ⟨hy,h8,T,g1,rfl⟩⟩
end
end
end Go.Proofs.YtjoaiabjebpbjaaGreat
