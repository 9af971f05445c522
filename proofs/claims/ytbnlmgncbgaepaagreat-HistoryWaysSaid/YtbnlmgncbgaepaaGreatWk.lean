/- A part of the proof. -/
import Derived.Test.YtbnlmgncbgaepaaGreatWf
set_option linter.all false
set_option maxRecDepth 100000
set_option maxHeartbeats 8000000
open Option renaming bind_some → V, map_eq_some_iff → yg, map_some → yz
open List renaming range_succ → J, map_map → y0, all_eq_true → y4, getElem?_eq_getElem → y5, getElem_mem → y6, drop_eq_getElem_cons → y9, getElem?_eq_some_iff → yb, getElem?_map → yc, drop_eq_nil_of_le → ye, mem_cons → yf, map_cons → yh, mem_of_getElem? → yj, mem_cons_self → yk, map_congr_left → yl, length_map → yo, length_append → yp, mem_cons_of_mem → yq, map_nil → yr, mem_append → yu, mem_map → yw, getElem_of_mem → yx, flatten_cons → yB, length_take → yC, take_of_length_le → yD, getElem?_append_left → yE, not_mem_nil → yG, length_cons → yH, take_append_getElem → yK, getElem?_eq_none → yL, eq_nil_of_length_eq_zero → yN, append_nil → yO, getElem?_append_right → yP, mem_singleton → yU
open Int renaming toNat_lt → y3, tmod_eq_emod_of_nonneg → yy, emod_nonneg → yJ, emod_lt_of_pos → yM
open Bool renaming and_eq_true → y7, false_eq_true → yn
open Nat renaming le_refl → ym, succ_mul → yt, zero_add → yF, eq_zero_or_pos → yI
namespace Go.Proofs.YtbnlmgncbgaepaaGreat
open Go
structure Prt where
 id:Int
 ty:Int
 flag:Int
structure Nde where
 k:Int
 a:Int
 b:Int
 c:Int
 pn:Bool
 parts:List Prt
def prtC (x:Prt):List AV:=[.int .u8 x.id,.int .u8 x.ty,.int .u8 x.flag]
def ndeC (x:Nde):List AV:=[.int .u8 x.k,.int .u8 x.a,.int .u8 x.b,.int .u8 x.c,.sl x.pn (x.parts.map prtC)]
def dftC (n:Bool) (l:List Nde):List AV:=[.sl n (l.map ndeC)]
def u8 (n:Int):Prop:=0<=n/\n<=255
def Prt.ok (x:Prt):Prop:=u8 x.id/\u8 x.ty/\u8 x.flag
def Nde.ok (x:Nde):Prop:=u8 x.k/\u8 x.a/\u8 x.b/\u8 x.c/\x.parts.length<=9223372036854775807/\∀ p∈x.parts,p.ok
def Nde.kind (x:Nde):Int:=1 + x.k % 9
def Nde.low (x:Nde):Int:=x.a % 7 - 3
def Nde.high (x:Nde):Int:=x.low + x.b % 6
theorem kind_rng {x:Nde} (h:x.ok):1<=x.kind/\x.kind<=9:=by
 obtain ⟨⟨h1,h2⟩,_⟩:=h;simp only [Nde.kind];omega
theorem u8_mod (n m:Int) (h:u8 n) (hm:0<m) (nh:m<=255):n.tmod m=n % m/\IntKind.u8.wrap (n % m)=n % m:=by
 obtain ⟨h1,h2⟩:=h;have e:=yy h1 (b:=m);have g1:=yJ n (b:=m) (by omega);have g2:=yM n hm;refine ⟨e,?_⟩;simp only [IntKind.wrap,IntKind.bits,IntKind.signed];simp;omega
theorem kind_ev (dn:Bool) (l:List Nde) (z:Int) (x:Nde) (hz:0<=z) (h:l[z.toNat]?=some x) (hx:x.ok):evA 87 [.agg (dftC dn l),.int .i64 z] (.int .i64 x.kind):=by
 refine q00 (c:=q6W) rfl rfl ?_;have g:(l.map ndeC)[z.toNat]?=some (ndeC x):=by simp [h]
 obtain ⟨e1,e2⟩:=u8_mod x.k 9 hx.1 (by omega) (by omega);simp only [ndeC] at g;simp [q6W,dftC,-V,-y3,-y0,J,g,hz,e1];have:=hx.1;simp only [u8] at this;rw [IntWalk.i64_in (x.k % 9) (by omega),IntWalk.i64_in _ (by omega)];rfl
theorem hollow_ev (k:Int):evA 172 [.int .i64 k] (.bool (decide (7<=k))):=by
 refine q00 (c:=q5f) rfl rfl ?_;simp [q5f,-V,-y3,-y0,J]
theorem low_ev (x:Nde) (hx:x.ok):evA 89 [.agg (ndeC x)] (.int .i64 x.low):=by
 refine q00 (c:=q7K) rfl rfl ?_;obtain ⟨e1,e2⟩:=u8_mod x.a 7 hx.2.1 (by omega) (by omega);simp [q7K,ndeC,-V,-y3,-y0,J,e1];rw [IntWalk.i64_in (x.a % 7) (by omega),IntWalk.i64_in _ (by omega)];rfl
theorem high_ev (x:Nde) (hx:x.ok):evA 90 [.agg (ndeC x)] (.int .i64 x.high):=by
 refine q00 (c:=q6V) rfl rfl ?_;obtain ⟨e1,e2⟩:=u8_mod x.b 6 hx.2.2.1 (by omega) (by omega);have:=low_ev x hx;simp only [ndeC] at this;simp [q6V,ndeC,-V,-y3,-y0,J,e1,this];rw [IntWalk.i64_in (x.b % 6) (by omega),IntWalk.i64_in _ (by simp only [Nde.low]; omega)];rfl
def bitZ (a:Int) (i:Nat):Bool:=decide (a / 2 ^ i % 2=1)
def idl (a:Int):Nat->List Int
 | 0=>[]
 | i + 1=>idl a i++if bitZ a i then [((i + 1:Nat):Int)] else []
def idsZ (a:Int):List Int:=if idl a 6=[] then [1] else idl a 6
def q8s (n:Int):List AV:=[.int .i64 n]
theorem idl_len (a:Int):∀ i,(idl a i).length<=i
 | 0=>ym _
 | i + 1=>by
  have:=idl_len a i;rw [idl,yp];split <;> simp <;> omega
theorem els_int (l:List Int):q13 1 (l.map q8s)=true:=q1a _ _ _ fun _=>rfl
theorem ids7_ev (x:Nde) (hx:x.ok):evA 91 [.agg (ndeC x)] (.sl false ((idsZ x.a).map q8s)):=by
 refine q00 (c:=q7I) rfl rfl ?_;obtain ⟨hk,ha,hb,hc,hp,mD⟩:=hx;obtain ⟨wN,kK⟩:=ha;simp [q7I,ndeC,-V,-y3,-y0,J];refine q06 6 (fun i s=>(s.env 1).v=.ptr 1 1 0/\s.mem 1 1=some [⟨.int .u8 x.k,.no⟩,⟨.int .u8 x.a,.no⟩,⟨.int .u8 x.b,.no⟩,⟨.int .u8 x.c,.no⟩,⟨.sl x.pn (x.parts.map prtC),.no⟩]/\(s.env 4).v=.int .i64 i/\(s.env 3).v=.sl (idl x.a i).isEmpty ((idl x.a i).map q8s)/\(idl x.a i=[]/\(s.env 3).a=.ex\/¬ idl x.a i=[]/\(s.env 3).a=.own 19 3))
  (fun e s=>e=.exit 0/\(s.env 3).v=.sl (idl x.a 6).isEmpty ((idl x.a 6).map q8s)/\(idl x.a 6=[]/\(s.env 3).a=.ex\/¬ idl x.a 6=[]/\(s.env 3).a=.own 19 3)) (fun i hi s k h ih hk=>?_) _ _ ?_ (fun e s h=>?_)
 ·obtain ⟨e1,m1,e4,e3,an⟩:=h;refine q02 ?_;by_cases fa:i<6
  ·have ga:(i:Int)<6:=by omega
   have dJ:shN .u8 i=i:=by simp [shN,IntKind.bits]; omega
   have hy:x.a.fdiv (2 ^ i)=x.a / 2 ^ i:=Int.fdiv_eq_ediv_of_nonneg _ (Int.pow_nonneg (by omega));have ai:0<=x.a / 2 ^ i:=Int.ediv_nonneg wN (Int.pow_nonneg (by omega));have hm:(x.a / 2 ^ i).tmod 2=x.a / 2 ^ i % 2:=yy ai;have og:=q0s (i:=i);have hl:=idl_len x.a i;have ba:q0G 8 ((idl x.a i).length + 1)=true:=by rw [q0d]; omega
   have zd:=els_int (idl x.a i);have dj:idl x.a (i + 1)=idl x.a i++if bitZ x.a i then [((i + 1:Nat):Int)] else []:=rfl
   have hb:bitZ x.a i=decide (x.a / 2 ^ i % 2=1):=rfl;generalize hI:idl x.a i=L at *
   generalize hJ:idl x.a (i + 1)=L' at *
   generalize x.a / 2 ^ i=y at *
   by_cases c:y % 2=1
   ·rcases an with ⟨a0,a3⟩ | ⟨a0,a3⟩
    ·subst a0;have df:q0G 8 1=true:=by rw [q0d]; omega
     simp [q3S,-V,-y3,-y0,J,e1,m1,e4,e3,a3,ga,dJ,hy,hm,og,c,df];refine ih fa _ ⟨?_,?_,?_,?_,?_⟩ <;> simp [e1,m1,dj,hb,c,q8s,An.strip]
    ·have cO:L.isEmpty=false:=by
      cases L with
      | nil=>exact absurd rfl a0
      | cons=>rfl
     rw [cO] at e3;simp [q3S,-V,-y3,-y0,J,e1,m1,e4,e3,a0,a3,ga,dJ,hy,hm,og,c,ba,zd];refine ih fa _ ⟨?_,?_,?_,?_,?_⟩ <;> simp [e1,m1,dj,hb,c,q8s,An.strip]
   ·simp [q3S,-V,-y3,-y0,J,e1,m1,e4,e3,ga,dJ,hy,hm,og,c];refine ih fa _ ⟨?_,?_,?_,?_,?_⟩ <;> simp [e1,m1,e3,an,dj,hb,c,q8s,An.strip]
  ·have pO:i=6:=by omega
   subst pO;simp [q3S,-V,-y3,-y0,J,e4];exact hk _ _ ⟨rfl,by simpa using e3,by simpa using an⟩
 ·simp [idl]
 ·obtain ⟨rfl,e3,an⟩:=h;have hl:=idl_len x.a 6;generalize hI:idl x.a 6=L at *
  rcases an with ⟨a0,a3⟩ | ⟨a0,a3⟩
  ·subst a0;have df:q0G 8 1=true:=by rw [q0d]; omega
   simp [-V,-y3,-y0,J,e3,a3,df,idsZ,hI,q8s]
  ·simp [-V,-y3,-y0,J,e3,a3,a0,idsZ,hI]
def kdAt (l:List Nde) (z:Int):Int:=match l[z.toNat]? with
 | some x=>x.kind
 | none=>0
def oks (l:List Nde):Prop:=1<=l.length/\l.length<=5/\∀ x∈l,x.ok
theorem q5a {dn:Bool} {l:List Nde} (hl:oks l) {z:Int} (h0:0<=z) (h1:z<l.length):evA 87 [.agg (dftC dn l),.int .i64 z] (.int .i64 (kdAt l z)):=by
 have fa:z.toNat<l.length:=by omega
 have g:l[z.toNat]?=some l[z.toNat]:=y5 fa;have:=kind_ev dn l z _ h0 g (hl.2.2 _ (y6 fa));rw [kdAt,g];exact this
theorem kdAt_rng {l:List Nde} (hl:oks l) {z:Int} (h0:0<=z) (h1:z<l.length):1<=kdAt l z/\kdAt l z<=9:=by
 have fa:z.toNat<l.length:=by omega
 have g:l[z.toNat]?=some l[z.toNat]:=y5 fa;rw [kdAt,g];exact kind_rng (hl.2.2 _ (y6 fa))
def isKey (k:Int):Bool:=decide (1<=k/\k<=4)
def q4h (l:List Nde) (code:Int):Nat->Nat->Int
 | 0,_=>-1
 | n + 1,k=>if isKey (kdAt l ((code + k) % l.length))=true then (code + k) % l.length else q4h l code n (k + 1)
def keyZ (l:List Nde) (code:Int):Int:=q4h l code l.length 0
theorem q9d {l:List Nde} (hl:oks l) (code:Int):∀ n k,-1<=q4h l code n k/\q4h l code n k<l.length
 | 0,k=>by have:=hl.1; simp only [q4h]; omega
 | n + 1,k=>by
  have hp:=hl.1;have h1:=yJ (code + k) (b:=(l.length:Int)) (by omega);have h2:=yM (code + k) (b:=(l.length:Int)) (by omega);have:=q9d hl code n (k + 1);simp only [q4h];split <;> omega
theorem key_ev (dn:Bool) (l:List Nde) (hl:oks l) (code:Int) (hc:u8 code):evA 93 [.agg (dftC dn l),.int .u8 code] (.int .i64 (keyZ l code)):=by
 refine q00 (c:=q7J) rfl rfl ?_;obtain ⟨bC,zp⟩:=hc;have hN:=hl.1;have wA:=hl.2.1;have ub:=fun z h0 h1=>q5a (dn:=dn) hl (z:=z) h0 h1
 simp only [evA,dftC] at ub ⊢;simp [q7J,-V,-y3,-y0,J];refine q06 l.length (fun i s=>(s.env 2).v=.ptr 2 1 0/\s.mem 2 1=some [⟨.sl dn (l.map ndeC),.no⟩]/\(s.env 1).v=.int .u8 code/\(s.env 5).v=.int .i64 l.length/\(s.env 6).v=.int .i64 i/\q4h l code (l.length - i) i=keyZ l code)
  (fun e s=>(e=.exit 0/\keyZ l code=-1)\/(e=.ret/\(s.env 4).v=.int .i64 (keyZ l code))) (fun i hi s k h ih hk=>?_) _ _ ?_ (fun e s h=>?_)
 ·obtain ⟨e2,m2,e1,e5,e6,hs⟩:=h;refine q02 ?_;by_cases fa:i<l.length
  ·have ga:(i:Int)<l.length:=by omega
   have og:=q0s (i:=i);have ck:IntKind.i64.wrap code=code:=IntWalk.i64_in _ (by omega);have dE:IntKind.i64.wrap (code + i)=code + i:=IntWalk.i64_in _ (by omega);have hm:(code + (i:Int)).tmod l.length=(code + i) % l.length:=yy (by omega);have gc:=yJ (code + i) (b:=(l.length:Int)) (by omega);have mo:=yM (code + i) (b:=(l.length:Int)) (by omega);have wo:¬ (l.length:Int)=0:=by omega
   have sb:=ub _ gc mo;rw [show l.length - i=l.length - (i + 1) + 1 from by omega,q4h] at hs;generalize (code + (i:Int)) % l.length=z at *
   have bc:=keykind_ev (kdAt l z);rw [show decide (1<=kdAt l z/\kdAt l z<=4)=isKey (kdAt l z) from rfl] at bc;obtain ⟨N,si⟩:∃ N:Int,N=l.length:=⟨_,rfl⟩;rw [<- si] at e5 ga hm wo;cases hb:isKey (kdAt l z) with
   | true =>
    rw [hb] at bc;rw [if_pos hb] at hs;simp [q5g,-V,-y3,-y0,J,e2,m2,e1,e5,e6,ga,ck,dE,hm,wo,sb,bc];exact hk _ _ (.inr ⟨rfl,by simp [hs]⟩)
   | false =>
    rw [hb] at bc;rw [hb,if_neg (by decide)] at hs;simp [q5g,-V,-y3,-y0,J,e2,m2,e1,e5,e6,ga,ck,dE,hm,wo,sb,bc,og];refine ih fa _ ⟨?_,?_,?_,?_,?_,hs⟩ <;> simp [e2,m2,e1,e5,si]
  ·have ga:¬ (i:Int)<l.length:=by omega
   simp [q5g,-V,-y3,-y0,J,e5,e6,ga];refine hk _ _ (.inl ⟨rfl,?_⟩);rw [<- hs,show l.length - i=0 from by omega,q4h]
 ·simp [keyZ]
 ·rcases h with ⟨rfl,h1⟩ | ⟨rfl,h1⟩ <;> simp [-V,-y3,-y0,J,h1]
def q3O (l:List Nde):Nat->Nat->Int
 | 0,_=>-1
 | n + 1,k=>if 7<=kdAt l k then k else q3O l n (k + 1)
def tgtZ (l:List Nde) (i code:Int):Int:=if 7<=kdAt l (code % l.length)\/code % l.length<i then code % l.length else if 0<i then code % l.length % i else q3O l l.length 0
theorem holFrom_rng {l:List Nde} (hl:oks l):∀ n k,n + k<=l.length->-1<=q3O l n k/\q3O l n k<l.length
 | 0,k,_=>by have:=hl.1; simp only [q3O]; omega
 | n + 1,k,h=>by
  have:=holFrom_rng hl n (k + 1) (by omega);simp only [q3O];split <;> omega
theorem qah {l:List Nde} (hl:oks l) (i code:Int) (hi:i<l.length):-1<=tgtZ l i code/\tgtZ l i code<l.length:=by
 have hp:=hl.1;have h1:=yJ code (b:=(l.length:Int)) (by omega);have h2:=yM code (b:=(l.length:Int)) (by omega);have h3:=holFrom_rng hl l.length 0 (by omega);simp only [tgtZ];split
 ·omega
 ·split
  ·rename_i h;have h4:=yJ (code % l.length) (b:=i) (by omega);have h5:=yM (code % l.length) h;omega
  ·exact h3
theorem target_ev (dn:Bool) (l:List Nde) (hl:oks l) (i0:Int) (bh:0<=i0) (pf:i0<l.length) (code:Int) (hc:u8 code):evA 141 [.agg (dftC dn l),.int .i64 i0,.int .u8 code] (.int .i64 (tgtZ l i0 code)):=by
 refine q00 (c:=q2E) rfl rfl ?_;obtain ⟨bC,zp⟩:=hc;have hN:=hl.1;have wA:=hl.2.1;have ub:=fun z h0 h1=>q5a (dn:=dn) hl (z:=z) h0 h1
 simp only [evA,dftC] at ub ⊢;have gc:=yJ code (b:=(l.length:Int)) (by omega);have mo:=yM code (b:=(l.length:Int)) (by omega);have ck:IntKind.i64.wrap code=code:=IntWalk.i64_in _ (by omega);have hm:code.tmod l.length=code % l.length:=yy (by omega);have wo:¬ (l.length:Int)=0:=by omega
 have pg:¬ l=[]:=by intro e; rw [e] at hN; simp at hN
 have sb:=ub _ gc mo;unfold tgtZ;generalize code % (l.length:Int)=z at *
 have hh:=hollow_ev (kdAt l z);have iF:0<i0->z.tmod i0=z % i0:=fun _=>yy gc
 by_cases c1:7<=kdAt l z
 ·simp [q2E,-V,-y3,-y0,J,ck,hm,pg,sb,hh,c1]
 ·rw [decide_eq_false c1] at hh;by_cases c2:z<i0
  ·simp [q2E,-V,-y3,-y0,J,ck,hm,pg,sb,hh,c1,c2]
  ·by_cases c3:0<i0
   ·simp [q2E,-V,-y3,-y0,J,ck,hm,pg,sb,hh,c1,c2,c3,iF c3,show ¬ i0=0 from by omega]
   ·simp [q2E,-V,-y3,-y0,J,ck,hm,pg,sb,hh,c1,c2,c3];clear sb hh c1 c2;refine q06 l.length (fun i s=>(s.env 3).v=.ptr 3 1 0/\s.mem 3 1=some [⟨.sl dn (l.map ndeC),.no⟩]/\(s.env 7).v=.int .i64 l.length/\(s.env 9).v=.int .i64 i/\q3O l (l.length - i) i=q3O l l.length 0)
     (fun e s=>(e=.exit 0/\q3O l l.length 0=-1)\/(e=.ret/\(s.env 6).v=.int .i64 (q3O l l.length 0))) (fun i hi s k h ih hk=>?_) _ _ ?_ (fun e s h=>?_)
    ·obtain ⟨e3,m3,e7,e9,hs⟩:=h;refine q02 ?_;by_cases fa:i<l.length
     ·have ga:(i:Int)<l.length:=by omega
      have og:=q0s (i:=i);have sb:=ub i (by omega) ga;rw [show l.length - i=l.length - (i + 1) + 1 from by omega,q3O] at hs;have hh:=hollow_ev (kdAt l i);by_cases hb:7<=kdAt l i
      ·rw [decide_eq_true hb] at hh;rw [if_pos hb] at hs;simp [q3K,-V,-y3,-y0,J,e3,m3,e7,e9,fa,sb,hh];exact hk _ _ (.inr ⟨rfl,by simp [hs]⟩)
      ·rw [decide_eq_false hb] at hh;rw [if_neg hb] at hs;simp [q3K,-V,-y3,-y0,J,e3,m3,e7,e9,fa,sb,hh,og];refine ih fa _ ⟨?_,?_,?_,?_,hs⟩ <;> simp [e3,m3,e7]
     ·have ga:¬ (i:Int)<l.length:=by omega
      simp [q3K,-V,-y3,-y0,J,e7,e9,fa];refine hk _ _ (.inl ⟨rfl,?_⟩);rw [<- hs,show l.length - i=0 from by omega,q3O]
    ·simp
    ·rcases h with ⟨rfl,h1⟩ | ⟨rfl,h1⟩ <;> simp [-V,-y3,-y0,J,h1]
section
set_option maxHeartbeats 2000000
def Vl.of (k:Int) (b:Bool) (i:Int) (s:ByteArray) (d:Int):Vl:=.mk k b i s d true [] true [] true []
theorem q0q (k:Int) (b:Bool) (i:Int) (s:ByteArray) (d:Int):valC (.of k b i s d)=[.int .i64 k,.bool b,.int .i64 i,.str s,.int .i64 d,.sl true [],.sl true [],.sl true []]:=by
 rw [q04];rfl
def ndAt (l:List Nde) (z:Int):Nde:=match l[z.toNat]? with
 | some x=>x
 | none=>⟨0,0,0,0,true,[]⟩
def inK (l:List Nde) (t:Int):Int:=if kdAt l t=8/\keyZ l 0<0 then 7 else kdAt l t
def idAt (a code:Int):Int:=(idsZ a)[(code % (idsZ a).length).toNat]?.getD 0
def q84 (l:List Nde) (t code:Int):Vl × Bool :=
 if kdAt l t=5\/kdAt l t=6 then (.of 0 false 0 ⟨#[]⟩ 0,false) else
 (.of (inK l t) (decide (kdAt l t=1/\code % 2=1)) (if kdAt l t=2 then (ndAt l t).low + code % ((ndAt l t).b % 6 + 1) else 0) (if kdAt l t=3/\0<(ndAt l t).a % 4/\code % 2=1 then ⟨#[97]⟩ else ⟨#[]⟩) (if kdAt l t=4 then idAt (ndAt l t).a code else 0),true)
theorem qbM (a:Int):1<=(idsZ a).length/\(idsZ a).length<=6:=by
 have:=idl_len a 6;unfold idsZ;split
 ·simp
 ·rename_i h;refine ⟨?_,this⟩;cases h2:idl a 6 with
  | nil=>exact absurd h2 h
  | cons=>simp
theorem initial_ev (dn:Bool) (l:List Nde) (hl:oks l) (t:Int) (nb:0<=t) (gb:t<l.length) (code:Int) (hc:u8 code):evA 142 [.agg (dftC dn l),.int .i64 t,.int .u8 code] (.tup [.agg (valC (q84 l t code).1),.bool (q84 l t code).2]):=by
 refine q00 (c:=q0M) rfl rfl ?_;have ub:=q5a (dn:=dn) hl nb gb;have uu:=kdAt_rng hl nb gb;have bc:=key_ev dn l hl 0 ⟨by omega,by omega⟩;have fa:t.toNat<l.length:=by omega
 have g:l[t.toNat]?=some l[t.toNat]:=y5 fa;have hx:(ndAt l t).ok:=by rw [ndAt,g]; exact hl.2.2 _ (y6 fa)
 have gm:(l.map ndeC)[t.toNat]?=some (ndeC (ndAt l t)):=by rw [ndAt,g]; simp [g]
 obtain ⟨bC,zp⟩:=hc;unfold q84 inK;generalize ndAt l t=x at *
 generalize kdAt l t=kk at *
 have se:=low_ev x hx;have gl:=high_ev x hx;have wg:=ids7_ev x hx;have xK:-3<=x.low/\x.low<=3:=by have:=hx.2.1; simp only [Nde.low,u8] at *; omega
 have hhr:x.low<=x.high/\x.high<=x.low + 5:=by have:=hx.2.2.1; simp only [Nde.high,u8] at *; omega
 have hd:x.high - x.low + 1=x.b % 6 + 1:=by simp only [Nde.high]; omega
 have ck:IntKind.i64.wrap code=code:=IntWalk.i64_in _ (by omega);have eQ:IntKind.i64.wrap (x.high - x.low)=x.high - x.low:=IntWalk.i64_in _ (by omega);have lJ:IntKind.i64.wrap (x.high - x.low + 1)=x.high - x.low + 1:=IntWalk.i64_in _ (by omega);have hm:code.tmod (x.high - x.low + 1)=code % (x.b % 6 + 1):=by rw [hd]; exact yy bC
 have zK:=yJ code (b:=x.b % 6 + 1) (by omega);have bm:=yM code (b:=x.b % 6 + 1) (by omega);have gQ:IntKind.i64.wrap (x.low + code % (x.b % 6 + 1))=x.low + code % (x.b % 6 + 1):=IntWalk.i64_in _ (by omega);have oa:¬ x.high - x.low + 1=0:=by omega
 have nh:code.tmod 2=code % 2:=yy bC;have kv:x.a.tmod 4=x.a % 4:=yy hx.2.1.1;simp only [evA,dftC,ndeC] at ub bc gm se gl wg ⊢;have hk:kk=1\/kk=2\/kk=3\/kk=4\/kk=5\/kk=6\/kk=7\/kk=8\/kk=9:=by omega
 rcases hk with rfl | rfl | rfl | rfl | rfl | rfl | rfl | rfl | rfl
 ·simp [q0M,-V,-y3,-y0,J,gm,nb,ub,nh,q0q]
 ·generalize code % (x.b % 6 + 1)=y at *
  simp [q0M,-V,-y3,-y0,J,gm,nb,ub,q0q,se,gl,ck,eQ,lJ,hm,oa,gQ]
 ·by_cases c1:0<x.a % 4 <;> by_cases c2:code % 2=1 <;> simp [q0M,-V,-y3,-y0,J,gm,nb,ub,nh,kv,c1,c2,q0q]
 ·have zf:=qbM x.a;have iF:code.tmod (idsZ x.a).length=code % (idsZ x.a).length:=yy bC;have gc:=yJ code (b:=((idsZ x.a).length:Int)) (by omega);have mo:=yM code (b:=((idsZ x.a).length:Int)) (by omega);have pg:¬ ((idsZ x.a).length:Int)=0:=by omega
  unfold idAt;generalize code % ((idsZ x.a).length:Int)=z at *
  have gz:(idsZ x.a)[z.toNat]?=some (idsZ x.a)[z.toNat]:=y5 (by omega);have gi:((idsZ x.a).map q8s)[z.toNat]?=some [.int .i64 (idsZ x.a)[z.toNat]]:=by rw [yc,gz]; rfl
  rw [gz];generalize (idsZ x.a)[z.toNat]=y at *
  have bB:((idsZ x.a).map q8s).length=(idsZ x.a).length:=by simp
  generalize (idsZ x.a).map q8s=M at *
  obtain ⟨N,hN⟩:∃ N:Int,N=(idsZ x.a).length:=⟨_,rfl⟩;rw [<- hN] at iF pg;simp [q0M,-V,-y3,-y0,J,gm,nb,ub,q0q,wg,ck,bB,<- hN,iF,pg,gc,gi]
 ·simp [q0M,-V,-y3,-y0,J,gm,nb,ub,q0q]
 ·simp [q0M,-V,-y3,-y0,J,gm,nb,ub,q0q]
 ·simp [q0M,-V,-y3,-y0,J,gm,nb,ub,q0q]
 ·by_cases c1:keyZ l 0<0 <;> simp [q0M,-V,-y3,-y0,J,gm,nb,ub,bc,c1,q0q]
 ·simp [q0M,-V,-y3,-y0,J,gm,nb,ub,q0q]
end
def low0 (m:Nat) (v:AV):Prop:=∀ t n,m<=n->v.kill0 t n=v
def lowV (m:Nat) (v:AV):Prop:=∀ t n,m<=n->v.kill t n=v
theorem q5z {m m':Nat} (h:m<=m') {v:AV} (hv:lowV m v):lowV m' v:=fun t n hn=>hv t n (Nat.le_trans h hn)
theorem low0_ptr {m t n o:Nat} (h:n<m):low0 m (.ptr t n o):=fun t' n' h'=>by simp only [AV.kill0]; rw [if_neg (by omega)]
theorem low0_ref {m t n z o l c:Nat} (h:n<m):low0 m (.ref t n z o l c):=fun t' n' h'=>by simp only [AV.kill0]; rw [if_neg (by omega)]
theorem q9X {m:Nat} {v:AV} (h:v.free0=true):low0 m v:=fun t n _=>kill0_free h t n
theorem q8w {m:Nat} {v:AV} (h:v.free=true):lowV m v:=fun t n _=>kill_free h t n
theorem lowV_of {m:Nat} {v:AV} (h:low0 m v):(v.leaf=true)->lowV m v:=fun hl t n hn=>by
 have:=h t n hn;cases v <;> first | exact this | (simp [AV.leaf] at hl; done)
theorem lowV_agg {m:Nat} {cs:List AV} (h:∀ c∈cs,low0 m c):lowV m (.agg cs):=fun t n hn=>by
 have:cs.map (AV.kill0 t n)=cs.map id:=yl fun c hc=>h c hc t n hn
 rw [List.map_id] at this;exact congrArg AV.agg this
theorem q1H {m t n o:Nat} (h:n<m):lowV m (.ptr t n o):=low0_ptr h
theorem q9Y {m t n z o l c:Nat} (h:n<m):lowV m (.ref t n z o l c):=low0_ref h
theorem lowV_kill {m t n:Nat} (hn:m<=n) {v:AV} (hv:lowV m v):v.kill t n=v:=hv t n hn
theorem kill0_comm (v:AV) (t n t' n':Nat):(v.kill0 t n).kill0 t' n'=(v.kill0 t' n').kill0 t n:=by
 cases v with
 | ptr a b o=>by_cases h1:(a=t/\b=n) <;> by_cases h2:(a=t'/\b=n') <;> first | (simp only [AV.kill0,if_pos h1,if_pos h2]; done) | (simp only [AV.kill0,if_pos h1,if_neg h2]; done) | (simp only [AV.kill0,if_neg h1,if_pos h2]; done) | (simp only [AV.kill0,if_neg h1,if_neg h2]; done)
 | ref a b z o l c=>by_cases h1:(a=t/\b=n) <;> by_cases h2:(a=t'/\b=n') <;> first | (simp only [AV.kill0,if_pos h1,if_pos h2]; done) | (simp only [AV.kill0,if_pos h1,if_neg h2]; done) | (simp only [AV.kill0,if_neg h1,if_pos h2]; done) | (simp only [AV.kill0,if_neg h1,if_neg h2]; done)
 | mp a b=>by_cases h1:(a=t/\b=n) <;> by_cases h2:(a=t'/\b=n') <;> first | (simp only [AV.kill0,if_pos h1,if_pos h2]; done) | (simp only [AV.kill0,if_pos h1,if_neg h2]; done) | (simp only [AV.kill0,if_neg h1,if_pos h2]; done) | (simp only [AV.kill0,if_neg h1,if_neg h2]; done)
 | _=>rfl
theorem q9e (l:List AV) (t n t' n':Nat):(l.map (AV.kill0 t n)).map (AV.kill0 t' n')=(l.map (AV.kill0 t' n')).map (AV.kill0 t n):=by
 rw [y0,y0];exact yl fun x _=>kill0_comm x t n t' n'
theorem kill1_comm (v:AV) (t n t' n':Nat):(v.kill1 t n).kill1 t' n'=(v.kill1 t' n').kill1 t n:=by
 cases v with
 | agg cs=>exact congrArg AV.agg (q9e cs t n t' n')
 | ptr a b o=>by_cases h1:(a=t/\b=n) <;> by_cases h2:(a=t'/\b=n') <;> first | (simp only [AV.kill1,AV.kill0,if_pos h1,if_pos h2]; done) | (simp only [AV.kill1,AV.kill0,if_pos h1,if_neg h2]; done) | (simp only [AV.kill1,AV.kill0,if_neg h1,if_pos h2]; done) | (simp only [AV.kill1,AV.kill0,if_neg h1,if_neg h2]; done)
 | ref a b z o l c=>by_cases h1:(a=t/\b=n) <;> by_cases h2:(a=t'/\b=n') <;> first | (simp only [AV.kill1,AV.kill0,if_pos h1,if_pos h2]; done) | (simp only [AV.kill1,AV.kill0,if_pos h1,if_neg h2]; done) | (simp only [AV.kill1,AV.kill0,if_neg h1,if_pos h2]; done) | (simp only [AV.kill1,AV.kill0,if_neg h1,if_neg h2]; done)
 | mp a b=>by_cases h1:(a=t/\b=n) <;> by_cases h2:(a=t'/\b=n') <;> first | (simp only [AV.kill1,AV.kill0,if_pos h1,if_pos h2]; done) | (simp only [AV.kill1,AV.kill0,if_pos h1,if_neg h2]; done) | (simp only [AV.kill1,AV.kill0,if_neg h1,if_pos h2]; done) | (simp only [AV.kill1,AV.kill0,if_neg h1,if_neg h2]; done)
 | _=>rfl
theorem kill_comm (v:AV) (t n t' n':Nat):(v.kill t n).kill t' n'=(v.kill t' n').kill t n:=by
 cases v with
 | agg cs=>exact congrArg AV.agg (q9e cs t n t' n')
 | fn f cs=>exact congrArg (AV.fn f) (q9e cs t n t' n')
 | tup vs =>
  refine congrArg AV.tup ?_;rw [y0,y0];exact yl fun x _=>kill1_comm x t n t' n'
 | ptr a b o=>by_cases h1:(a=t/\b=n) <;> by_cases h2:(a=t'/\b=n') <;> first | (simp only [AV.kill,AV.kill0,if_pos h1,if_pos h2]; done) | (simp only [AV.kill,AV.kill0,if_pos h1,if_neg h2]; done) | (simp only [AV.kill,AV.kill0,if_neg h1,if_pos h2]; done) | (simp only [AV.kill,AV.kill0,if_neg h1,if_neg h2]; done)
 | ref a b z o l c=>by_cases h1:(a=t/\b=n) <;> by_cases h2:(a=t'/\b=n') <;> first | (simp only [AV.kill,AV.kill0,if_pos h1,if_pos h2]; done) | (simp only [AV.kill,AV.kill0,if_pos h1,if_neg h2]; done) | (simp only [AV.kill,AV.kill0,if_neg h1,if_pos h2]; done) | (simp only [AV.kill,AV.kill0,if_neg h1,if_neg h2]; done)
 | mp a b=>by_cases h1:(a=t/\b=n) <;> by_cases h2:(a=t'/\b=n') <;> first | (simp only [AV.kill,AV.kill0,if_pos h1,if_pos h2]; done) | (simp only [AV.kill,AV.kill0,if_pos h1,if_neg h2]; done) | (simp only [AV.kill,AV.kill0,if_neg h1,if_pos h2]; done) | (simp only [AV.kill,AV.kill0,if_neg h1,if_neg h2]; done)
 | _=>rfl
theorem lowV_killed {m t n:Nat} {v:AV} (hv:lowV m v):lowV m (v.kill t n):=fun t' n' h=>by rw [kill_comm,hv t' n' h]
def LowE (m:Nat) (e:Nat->Slot):Prop:=∀ t,lowV m (e t).v
def LowM (m:Nat) (M:Nat->Nat->Option (List Slot)):Prop:=∀ t n r,M t n=some r->∀ x∈r,lowV m x.v
def q28 (m:Nat) (M0 M:Nat->Nat->Option (List Slot)):Prop:=∀ t n,n<m->M t n=M0 t n
theorem LowE.put {m:Nat} {e:Nat->Slot} {d:Nat} {x:Slot} (h:LowE m e) (hx:lowV m x.v):LowE m (putE e d x):=fun t=>by
 rw [q4i];split
 ·exact hx
 ·exact h t
theorem LowE.mono {m m':Nat} (hm:m<=m') {e:Nat->Slot} (h:LowE m e):LowE m' e:=fun t=>q5z hm (h t)
theorem LowE.kill {m:Nat} {e:Nat->Slot} (h:LowE m e) {t n:Nat}:LowE m (killE t n e):=fun j=>by
 rw [q0y,Slot.kill_v];exact lowV_killed (h j)
theorem LowE.same {m:Nat} {e:Nat->Slot} (h:LowE m e) {t n:Nat} (hn:m<=n):killE t n e=e:=funext fun j=>by
 rw [q0y];show (⟨(e j).v.kill t n,(e j).a⟩:Slot)=e j;rw [lowV_kill hn (h j)]
theorem LowM.set {m:Nat} {M:Nat->Nat->Option (List Slot)} {t n:Nat} {r:List Slot} (h:LowM m M) (hr:∀ x∈r,lowV m x.v):LowM m (setM M t n r):=fun t' n' r' he=>by
 rw [q0B] at he;split at he
 ·injection he with he; subst he; exact hr
 ·exact h t' n' r' he
theorem LowM.mono {m m':Nat} (hm:m<=m') {M:Nat->Nat->Option (List Slot)} (h:LowM m M):LowM m' M:=fun t n r he x hx=>q5z hm (h t n r he x hx)
theorem LowM.kill {m:Nat} {M:Nat->Nat->Option (List Slot)} (h:LowM m M) {t n:Nat}:LowM m (killM t n M):=fun t' n' r' he x hx=>by
 rw [q0D] at he;split at he
 ·cases he
 ·obtain ⟨r,hr,rfl⟩:=yg.1 he;obtain ⟨y,hy,rfl⟩:=yw.1 hx;rw [Slot.kill_v];exact lowV_killed (h t' n' r hr y hy)
theorem q28.refl {m:Nat} {M:Nat->Nat->Option (List Slot)}:q28 m M M:=fun _ _ _=>rfl
theorem q28.set {m:Nat} {M0 M:Nat->Nat->Option (List Slot)} {t n:Nat} {r:List Slot} (h:q28 m M0 M) (hn:m<=n):q28 m M0 (setM M t n r):=fun t' n' h'=>by
 rw [q0B,if_neg (by omega)];exact h t' n' h'
theorem q28.kill {m:Nat} {M0 M:Nat->Nat->Option (List Slot)} (h:q28 m M0 M) (h0:LowM m M0) {t n:Nat} (hn:m<=n):q28 m M0 (killM t n M):=fun t' n' h'=>by
 rw [q0D,if_neg (by omega),h t' n' h'];cases hr:M0 t' n' with
 | none=>rfl
 | some r =>
  refine congrArg some ?_;have:r.map (Slot.kill t n)=r.map id:=yl fun x hx=>by
   show (⟨x.v.kill t n,x.a⟩:Slot)=x;rw [lowV_kill hn (h0 t' n' r hr x hx)]
  rwa [List.map_id] at this
theorem low_row {m:Nat} {l:List (List AV)} (h:∀ c∈l,∀ v∈c,low0 m v) (h2:∀ c∈l,∀ v∈c,v.leaf=true):∀ x∈q0c l,lowV m x.v:=fun x hx=>by
 obtain ⟨v,hv,rfl⟩:=yw.1 hx;obtain ⟨c,hc,hv⟩:=List.mem_flatten.1 hv;exact lowV_of (h c hc v hv) (h2 c hc v hv)
theorem free0_leaf {v:AV} (h:v.free0=true):v.leaf=true:=by
 cases v <;> first | rfl | (simp [AV.free0] at h; done)
theorem q2A {m:Nat} {l:List (List AV)} (h:q2l l=true):∀ x∈q0c l,lowV m x.v :=
 low_row (fun c hc v hv=>q9X (y4.1 (y4.1 h c hc) v hv)) (fun c hc v hv=>free0_leaf (y4.1 (y4.1 h c hc) v hv))
structure Calm (m:Nat) (s0 s:MSt):Prop where
 mem:q28 m s0.mem s.mem
 gh:s.gh=s0.gh
 obj:s.obj=s0.obj
 next:m<=s.next
 low:LowM s.next s.mem
section
set_option maxHeartbeats 4000000
def qau (id:Int):ByteArray:=⟨#[109]⟩++Utf8.encode (97 + id)
def q7R (l:List Nde) (i id:Int) (p:Prt):Bool:=decide (1 + p.id % 12=id/\0<=tgtZ l i p.ty)
def memZ (l:List Nde) (i:Int) (rc:Bool) (id:Int) (p:Prt):Mem :=
 ⟨id,qau id,tgtZ l i p.ty,rc&&decide (p.flag % 4=1),rc&&decide (2<=p.flag % 4)&&(q84 l (tgtZ l i p.ty) (p.flag / 4)).2,if (rc&&decide (2<=p.flag % 4))=true then (q84 l (tgtZ l i p.ty) (p.flag / 4)).1 else Vl.zero⟩
def memAt (l:List Nde) (i:Int) (rc:Bool) (id:Int) (ps:List Prt):List Mem:=match ps.find? (q7R l i id) with
 | some p=>[memZ l i rc id p]
 | none=>[]
def q6L (l:List Nde) (i:Int) (rc:Bool) (ps:List Prt):Nat->List Mem
 | 0=>[]
 | n + 1=>q6L l i rc ps n++memAt l i rc ((n + 1:Nat):Int) ps
def q3B (l:List Nde) (i:Int) (rc:Bool) (ps:List Prt):List Mem:=q6L l i rc ps 12
theorem memAt_len (l:List Nde) (i:Int) (rc:Bool) (id:Int) (ps:List Prt):(memAt l i rc id ps).length<=1:=by
 unfold memAt;split <;> simp
theorem q7U (l:List Nde) (i:Int) (rc:Bool) (ps:List Prt):∀ n,(q6L l i rc ps n).length<=n
 | 0=>ym _
 | n + 1=>by
  have:=q7U l i rc ps n;have:=memAt_len l i rc ((n + 1:Nat):Int) ps;rw [q6L,yp];omega
def ListI (n0:Nat) (ms:List Mem) (x:Slot) (s:MSt):Prop :=
 (ms=[]/\x.v=.sl true []/\x.a=.ex)\/∃ N,ms≠[]/\n0<=N/\N<s.next/\x.v=.ref 88 N 13 0 ms.length ms.length/\s.mem 88 N=some (q0c (ms.map memC))
structure q80 (n0:Nat) (s0:MSt) (dn:Bool) (l:List Nde) (i0:Int) (rc:Bool) (x:Nde) (id:Int) (ms:List Mem) (s:MSt):Prop where
 e1:(s.env 1).v=.int .i64 i0
 e2:(s.env 2).v=.bool rc
 e3:(s.env 3).v=.ptr 3 n0 0
 m3:s.mem 3 n0=some [⟨.sl dn (l.map ndeC),.no⟩]
 e7:(s.env 7).v=.ptr 7 (n0 + 1) 0
 m7:s.mem 7 (n0 + 1)=some [⟨.int .u8 x.k,.no⟩,⟨.int .u8 x.a,.no⟩,⟨.int .u8 x.b,.no⟩,⟨.int .u8 x.c,.no⟩,⟨.sl x.pn (x.parts.map prtC),.no⟩]
 e9:(s.env 9).v=.int .i64 id
 lst:ListI n0 ms (s.env 8) s
 calm:Calm n0 s0 s
 lt:n0 + 1<s.next
theorem ListI.of {n0:Nat} {ms:List Mem} {x x':Slot} {s s':MSt} (h:ListI n0 ms x s) (hx:x'=x) (hm:∀ N,s'.mem 88 N=s.mem 88 N) (hn:s.next<=s'.next):ListI n0 ms x' s':=by
 subst hx;rcases h with h | ⟨N,h1,h2,h3,h4,h5⟩
 ·exact .inl h
 ·exact .inr ⟨N,h1,h2,Nat.lt_of_lt_of_le h3 hn,h4,(hm N).trans h5⟩
theorem q05 {m:Nat} {r:List Slot} (h:r.all (fun x=>x.v.free)=true:=by simp [AV.free,AV.free0]):∀ x∈r,lowV m x.v:=fun x hx=>q8w (y4.1 h x hx)
theorem enc_size (n:Int):(Utf8.encode n).size<=4:=by
 unfold Utf8.encode;dsimp only;generalize (if Utf8.valid n=true then n.toNat else Utf8.runeError)=c;split
 ·exact (by decide:(1:Nat)<=4)
 ·split
  ·exact (by decide:(2:Nat)<=4)
  ·split
   ·exact (by decide:(3:Nat)<=4)
   ·exact (by decide:(4:Nat)<=4)
theorem i32_in (n:Int) (h:-2147483648<=n/\n<=2147483647):IntKind.i32.wrap n=n:=by
 simp [IntKind.wrap,IntKind.bits,IntKind.signed];omega
theorem parts_in {r:RV} {n0:Nat} {s0:MSt} {dn:Bool} {l:List Nde} (hl:oks l) {i0:Int} (bh:0<=i0) (pf:i0<l.length) {rc:Bool} {x:Nde} (hx:x.ok) (hM:LowM n0 s0.mem) (hG:LowE n0 s0.gh) {id:Int} (hid:1<=id/\id<=12) {ms:List Mem} (sq:ms.length<=12) (s:MSt) (k:Ex->MSt->Option RV) (h:q80 n0 s0 dn l i0 rc x id ms s) (er:(s.env 10).v=.int .i64 0)
  (hk:∀ s',q80 n0 s0 dn l i0 rc x id (ms++memAt l i0 rc id x.parts) s'->k (.exit 2) s'=some r):evL allT q01 q0v s k=some r:=by
 refine q06 x.parts.length (fun j s=>q80 n0 s0 dn l i0 rc x id ms s/\(s.env 10).v=.int .i64 j/\(x.parts.drop j).find? (q7R l i0 id)=x.parts.find? (q7R l i0 id))
  (fun e s=>e=.exit 2/\q80 n0 s0 dn l i0 rc x id (ms++memAt l i0 rc id x.parts) s) (fun j hj s k h ih hk=>?_) s k ⟨h,by simpa using er,rfl⟩ (fun e s h=>by obtain ⟨rfl,h⟩:=h; exact hk s h)
 obtain ⟨⟨e1,e2,e3,m3,e7,m7,e9,lst,calm,lt⟩,e10,hf⟩:=h;have dp:=hx.2.2.2.2.1;refine q02 ?_;by_cases fa:j<x.parts.length
 ·have ga:(j:Int)<x.parts.length:=by omega
  have sx:=q0s (i:=j);have hp:=hx.2.2.2.2.2 _ (y6 fa);have g1:(x.parts.map prtC)[j]?=some (prtC x.parts[j]):=by simp [fa]
  rw [y9 fa,List.find?_cons] at hf;generalize x.parts[j]=p at *
  simp only [prtC] at g1;have du:=target_ev dn l hl i0 bh pf p.ty hp.2.1;have tP:=qah hl i0 p.ty pf;have aq:=fun nb=>initial_ev dn l hl (tgtZ l i0 p.ty) nb tP.2 (p.flag / 4) ⟨by have:=hp.2.2.1; omega,by have:=hp.2.2.2; omega⟩
  simp only [evA,dftC] at du aq;have ci:p.id.tmod 12=p.id % 12:=yy hp.1.1;have om:IntKind.i64.wrap (p.id % 12)=p.id % 12:=IntWalk.i64_in _ (by omega);have xh:IntKind.i64.wrap (1 + p.id % 12)=1 + p.id % 12:=IntWalk.i64_in _ (by omega);have wj:IntKind.i64.wrap id=id:=IntWalk.i64_in _ (by omega);obtain ⟨z,hz⟩:∃ z:Int,z=j:=⟨_,rfl⟩;have gc:0<=z:=by omega
  have tq:IntKind.i64.wrap (z + 1)=((j + 1:Nat):Int):=by rw [hz]; exact sx
  rw [<- hz] at e10 ga;rw [show j=z.toNat from by omega] at g1;have calm':=calm;obtain ⟨cm,cg,co,cn,cl⟩:=calm;have next:∀ s',q80 n0 s0 dn l i0 rc x id ms s'->(s'.env 10).v=.int .i64 ((j + 1:Nat):Int)->q7R l i0 id p=false->evL allT q01 q0v s' k=some r:=fun s' h1 h2 h3=>by
   rw [h3] at hf;exact ih fa s' ⟨h1,h2,hf⟩
  by_cases c1:1 + p.id % 12=id
  ·by_cases c2:tgtZ l i0 p.ty<0
   ·have mt:q7R l i0 id p=false:=by simp [q7R,c1]; omega
    simp [q0v,-V,-y3,-y0,J,e1,e2,e3,m3,e7,m7,e9,e10,ga,g1,gc,du,ci,om,xh,c1,c2,tq,wj];refine next _ ⟨?_,?_,?_,?_,?_,?_,?_,lst.of ?_ ?_ ?_,⟨?_,?_,?_,?_,?_⟩,?_⟩ ?_ mt
    ·simp [e1]
    ·simp [e2]
    ·simp [e3]
    ·simp [q0B,m3]
    ·simp [e7]
    ·simp [q0B,m7]
    ·simp [e9]
    ·simp
    ·intro N; simp [q0B]
    ·simp only; omega
    ·exact (cm.set (by omega)).set (by omega)
    ·exact cg
    ·exact co
    ·simp only; omega
    ·exact ((cl.mono (by dsimp only; omega)).set q05).set q05
    ·simp only; omega
    ·simp
   ·have tO:q7R l i0 id p=true:=by simp [q7R,c1]; omega
    rw [tO] at hf;have sj:memAt l i0 rc id x.parts=[memZ l i0 rc id p]:=by rw [memAt,<- hf]
    rw [sj] at hk;have aq:=aq (by omega);have lB:p.flag.tmod 4=p.flag % 4:=yy hp.2.2.1;have jL:p.flag.tdiv 4=p.flag / 4:=Int.tdiv_eq_ediv_of_nonneg hp.2.2.1;have zu:IntKind.u8.wrap (p.flag / 4)=p.flag / 4:=by have:=hp.2.2.1; have:=hp.2.2.2; simp [IntKind.wrap,IntKind.bits,IntKind.signed]; omega
    have lq:IntKind.i64.wrap (97 + id)=97 + id:=IntWalk.i64_in _ (by omega);have gv:IntKind.i32.wrap (97 + id)=97 + id:=i32_in _ (by omega);have az:=enc_size (97 + id);have ic:(⟨#[109]⟩:ByteArray).size=1:=rfl;have jb:(⟨#[109]⟩:ByteArray).size + (Utf8.encode (97 + id)).size<=9223372036854775807:=by omega
    unfold memZ qau at hk;generalize hE:Utf8.encode (97 + id)=nm at *
    generalize q84 l (tgtZ l i0 p.ty) (p.flag / 4)=iz at *
    obtain ⟨iv,ib⟩:=iz;simp only [q04] at aq;generalize tgtZ l i0 p.ty=t at *
    rcases lst with ⟨lm,l1,l2⟩ | ⟨N,lm,l1,l2,l3,l4⟩
    ·subst lm;have ba:q0G 160 1=true:=by rw [q0d]; omega
     cases rc with
     | false =>
      simp [q0v,-V,-y3,-y0,J,e1,e2,e3,m3,e7,m7,e9,e10,ga,g1,gc,du,ci,om,xh,c1,c2,wj,lq,gv,hE,jb,l1,ba,l2];refine hk _ _ ⟨rfl,?_,?_,?_,?_,?_,?_,?_,.inr ⟨s.next + 1 + 1 + 1 + 1 + 1 + 1 + 1,?_,?_,?_,?_,?_⟩,⟨?_,?_,?_,?_,?_⟩,?_⟩
      ·simp [e1]
      ·simp [e2]
      ·simp [e3]
      ·simp [q0B,m3]
      ·simp [e7]
      ·simp [q0B,m7]
      ·simp [e9]
      ·simp
      ·omega
      ·dsimp only; omega
      ·simp
      ·simp [q0B,memC,Vl.zero,Vl.kind,Vl.b,Vl.i,Vl.s,Vl.id,Vl.kn,Vl.keys,Vl.xn,Vl.items,Vl.rn,Vl.rest]
      ·repeat (first | exact cm | refine q28.set ?_ (by omega) | refine q28.kill ?_ hM (by omega))
      ·exact cg
      ·exact co
      ·dsimp only; omega
      ·exact (((((cl.mono (by dsimp only; omega)).set q05).set q05).set q05).set q05).set (q2A (by simp [q2l,AV.free0,memC]))
      ·dsimp only; omega
     | true =>
      by_cases f1:p.flag % 4=1
      ·simp [q0v,-V,-y3,-y0,J,e1,e2,e3,m3,e7,m7,e9,e10,ga,g1,gc,du,ci,om,xh,c1,c2,wj,lq,gv,hE,jb,l1,ba,l2,lB,f1];refine hk _ _ ⟨rfl,?_,?_,?_,?_,?_,?_,?_,.inr ⟨s.next + 1 + 1 + 1 + 1 + 1 + 1 + 1 + 1,?_,?_,?_,?_,?_⟩,⟨?_,?_,?_,?_,?_⟩,?_⟩
       ·simp [e1]
       ·simp [e2]
       ·simp [e3]
       ·simp [q0B,m3]
       ·simp [e7]
       ·simp [q0B,m7]
       ·simp [e9]
       ·simp
       ·omega
       ·dsimp only; omega
       ·simp
       ·simp [q0B,memC,Vl.zero,Vl.kind,Vl.b,Vl.i,Vl.s,Vl.id,Vl.kn,Vl.keys,Vl.xn,Vl.items,Vl.rn,Vl.rest,f1]
       ·repeat (first | exact cm | refine q28.set ?_ (by omega) | refine q28.kill ?_ hM (by omega))
       ·exact cg
       ·exact co
       ·dsimp only; omega
       ·exact ((((((cl.mono (by dsimp only; omega)).set q05).set q05).set q05).set q05).set q05).set (q2A (by simp [q2l,AV.free0,memC]))
       ·dsimp only; omega
      ·by_cases f2:2<=p.flag % 4
       ·simp [q0v,-V,-y3,-y0,J,e1,e2,e3,m3,e7,m7,e9,e10,ga,g1,gc,du,ci,om,xh,c1,c2,wj,lq,gv,hE,jb,l1,ba,l2,lB,f1,f2,jL,zu,aq];refine hk _ _ ⟨rfl,?_,?_,?_,?_,?_,?_,?_,.inr ⟨s.next + 1 + 1 + 1 + 1 + 1 + 1 + 1 + 1,?_,?_,?_,?_,?_⟩,⟨?_,?_,?_,?_,?_⟩,?_⟩
        ·simp [e1]
        ·simp [e2]
        ·simp [e3]
        ·simp [q0B,m3]
        ·simp [e7]
        ·simp [q0B,m7]
        ·simp [e9]
        ·simp
        ·omega
        ·dsimp only; omega
        ·simp
        ·simp [q0B,memC,Vl.zero,Vl.kind,Vl.b,Vl.i,Vl.s,Vl.id,Vl.kn,Vl.keys,Vl.xn,Vl.items,Vl.rn,Vl.rest,f1,f2]
        ·repeat (first | exact cm | refine q28.set ?_ (by omega) | refine q28.kill ?_ hM (by omega))
        ·exact cg
        ·exact co
        ·dsimp only; omega
        ·exact (((((((cl.mono (by dsimp only; omega)).set q05).set q05).set q05).set q05).set q05).set q05).set (q2A (by simp [q2l,AV.free0,memC]))
        ·dsimp only; omega
       ·simp [q0v,-V,-y3,-y0,J,e1,e2,e3,m3,e7,m7,e9,e10,ga,g1,gc,du,ci,om,xh,c1,c2,wj,lq,gv,hE,jb,l1,ba,l2,lB,f1,f2];refine hk _ _ ⟨rfl,?_,?_,?_,?_,?_,?_,?_,.inr ⟨s.next + 1 + 1 + 1 + 1 + 1 + 1 + 1,?_,?_,?_,?_,?_⟩,⟨?_,?_,?_,?_,?_⟩,?_⟩
        ·simp [e1]
        ·simp [e2]
        ·simp [e3]
        ·simp [q0B,m3]
        ·simp [e7]
        ·simp [q0B,m7]
        ·simp [e9]
        ·simp
        ·omega
        ·dsimp only; omega
        ·simp
        ·simp [q0B,memC,Vl.zero,Vl.kind,Vl.b,Vl.i,Vl.s,Vl.id,Vl.kn,Vl.keys,Vl.xn,Vl.items,Vl.rn,Vl.rest,f1,f2]
        ·repeat (first | exact cm | refine q28.set ?_ (by omega) | refine q28.kill ?_ hM (by omega))
        ·exact cg
        ·exact co
        ·dsimp only; omega
        ·exact (((((cl.mono (by dsimp only; omega)).set q05).set q05).set q05).set q05).set (q2A (by simp [q2l,AV.free0,memC]))
        ·dsimp only; omega
    ·have bm:(ms.map memC).length=ms.length:=by simp
     have ba:q0G 160 (ms.length + 1)=true:=by rw [q0d]; omega
     have zd:=els_mem ms;have su:q2l (ms.map memC)=true:=q6E memC ms fun m=>by simp [memC,AV.free0]
     have eh:q2R (q0c (ms.map memC)) 13 0 ms.length=some (ms.map memC):=by have:=q50 zd su; rwa [bm] at this
     cases rc with
     | false =>
      simp [q0v,-V,-y3,-y0,J,e1,e2,e3,m3,e7,m7,e9,e10,ga,g1,gc,du,ci,om,xh,c1,c2,wj,lq,gv,hE,jb,l3,ba,l4,eh];refine hk _ _ ⟨rfl,?_,?_,?_,?_,?_,?_,?_,.inr ⟨s.next + 1 + 1 + 1 + 1 + 1 + 1 + 1,?_,?_,?_,?_,?_⟩,⟨?_,?_,?_,?_,?_⟩,?_⟩
      ·simp [q0y,q0D,Slot.kill_v,Slot.kill_mk,AV.kill,AV.kill0,e1]
      ·simp [q0y,q0D,Slot.kill_v,Slot.kill_mk,AV.kill,AV.kill0,e2]
      ·simp [q0y,q0D,Slot.kill_v,Slot.kill_mk,AV.kill,AV.kill0,e3]
      ·simp [q0y,q0D,Slot.kill_v,Slot.kill_mk,AV.kill,AV.kill0,q0B,m3]
      ·simp [q0y,q0D,Slot.kill_v,Slot.kill_mk,AV.kill,AV.kill0,e7]
      ·simp [q0y,q0D,Slot.kill_v,Slot.kill_mk,AV.kill,AV.kill0,q0B,m7]
      ·simp [q0y,q0D,Slot.kill_v,Slot.kill_mk,AV.kill,AV.kill0,e9]
      ·simp
      ·omega
      ·dsimp only; omega
      ·simp
      ·simp [q0B,memC,Vl.zero,Vl.kind,Vl.b,Vl.i,Vl.s,Vl.id,Vl.kn,Vl.keys,Vl.xn,Vl.items,Vl.rn,Vl.rest]
      ·repeat (first | exact cm | refine q28.set ?_ (by omega) | refine q28.kill ?_ hM (by omega))
      ·dsimp only; rw [cg]; exact hG.same (by omega)
      ·exact co
      ·dsimp only; omega
      ·exact ((((((cl.mono (by dsimp only; omega)).set q05).set q05).set q05).set q05).kill).set (q2A (by simp [q2l,AV.free0,memC]))
      ·dsimp only; omega
     | true =>
      by_cases f1:p.flag % 4=1
      ·simp [q0v,-V,-y3,-y0,J,e1,e2,e3,m3,e7,m7,e9,e10,ga,g1,gc,du,ci,om,xh,c1,c2,wj,lq,gv,hE,jb,l3,ba,l4,eh,lB,f1];refine hk _ _ ⟨rfl,?_,?_,?_,?_,?_,?_,?_,.inr ⟨s.next + 1 + 1 + 1 + 1 + 1 + 1 + 1 + 1,?_,?_,?_,?_,?_⟩,⟨?_,?_,?_,?_,?_⟩,?_⟩
       ·simp [q0y,q0D,Slot.kill_v,Slot.kill_mk,AV.kill,AV.kill0,e1]
       ·simp [q0y,q0D,Slot.kill_v,Slot.kill_mk,AV.kill,AV.kill0,e2]
       ·simp [q0y,q0D,Slot.kill_v,Slot.kill_mk,AV.kill,AV.kill0,e3]
       ·simp [q0y,q0D,Slot.kill_v,Slot.kill_mk,AV.kill,AV.kill0,q0B,m3]
       ·simp [q0y,q0D,Slot.kill_v,Slot.kill_mk,AV.kill,AV.kill0,e7]
       ·simp [q0y,q0D,Slot.kill_v,Slot.kill_mk,AV.kill,AV.kill0,q0B,m7]
       ·simp [q0y,q0D,Slot.kill_v,Slot.kill_mk,AV.kill,AV.kill0,e9]
       ·simp
       ·omega
       ·dsimp only; omega
       ·simp
       ·simp [q0B,memC,Vl.zero,Vl.kind,Vl.b,Vl.i,Vl.s,Vl.id,Vl.kn,Vl.keys,Vl.xn,Vl.items,Vl.rn,Vl.rest,f1]
       ·repeat (first | exact cm | refine q28.set ?_ (by omega) | refine q28.kill ?_ hM (by omega))
       ·dsimp only; rw [cg]; exact hG.same (by omega)
       ·exact co
       ·dsimp only; omega
       ·exact (((((((cl.mono (by dsimp only; omega)).set q05).set q05).set q05).set q05).set q05).kill).set (q2A (by simp [q2l,AV.free0,memC]))
       ·dsimp only; omega
      ·by_cases f2:2<=p.flag % 4
       ·simp [q0v,-V,-y3,-y0,J,e1,e2,e3,m3,e7,m7,e9,e10,ga,g1,gc,du,ci,om,xh,c1,c2,wj,lq,gv,hE,jb,l3,ba,l4,eh,lB,f1,f2,jL,zu,aq];refine hk _ _ ⟨rfl,?_,?_,?_,?_,?_,?_,?_,.inr ⟨s.next + 1 + 1 + 1 + 1 + 1 + 1 + 1 + 1,?_,?_,?_,?_,?_⟩,⟨?_,?_,?_,?_,?_⟩,?_⟩
        ·simp [q0y,q0D,Slot.kill_v,Slot.kill_mk,AV.kill,AV.kill0,e1]
        ·simp [q0y,q0D,Slot.kill_v,Slot.kill_mk,AV.kill,AV.kill0,e2]
        ·simp [q0y,q0D,Slot.kill_v,Slot.kill_mk,AV.kill,AV.kill0,e3]
        ·simp [q0y,q0D,Slot.kill_v,Slot.kill_mk,AV.kill,AV.kill0,q0B,m3]
        ·simp [q0y,q0D,Slot.kill_v,Slot.kill_mk,AV.kill,AV.kill0,e7]
        ·simp [q0y,q0D,Slot.kill_v,Slot.kill_mk,AV.kill,AV.kill0,q0B,m7]
        ·simp [q0y,q0D,Slot.kill_v,Slot.kill_mk,AV.kill,AV.kill0,e9]
        ·simp
        ·omega
        ·dsimp only; omega
        ·simp
        ·simp [q0B,memC,Vl.zero,Vl.kind,Vl.b,Vl.i,Vl.s,Vl.id,Vl.kn,Vl.keys,Vl.xn,Vl.items,Vl.rn,Vl.rest,f1,f2]
        ·repeat (first | exact cm | refine q28.set ?_ (by omega) | refine q28.kill ?_ hM (by omega))
        ·dsimp only; rw [cg]; exact hG.same (by omega)
        ·exact co
        ·dsimp only; omega
        ·exact ((((((((cl.mono (by dsimp only; omega)).set q05).set q05).set q05).set q05).set q05).set q05).kill).set (q2A (by simp [q2l,AV.free0,memC]))
        ·dsimp only; omega
       ·simp [q0v,-V,-y3,-y0,J,e1,e2,e3,m3,e7,m7,e9,e10,ga,g1,gc,du,ci,om,xh,c1,c2,wj,lq,gv,hE,jb,l3,ba,l4,eh,lB,f1,f2];refine hk _ _ ⟨rfl,?_,?_,?_,?_,?_,?_,?_,.inr ⟨s.next + 1 + 1 + 1 + 1 + 1 + 1 + 1,?_,?_,?_,?_,?_⟩,⟨?_,?_,?_,?_,?_⟩,?_⟩
        ·simp [q0y,q0D,Slot.kill_v,Slot.kill_mk,AV.kill,AV.kill0,e1]
        ·simp [q0y,q0D,Slot.kill_v,Slot.kill_mk,AV.kill,AV.kill0,e2]
        ·simp [q0y,q0D,Slot.kill_v,Slot.kill_mk,AV.kill,AV.kill0,e3]
        ·simp [q0y,q0D,Slot.kill_v,Slot.kill_mk,AV.kill,AV.kill0,q0B,m3]
        ·simp [q0y,q0D,Slot.kill_v,Slot.kill_mk,AV.kill,AV.kill0,e7]
        ·simp [q0y,q0D,Slot.kill_v,Slot.kill_mk,AV.kill,AV.kill0,q0B,m7]
        ·simp [q0y,q0D,Slot.kill_v,Slot.kill_mk,AV.kill,AV.kill0,e9]
        ·simp
        ·omega
        ·dsimp only; omega
        ·simp
        ·simp [q0B,memC,Vl.zero,Vl.kind,Vl.b,Vl.i,Vl.s,Vl.id,Vl.kn,Vl.keys,Vl.xn,Vl.items,Vl.rn,Vl.rest,f1,f2]
        ·repeat (first | exact cm | refine q28.set ?_ (by omega) | refine q28.kill ?_ hM (by omega))
        ·dsimp only; rw [cg]; exact hG.same (by omega)
        ·exact co
        ·dsimp only; omega
        ·exact ((((((cl.mono (by dsimp only; omega)).set q05).set q05).set q05).set q05).kill).set (q2A (by simp [q2l,AV.free0,memC]))
        ·dsimp only; omega
  ·have mt:q7R l i0 id p=false:=by simp [q7R,c1]
   simp [q0v,-V,-y3,-y0,J,e1,e2,e3,m3,e7,m7,e9,e10,ga,g1,gc,du,ci,om,xh,c1,tq];refine next _ ⟨?_,?_,?_,?_,?_,?_,?_,lst.of ?_ ?_ ?_,⟨?_,?_,?_,?_,?_⟩,?_⟩ ?_ mt
   ·simp [e1]
   ·simp [e2]
   ·simp [e3]
   ·simp [q0B,m3]
   ·simp [e7]
   ·simp [q0B,m7]
   ·simp [e9]
   ·simp
   ·intro N; simp [q0B]
   ·simp only; omega
   ·exact (cm.set (by omega)).set (by omega)
   ·exact cg
   ·exact co
   ·simp only; omega
   ·exact ((cl.mono (by dsimp only; omega)).set q05).set q05
   ·simp only; omega
   ·simp
 ·have ga:¬ (j:Int)<x.parts.length:=by omega
  simp [q0v,-V,-y3,-y0,J,e7,m7,e10,fa];rw [ye (by omega),List.find?_nil] at hf;have mI:memAt l i0 rc id x.parts=[]:=by rw [memAt,<- hf]
  refine hk _ _ ⟨rfl,?_⟩;rw [mI,yO];obtain ⟨cm,cg,co,cn,cl⟩:=calm;refine ⟨?_,?_,?_,?_,?_,?_,?_,lst.of ?_ ?_ ?_,⟨?_,?_,?_,?_,?_⟩,?_⟩
  ·simp [e1]
  ·simp [e2]
  ·simp [e3]
  ·simp [m3]
  ·simp [e7]
  ·simp [m7]
  ·simp [e9]
  ·simp
  ·intro N; simp
  ·simp
  ·exact cm
  ·exact cg
  ·exact co
  ·simp only; omega
  ·exact cl.mono (by dsimp only; omega)
  ·simp only; omega
end
section
set_option maxHeartbeats 4000000
theorem q80.of {n0:Nat} {s0:MSt} {dn:Bool} {l:List Nde} {i0:Int} {rc:Bool} {x:Nde} {id id':Int} {ms:List Mem} {s s':MSt} (h:q80 n0 s0 dn l i0 rc x id ms s)
  (h1:(s'.env 1).v=(s.env 1).v) (h2:(s'.env 2).v=(s.env 2).v) (h3:(s'.env 3).v=(s.env 3).v) (h7:(s'.env 7).v=(s.env 7).v) (h8:s'.env 8=s.env 8) (h9:(s'.env 9).v=.int .i64 id') (hm:s'.mem=s.mem) (hg:s'.gh=s.gh) (ho:s'.obj=s.obj) (hn:s.next<=s'.next):q80 n0 s0 dn l i0 rc x id' ms s':=by
 obtain ⟨e1,e2,e3,m3,e7,m7,e9,lst,⟨cm,cg,co,cn,cl⟩,lt⟩:=h;refine ⟨by rw [h1,e1],by rw [h2,e2],by rw [h3,e3],by rw [hm,m3],by rw [h7,e7],by rw [hm,m7],h9,lst.of h8 (fun N=>by rw [hm]) hn,⟨by rw [hm]; exact cm,by rw [hg,cg],by rw [ho,co],by omega,by rw [hm]; exact cl.mono hn⟩,by omega⟩
theorem parts_ev {r:RV} {dn:Bool} {l:List Nde} (hl:oks l) {i0:Int} (bh:0<=i0) (pf:i0<l.length) {rc:Bool} {x:Nde} (hx:l[i0.toNat]?=some x) {a1 a2 a3:An} (s0:MSt) (hM:LowM s0.next s0.mem) (hG:LowE s0.next s0.gh) (k:Slot->MSt->Option RV)
  (hk:∀ y s',Calm s0.next s0 s'->ListI s0.next (q3B l i0 rc x.parts) y s'->k y s'=some r):evH allT q01 92 [⟨.agg (dftC dn l),a1⟩,⟨.int .i64 i0,a2⟩,⟨.bool rc,a3⟩] s0 k=some r:=by
 refine evH_intro q65 rfl rfl ?_;have aQ:x.ok:=hl.2.2 _ (yj hx);have g:(l.map ndeC)[i0.toNat]?=some (ndeC x):=by simp [hx]
 simp only [ndeC] at g;simp [q65,dftC,-V,-y3,-y0,J,g,bh];refine q06 12 (fun i s=>q80 s0.next s0 dn l i0 rc x ((i + 1:Nat):Int) (q6L l i0 rc x.parts i) s)
  (fun e s=>e=.exit 0/\∃ id,q80 s0.next s0 dn l i0 rc x id (q3B l i0 rc x.parts) s) (fun i hi s k' h ih hk=>?_) _ _ ?_ (fun e s h=>?_)
 ·refine q02 ?_;by_cases fa:i<12
  ·have hid:((i + 1:Nat):Int)<=12:=by omega
   have e9:=h.e9;have hw:IntKind.i64.wrap (((i + 1:Nat):Int) + 1)=((i + 1 + 1:Nat):Int):=q0s (by omega);obtain ⟨z,hz⟩:∃ z:Int,z=((i + 1:Nat):Int):=⟨_,rfl⟩;rw [<- hz] at e9 hid hw;simp [q5K,-V,-y3,-y0,J,e9,hid];refine parts_in hl bh pf aQ hM hG (id:=z) (by omega) (Nat.le_trans (q7U l i0 rc x.parts i) hi) _ _ (h.of ?_ ?_ ?_ ?_ ?_ ?_ ?_ ?_ ?_ ?_) ?_ (fun s' h'=>?_)
   ·simp
   ·simp
   ·simp
   ·simp
   ·simp
   ·simp [e9]
   ·rfl
   ·rfl
   ·rfl
   ·dsimp only; omega
   ·simp
   ·have iG:=h'.e9;simp [-V,-y3,-y0,J,iG,hw];rw [hz] at h';refine ih fa _ (q80.of (ms:=q6L l i0 rc x.parts (i + 1)) h' ?_ ?_ ?_ ?_ ?_ ?_ ?_ ?_ ?_ ?_)
    ·simp
    ·simp
    ·simp
    ·simp
    ·simp
    ·simp
    ·rfl
    ·rfl
    ·rfl
    ·dsimp only; omega
  ·have uH:i=12:=by omega
   subst uH;have e9:=h.e9;simp at e9;simp [q5K,-V,-y3,-y0,J,e9];refine hk _ _ ⟨rfl,13,q80.of (id':=13) h ?_ ?_ ?_ ?_ ?_ ?_ ?_ ?_ ?_ ?_⟩
   ·simp
   ·simp
   ·simp
   ·simp
   ·simp
   ·simp [e9]
   ·rfl
   ·rfl
   ·rfl
   ·dsimp only; omega
 ·refine ⟨?_,?_,?_,?_,?_,?_,?_,.inl ⟨rfl,?_,?_⟩,⟨?_,?_,?_,?_,?_⟩,?_⟩
  ·simp
  ·simp
  ·simp
  ·simp [q0B]
  ·simp
  ·simp [q0B]
  ·simp
  ·simp
  ·simp
  ·exact (((q28.refl).set (by omega)).set (by omega)).set (by omega)
  ·rfl
  ·rfl
  ·dsimp only; omega
  ·exact (((hM.mono (by dsimp only; omega)).set q05).set q05).set q05
  ·dsimp only; omega
 ·obtain ⟨rfl,id,h⟩:=h;obtain ⟨e1,e2,e3,m3,e7,m7,e9,lst,⟨cm,cg,co,cn,cl⟩,lt⟩:=h;simp [-V,-y3,-y0,J,finH,resS,packS];refine hk _ _ ⟨cm,cg,co,?_,cl.mono ?_⟩ (lst.of ?_ (fun N=>?_) ?_)
  ·dsimp only; omega
  ·dsimp only; omega
  ·rfl
  ·rfl
  ·dsimp only; omega
end
def qaO (x:Slot):Prop:=∀ k,x.strip k=x
def PureE (e:Nat->Slot):Prop:=∀ t,qaO (e t)
def PureM (m:Nat) (M:Nat->Nat->Option (List Slot)):Prop:=∀ t n r,n<m->M t n=some r->∀ x∈r,qaO x
theorem qbO (v:AV):qaO ⟨v,.no⟩:=fun _=>rfl
theorem pureS_ex (v:AV):qaO ⟨v,.ex⟩:=fun _=>rfl
theorem PureE.same {e:Nat->Slot} (h:PureE e) (k:Nat):stripE k e=e:=funext fun t=>by rw [stripE_at]; exact h t k
theorem stripM_val (k:Nat) (M:Nat->Nat->Option (List Slot)) (t n:Nat):stripM k M t n=(M t n).map (·.map (Slot.strip k)):=rfl
theorem q28.strip {m:Nat} {M0 M:Nat->Nat->Option (List Slot)} (h:q28 m M0 M) (h0:PureM m M0) (k:Nat):q28 m M0 (stripM k M):=fun t n hn=>by
 rw [stripM_val,h t n hn];cases hr:M0 t n with
 | none=>rfl
 | some r =>
  refine congrArg some ?_;have:r.map (Slot.strip k)=r.map id:=yl fun x hx=>h0 t n r hn hr x hx k
  rwa [List.map_id] at this
theorem LowM.strip {m:Nat} {M:Nat->Nat->Option (List Slot)} (h:LowM m M) (k:Nat):LowM m (stripM k M):=fun t n r he x hx=>by
 rw [stripM_val] at he;obtain ⟨r0,hr,rfl⟩:=yg.1 he;obtain ⟨y,hy,rfl⟩:=yw.1 hx;exact h t n r0 hr y hy
theorem LowE.strip {m:Nat} {e:Nat->Slot} (h:LowE m e) (k:Nat):LowE m (stripE k e):=fun t=>h t
theorem rowOf_kill {l:List (List AV)} (h:q2l l=true) (t n:Nat):(q0c l).map (Slot.kill t n)=q0c l:=by
 have:(q0c l).map (Slot.kill t n)=(q0c l).map id:=yl fun x hx=>by
  have:=q2A (m:=0) h x hx t n (Nat.zero_le _);show (⟨x.v.kill t n,x.a⟩:Slot)=x;rw [this]
 rwa [List.map_id] at this
def q8f (i:Int):ByteArray:=Utf8.encode (65 + i)
def sName (d:Int):ByteArray:=⟨#[115]⟩++Utf8.encode (97 + d)
def q7n (a:Int):List Sym:=(idsZ a).map fun d=>⟨d,sName d⟩
def Typ.of (k:Int) (nm:ByteArray):Typ:=⟨k,nm,0,0,0,true,[],true,[],0,0,false⟩
def typZ (l:List Nde) (i:Int):Typ :=
 let x:=ndAt l i
 let n:Int:=l.length
 match x.kind with
 | 1=>.of 1 ⟨#[]⟩
 | 2=>{ Typ.of 2 ⟨#[]⟩ with low:=x.low,high:=x.high }
 | 3=>{ Typ.of 3 ⟨#[]⟩ with max:=x.a % 4 }
 | 4=>{ Typ.of 4 (q8f i) with opn:=decide (x.b % 2=1),sn:=false,syms:=q7n x.a }
 | 5=>{ Typ.of 5 (q8f i) with mn:=(q3B l i true x.parts).isEmpty,mems:=q3B l i true x.parts }
 | 6=>if (q3B l i false x.parts).isEmpty=true then .of 5 (q8f i) else { Typ.of 6 (q8f i) with opn:=decide (x.b % 2=1),mn:=false,mems:=q3B l i false x.parts }
 | 7=>{ Typ.of 7 ⟨#[]⟩ with max:=x.a % 4,elem:=x.c % n }
 | 8=>if keyZ l x.b<0 then { Typ.of 7 ⟨#[]⟩ with max:=x.a % 4,elem:=x.c % n } else { Typ.of 8 ⟨#[]⟩ with max:=x.a % 4,key:=keyZ l x.b,elem:=x.c % n }
 | _=>{ Typ.of 9 ⟨#[]⟩ with elem:=x.c % n }
def typL (t:Typ) (c:AV):List AV:=[.int .i64 t.kind,.str t.name,.int .i64 t.low,.int .i64 t.high,.int .i64 t.max,.sl t.sn (t.syms.map symC),c,.int .i64 t.key,.int .i64 t.elem,.bool t.opn]
theorem typL_C (t:Typ):typL t (.sl t.mn (t.mems.map memC))=typC t:=rfl
def q7D (ms:List Mem) (c:AV) (s:MSt):Prop :=
 (ms=[]/\c=.sl true [])\/∃ N,ms≠[]/\N<s.next/\c=.ref 88 N 13 0 ms.length ms.length/\s.mem 88 N=some (q0c (ms.map memC))
theorem ListI.mems {n0:Nat} {ms:List Mem} {x:Slot} {s:MSt} (h:ListI n0 ms x s):q7D ms x.v s:=by
 rcases h with ⟨h1,h2,_⟩ | ⟨N,h1,_,h3,h4,h5⟩
 ·exact .inl ⟨h1,h2⟩
 ·exact .inr ⟨N,h1,h3,h4,h5⟩
theorem mems_free (ms:List Mem):q2l (ms.map memC)=true:=q6E memC ms fun m=>by simp [memC,AV.free0]
theorem q7D.keep {ms:List Mem} {c:AV} {s s':MSt} (h:q7D ms c s) (hm:∀ N,N<s.next->s'.mem 88 N=s.mem 88 N) (hn:s.next<=s'.next):q7D ms c s':=by
 rcases h with h | ⟨N,h1,h2,h3,h4⟩
 ·exact .inl h
 ·exact .inr ⟨N,h1,Nat.lt_of_lt_of_le h2 hn,h3,(hm N h2).trans h4⟩
theorem q7D.low {ms:List Mem} {c:AV} {s:MSt} (h:q7D ms c s):low0 s.next c:=by
 rcases h with ⟨_,rfl⟩ | ⟨N,_,h2,rfl,_⟩
 ·exact q9X rfl
 ·exact low0_ref h2
def q7H (S:List Typ) (L:List (List AV)) (s:MSt):Prop:=S.length=L.length/\∀ (i:Nat) (t:Typ) (c:List AV),S[i]?=some t->L[i]?=some c->∃ m,c=typL t m/\q7D t.mems m s
theorem q7H.snoc {S:List Typ} {L:List (List AV)} {s:MSt} (h:q7H S L s) {t:Typ} {m:AV} (hm:q7D t.mems m s):q7H (S++[t]) (L++[typL t m]) s:=by
 obtain ⟨h1,h2⟩:=h;refine ⟨by simp [h1],fun i t' c' ht hc=>?_⟩;rcases Nat.lt_or_ge i S.length with fa | te
 ·rw [yE fa] at ht;rw [yE (by omega)] at hc;exact h2 i t' c' ht hc
 ·rw [yP te] at ht;rw [yP (by omega)] at hc;have hi:i - S.length=0:=by
   rcases yI (i - S.length) with h0 | h0
   ·exact h0
   ·rw [yL (by simp; omega)] at ht; cases ht
  rw [hi] at ht;rw [<- h1,hi] at hc;injection ht with ht;injection hc with hc;exact ⟨m,by rw [<- ht,<- hc],by rw [<- ht]; exact hm⟩
theorem q7H.keep {S:List Typ} {L:List (List AV)} {s s':MSt} (h:q7H S L s) (hm:∀ N,N<s.next->s'.mem 88 N=s.mem 88 N) (hn:s.next<=s'.next):q7H S L s' :=
 ⟨h.1,fun i t c ht hc=>by obtain ⟨m,h1,h2⟩:=h.2 i t c ht hc; exact ⟨m,h1,h2.keep hm hn⟩⟩
theorem q7H.els {S:List Typ} {L:List (List AV)} {s:MSt} (h:q7H S L s):q13 10 L=true:=by
 refine y4.2 fun c hc=>?_
 obtain ⟨i,hi,rfl⟩:=yx hc;have ja:=h.1;have rO:i<S.length:=by omega
 obtain ⟨m,h1,_⟩:=h.2 i S[i] L[i] (y5 (by omega)) (y5 hi);rw [h1];rfl
section
set_option maxHeartbeats 4000000
def Stay (p n8:Nat) (M M':Nat->Nat->Option (List Slot)):Prop:=∀ t n,¬ (t=p/\n=n8)->(∀ r,M t n=some r->∀ x∈r,qaO x)->M' t n=M t n
theorem Stay.refl {p n8:Nat} {M:Nat->Nat->Option (List Slot)}:Stay p n8 M M:=fun _ _ _ _=>rfl
theorem Stay.strip {p n8:Nat} {M M':Nat->Nat->Option (List Slot)} (h:Stay p n8 M M') (k:Nat):Stay p n8 M (stripM k M'):=fun t n h1 h2=>by
 rw [stripM_at,h t n h1 h2];cases hr:M t n with
 | none=>rfl
 | some r =>
  refine congrArg some ?_;have:r.map (Slot.strip k)=r.map id:=yl fun x hx=>h2 r hr x hx k
  rwa [List.map_id] at this
theorem Stay.set {p n8:Nat} {M M':Nat->Nat->Option (List Slot)} (h:Stay p n8 M M') {r:List Slot}:Stay p n8 M (setM M' p n8 r):=fun t n h1 h2=>by
 rw [q0B,if_neg h1];exact h t n h1 h2
def q6D (nm:ByteArray) (op:Bool) (S:List Sym) (b:Bool) (a:An):List Slot:=[⟨.int .i64 4,.no⟩,⟨.str nm,.no⟩,⟨.int .i64 0,.no⟩,⟨.int .i64 0,.no⟩,⟨.int .i64 0,.no⟩,⟨.sl b (S.map symC),a⟩,⟨.sl true [],.no⟩,⟨.int .i64 0,.no⟩,⟨.int .i64 0,.no⟩,⟨.bool op,.no⟩]
theorem idl_rng (a:Int):∀ i,∀ d∈idl a i,1<=d/\d<=i
 | 0,d,h=>by cases h
 | i + 1,d,h=>by
  rw [idl] at h;rcases yu.1 h with h | h
  ·have:=idl_rng a i d h; omega
  ·split at h
   ·simp at h; omega
   ·cases h
theorem idsZ_rng (a:Int):∀ d∈idsZ a,1<=d/\d<=6:=fun d h=>by
 unfold idsZ at h;split at h
 ·simp at h; omega
 ·have:=idl_rng a 6 d h; omega
theorem esyms_ev {r:RV} {a:Int} {n8:Nat} {nm:ByteArray} {op:Bool} (s0:MSt) (k:Ex->MSt->Option RV)
  (h9:(s0.env 9).v=.sl false ((idsZ a).map q8s)) (er:(s0.env 10).v=.int .i64 0) (h8:(s0.env 8).v=.ptr 8 n8 0) (fa:n8<s0.next) (hm:s0.mem 8 n8=some (q6D nm op [] true .no)) (hG:PureE s0.gh) (hL:LowM s0.next s0.mem) (hE:LowE s0.next s0.env)
  (hk:∀ s',(∀ t,t<9->(s'.env t).v=(s0.env t).v)->Stay 8 n8 s0.mem s'.mem->s'.gh=s0.gh->s'.obj=s0.obj->s0.next<=s'.next->LowM s'.next s'.mem->LowE s'.next s'.env->(∃ an,s'.mem 8 n8=some (q6D nm op (q7n a) false an))->k (.exit 3) s'=some r):evL allT q01 q3I s0 k=some r:=by
 have zf:=qbM a;refine q06 (idsZ a).length (fun i s=>(∀ t,t<10->(s.env t).v=(s0.env t).v)/\(s.env 10).v=.int .i64 i/\Stay 8 n8 s0.mem s.mem/\s.gh=s0.gh/\s.obj=s0.obj/\s0.next<=s.next/\LowM s.next s.mem/\LowE s.next s.env/\(i=0/\s.mem 8 n8=some (q6D nm op [] true .no)\/¬ i=0/\s.mem 8 n8=some (q6D nm op ((q7n a).take i) false (.own 91 137))))
  (fun e s=>e=.exit 3/\(∀ t,t<9->(s.env t).v=(s0.env t).v)/\Stay 8 n8 s0.mem s.mem/\s.gh=s0.gh/\s.obj=s0.obj/\s0.next<=s.next/\LowM s.next s.mem/\LowE s.next s.env/\∃ an,s.mem 8 n8=some (q6D nm op (q7n a) false an)) (fun i hi s k h ih hk=>?_) s0 k ⟨fun _ _=>rfl,by simpa using er,Stay.refl,rfl,rfl,ym _,hL,hE,.inl ⟨rfl,hm⟩⟩ (fun e s h=>by obtain ⟨rfl,h1,h2,h3,h4,h5,h6,h7,h8⟩:=h; exact hk s h1 h2 h3 h4 h5 h6 h7 h8)
 obtain ⟨he,e10,za,hg,ho,hn,hL,hE,ka⟩:=h;have e9:=(he 9 (by omega)).trans h9;have e8:=(he 8 (by omega)).trans h8;refine q02 ?_;by_cases ga:i<(idsZ a).length
 ·have dw:(i:Int)<(idsZ a).length:=by omega
  have og:=q0s (i:=i);have g1:((idsZ a).map q8s)[i]?=some (q8s (idsZ a)[i]):=by simp [ga]
  have hd:=idsZ_rng a _ (y6 ga);have mw:(q7n a).take (i + 1)=(q7n a).take i++[⟨(idsZ a)[i],sName (idsZ a)[i]⟩]:=by
   have hl:i<(q7n a).length:=by simpa [q7n] using ga
   rw [<- yK hl];simp [q7n]
  have le:((q7n a).take i).length=i:=by simp [q7n]; omega
  generalize (idsZ a)[i]=d at *
  have bB:((idsZ a).map q8s).length=(idsZ a).length:=by simp
  generalize (idsZ a).map q8s=D at *
  generalize hS:(q7n a).take i=S at *
  obtain ⟨z,hz⟩:∃ z:Int,z=i:=⟨_,rfl⟩;have gc:0<=z:=by omega
  have tq:IntKind.i64.wrap (z + 1)=((i + 1:Nat):Int):=by rw [hz]; exact og
  rw [<- hz] at e10 dw;rw [show i=z.toNat from by omega] at g1;simp only [q8s] at g1;have fE:IntKind.i64.wrap (97 + d)=97 + d:=IntWalk.i64_in _ (by omega);have ol:IntKind.i32.wrap (97 + d)=97 + d:=i32_in _ (by omega);have az:=enc_size (97 + d);have ic:(⟨#[115]⟩:ByteArray).size=1:=rfl;have jb:(⟨#[115]⟩:ByteArray).size + (Utf8.encode (97 + d)).size<=9223372036854775807:=by omega
  unfold sName at mw;generalize cK:Utf8.encode (97 + d)=en at *
  have ba:q0G 24 (i + 1)=true:=by rw [q0d]; omega
  have zd:=els_sym S;rcases ka with ⟨bh,hr⟩ | ⟨bh,hr⟩
  ·have rN:S=[]:=by rw [<- hS,bh]; rfl
   subst rN;subst bh;simp only [q6D,yr] at hr;simp [q3I,-V,-y3,-y0,J,e8,e9,e10,bB,dw,gc,g1,fE,ol,cK,jb,hr,ba,tq];refine ih ga _ ⟨fun t ht=>?_,?_,?_,?_,ho,?_,?_,?_,.inr ⟨by omega,?_⟩⟩
   ·have:=he t ht;have q:∀ c,10<=c->¬ t=c:=fun c hc=>by omega
    simp [q,this]
   ·simp
   ·repeat (first | exact za | refine Stay.set ?_ | refine Stay.strip ?_ _)
   ·simp only [hg,hG.same]
   ·dsimp only; omega
   ·exact ((hL.mono (by dsimp only; omega)).strip 91).set q05
   ·dsimp only
    repeat (first | exact hE.mono (by omega) | refine LowE.put ?_ (fun _ _ _=>rfl) | refine LowE.put ?_ (q1H (by omega)) | refine LowE.strip ?_ _)
   ·simp [q6D,mw,symC]
  ·simp only [q6D] at hr;simp [q3I,-V,-y3,-y0,J,e8,e9,e10,bB,dw,gc,g1,fE,ol,cK,jb,hr,le,zd,ba,tq];refine ih ga _ ⟨fun t ht=>?_,?_,?_,?_,ho,?_,?_,?_,.inr ⟨by omega,?_⟩⟩
   ·have:=he t ht;have q:∀ c,10<=c->¬ t=c:=fun c hc=>by omega
    simp [q,this]
   ·simp
   ·repeat (first | exact za | refine Stay.set ?_ | refine Stay.strip ?_ _)
   ·simp only [hg,hG.same]
   ·dsimp only; omega
   ·exact (((hL.mono (by dsimp only; omega)).strip 91).strip 91).set q05
   ·dsimp only
    repeat (first | exact hE.mono (by omega) | refine LowE.put ?_ (fun _ _ _=>rfl) | refine LowE.put ?_ (q1H (by omega)) | refine LowE.strip ?_ _)
   ·simp [q6D,mw,symC]
 ·have jg:i=(idsZ a).length:=by omega
  have dw:¬ (i:Int)<(idsZ a).length:=by omega
  simp [q3I,-V,-y3,-y0,J,e9,e10,ga];have bh:¬ i=0:=by omega
  rcases ka with ⟨h0,_⟩ | ⟨_,hr⟩
  ·exact absurd h0 bh
  ·rw [yD (by simp [q7n]; omega)] at hr;refine hk _ _ ⟨rfl,fun t ht=>?_,za,hg,ho,by dsimp only; omega,hL.mono (by dsimp only; omega),?_,_,hr⟩
   ·have:=he t (by omega);simp [show ¬ t=69 from by omega,show ¬ t=70 from by omega,show ¬ t=71 from by omega,show ¬ t=72 from by omega,this]
   ·dsimp only
    repeat (first | exact hE.mono (by omega) | refine LowE.put ?_ (fun _ _ _=>rfl))
end
section
set_option maxHeartbeats 4000000
def q2b:C:=.reg [oF 164 0 5,oL 165 164,oA 166 10 8,oS 167 (.bslr 10 zze 1 [(0,(.t 166))]),oS 168 (.appn .any 132 10 120 (.t 165) (.t 167)),oF 169 0 5,oW 169 168]
def q19:C:=oR [oF 26 0 1,oL 27 26,oM 28 6,oI 29 5 27 28,oA 30 5 29,oY 7 zzd,oV 5 7 30] (oR [oA 31 1 1,oM 32 6,oC2 33 87 31 32,oS 34 (.build zze [(0,(1,(.t 33)))]),oY 8 zze,oV 10 8 34] (.seq (oR [oF 35 0 8,oL 36 35,oC1 37 88 36] (oD 37 (.reg [oM 38 6,oS 39 (.bin .add false (.c (.int .i64 65)) (.t 38)),oS 40 (.conv (.some .i32) (.t 39)),oS 41 (.rstr (.t 40)),oF 42 1 8,oW 42 41]) .skip)) (.seq (oR [oF 43 0 8,oL 44 43] (.block 2 (oR [oC 46 .eql 44 2,oM 45 46] (oD 45 (.reg [oS 47 (.load (.root 7) true 5 (.t 7)),oC1 48 89 47,oS 49 (.load (.root 7) true 5 (.t 7)),oC1 50 90 49,oF 51 2 8,oN (.store (.root 8) false 1 (.t 51) (.t 48)),oF 52 3 8,oN (.store (.root 8) false 1 (.t 52) (.t 50))]) (oR [oC 54 .eql 44 3,oM 53 54] (oD 53 (.reg [oF 55 1 7,oL 56 55,oS 57 (.bin .rem false (.t 56) (.c (.int .u8 4))),oS 58 (.conv (.some .i64) (.t 57)),oF 59 4 8,oW 59 58]) (oR [oC 61 .eql 44 4,oM 60 61] (oD 60 (oR [oF 62 2 7,oL 63 62,oS 64 (.bin .rem false (.t 63) (.c (.int .u8 2))),oS 65 (.bin .eql false (.t 64) (.c (.int .u8 1))),oF 66 9 8,oW 66 65] (oR [oA 67 5 7,oC1 68 91 67,oM 9 68] (oR [oJ 10 0] (.block 3 (.loop q3I))))) (oR [oC 94 .eql 44 5,oM 93 94] (oD 93 (.reg [oA 95 1 1,oM 96 6,oS 97 (.callh 171 (.c (.fn 92 [])) [(.t 95),(.t 96),(.c (.bool true))]),oF 98 6 8,oW 98 97]) (oR [oC 100 .eql 44 6,oM 99 100] (oD 99 (oR [oF 101 2 7,oL 102 101,oS 103 (.bin .rem false (.t 102) (.c (.int .u8 2))),oS 104 (.bin .eql false (.t 103) (.c (.int .u8 1))),oF 105 9 8,oW 105 104] (oR [oA 106 1 1,oM 107 6,oS 108 (.callh 171 (.c (.fn 92 [])) [(.t 106),(.t 107),(.c (.bool false))]),oF 109 6 8,oW 109 108] (oR [oF 110 6 8,oL 111 110,oH 112 111,oC 113 .eql 112 0] (oD 113 (.reg [oF 114 1 8,oL 115 114,oS 116 (.build zze [(0,(1,(.c (.int .i64 5)))),(1,(1,(.t 115)))]),oV 10 8 116]) .skip)))) (oR [oC 118 .eql 44 7,oM 117 118] (oD 117 (.reg [oF 119 1 7,oLr 120 7 1 119,oS 121 (.bin .rem false (.t 120) (.c (.int .u8 4))),oS 122 (.conv (.some .i64) (.t 121)),oF 123 3 7,oLr 124 7 1 123,oS 125 (.conv (.some .i64) (.t 124)),oM 126 4,oB 127 .rem 125 126,oF 128 4 8,oN (.store (.root 8) false 1 (.t 128) (.t 122)),oF 129 8 8,oN (.store (.root 8) false 1 (.t 129) (.t 127))]) (oR [oC 131 .eql 44 8,oM 130 131] (oD 130 (oR [oF 132 1 7,oLr 133 7 1 132,oS 134 (.bin .rem false (.t 133) (.c (.int .u8 4))),oS 135 (.conv (.some .i64) (.t 134)),oS 136 (.load (.root 1) true 1 (.t 1)),oF 137 2 7,oLr 138 7 1 137,oC2 139 93 136 138,oF 140 3 7,oLr 141 7 1 140,oS 142 (.conv (.some .i64) (.t 141)),oM 143 4,oB 144 .rem 142 143,oF 145 4 8,oN (.store (.root 8) false 1 (.t 145) (.t 135)),oF 146 7 8,oN (.store (.root 8) false 1 (.t 146) (.t 139)),oF 147 8 8,oN (.store (.root 8) false 1 (.t 147) (.t 144))] (oR [oF 148 7 8,oL 149 148,oC 150 .lss 149 0] (oD 150 (.reg [oF 151 4 8,oL 152 151,oF 153 8 8,oL 154 153,oS 155 (.build zze [(0,(1,(.c (.int .i64 7)))),(4,(1,(.t 152))),(8,(1,(.t 154)))]),oV 10 8 155]) .skip))) (oR [oC 157 .eql 44 9,oM 156 157] (oD 156 (.reg [oF 158 3 7,oL 159 158,oS 160 (.conv (.some .i64) (.t 159)),oM 161 4,oB 162 .rem 160 161,oF 163 8 8,oW 163 162]) .skip)))))))))))))))))) q2b)))
theorem of_L2:q9I=.seq (.seq (.reg [⟨(.some 21),(.mv (.t 6)),.none⟩,⟨(.some 22),(.mv (.t 4)),.none⟩,⟨(.some 23),(.bin .lss .false (.t 21) (.t 22)),.none⟩]) (.cond (.t 23) .skip (.exit 0))) (.seq (.block 1 q19) (.reg [⟨(.some 24),(.mv (.t 6)),.none⟩,⟨(.some 25),(.bin .add .false (.t 24) (.c (.int .i64 1))),.none⟩,⟨(.some 6),(.mv (.t 25)),.none⟩])):=rfl
def M5I (n0:Nat) (l:List Nde) (i:Nat) (s:MSt):Prop :=
 (i=0/\∃ a,s.mem 5 (n0 + 3)=some [⟨.sl true [],a⟩]/\qaO ⟨.sl true [],a⟩)\/∃ N L,¬ i=0/\s.mem 5 (n0 + 3)=some [⟨.ref 168 N 10 0 i i,.no⟩]/\n0<=N/\N<s.next/\s.mem 168 N=some (q0c L)/\L.length=i/\q7H ((List.range i).map fun (j:Nat)=>typZ l (j:Int)) L s
theorem M5I.keep {n0:Nat} {l:List Nde} {i:Nat} {s s':MSt} (h:M5I n0 l i s) (h5:s'.mem 5 (n0 + 3)=s.mem 5 (n0 + 3)) (sk:∀ N,N<s.next->s'.mem 168 N=s.mem 168 N) (zM:∀ N,N<s.next->s'.mem 88 N=s.mem 88 N) (hn:s.next<=s'.next):M5I n0 l i s':=by
 rcases h with ⟨h1,a,h2,h3⟩ | ⟨N,L,h1,h2,h0,h3,h4,h6,h7⟩
 ·exact .inl ⟨h1,a,h5.trans h2,h3⟩
 ·exact .inr ⟨N,L,h1,h5.trans h2,h0,Nat.lt_of_lt_of_le h3 hn,(sk N h3).trans h4,h6,h7.keep zM hn⟩
structure OfI (n0:Nat) (s0:MSt) (dn:Bool) (l:List Nde) (i:Nat) (s:MSt):Prop where
 e1:(s.env 1).v=.ptr 1 n0 0
 m1:s.mem 1 n0=some [⟨.sl dn (l.map ndeC),.no⟩]
 e2:(s.env 2).v=.ptr 2 n0 0
 m2:∃ a,s.mem 2 n0=some [⟨.sl true [],a⟩]/\qaO ⟨.sl true [],a⟩
 e4:(s.env 4).v=.int .i64 l.length
 e5:(s.env 5).v=.ptr 5 (n0 + 3) 0
 e6:(s.env 6).v=.int .i64 i
 m5:M5I n0 l i s
 calm:Calm n0 s0 s
 lowE:LowE s.next s.env
 lt:n0 + 3<s.next
structure q9C (n0:Nat) (s0:MSt) (dn:Bool) (l:List Nde) (i:Nat) (n8:Nat) (s:MSt):Prop where
 ofI:OfI n0 s0 dn l i s
 e8:(s.env 8).v=.ptr 8 n8 0
 lt8:n8<s.next
 row:∃ m r,s.mem 8 n8=some r/\r.map (·.v)=typL (typZ l (i:Int)) m/\q7D (typZ l (i:Int)).mems m s
theorem kind1_ev {r:RV} {n0:Nat} {s0:MSt} {dn:Bool} {l:List Nde} (hl:oks l) {i:Nat} (hi:i<l.length) {s:MSt} {k:Ex->MSt->Option RV} (h:OfI n0 s0 dn l i s) (dd:(ndAt l (i:Int)).kind=1) (hk:∀ n8 s',q9C n0 s0 dn l i n8 s'->q2b.run (evC allT q01) (evK allT q01) s' k=some r):q19.run (evC allT q01) (evK allT q01) s k=some r:=by
 obtain ⟨e1,m1,e2,m2,e4,e5,e6,m5,⟨cm,cg,co,cn,cl⟩,lowE,lt⟩:=h;have ub:=q5a (dn:=dn) hl (z:=(i:Int)) (by omega) (by omega);have g:l[i]?=some l[i]:=y5 hi;have gm:(l.map ndeC)[i]?=some (ndeC (ndAt l (i:Int))):=by simp [ndAt,g]
 have sb:kdAt l (i:Int)=1:=by rw [<- dd]; simp [kdAt,ndAt,g]
 have rb:typZ l (i:Int)=Typ.of 1 ⟨#[]⟩:=by simp only [typZ,dd]
 rw [sb] at ub;generalize ndAt l (i:Int)=x at *
 have jb:=q1W 1;simp only [evA,dftC,ndeC] at ub gm;obtain ⟨z,hz⟩:∃ z:Int,z=i:=⟨_,rfl⟩;have gc:0<=z:=by omega
 rw [<- hz] at e6 ub;rw [show i=z.toNat from by omega] at gm;simp [q19,-V,-y3,-y0,J,e1,m1,e4,e6,gc,gm,ub,jb];refine hk (s.next + 1) _ ⟨⟨?_,?_,?_,?_,?_,?_,?_,?_,⟨?_,?_,?_,?_,?_⟩,?_,?_⟩,?_,?_,?_⟩
 ·simp [e1]
 ·simp [m1]
 ·simp [e2]
 ·simpa using m2
 ·simp [e4]
 ·simp [e5]
 ·simp [e6,hz]
 ·exact m5.keep (by simp) (fun N _=>by simp) (fun N _=>by simp) (by dsimp only; omega)
 ·repeat (first | exact cm | refine q28.set ?_ (by omega))
 ·exact cg
 ·exact co
 ·dsimp only; omega
 ·exact ((((cl.mono (by dsimp only; omega)).set q05).set q05).set q05).set q05
 ·dsimp only
  repeat (first | exact lowE.mono (by omega) | refine LowE.put ?_ (fun _ _ _=>rfl) | refine LowE.put ?_ (q1H (by omega)))
 ·dsimp only; omega
 ·simp
 ·dsimp only; omega
 ·refine ⟨.sl true [],_,by simp; rfl,?_,.inl ⟨?_,rfl⟩⟩
  ·rw [rb]; simp [typL,Typ.of]
  ·rw [rb]; rfl
end
section
set_option maxHeartbeats 4000000
theorem hx0 (x:Nde) (hx:x.ok):u8 x.k/\u8 x.a/\u8 x.b/\u8 x.c/\True:=⟨hx.1,hx.2.1,hx.2.2.1,hx.2.2.2.1,trivial⟩
theorem q3P {l:List Nde} (hl:oks l) {i:Nat} (hi:i<l.length):(ndAt l (i:Int)).ok:=by
 have g:l[i]?=some l[i]:=y5 hi;simp only [ndAt,Int.toNat_natCast,g];exact hl.2.2 _ (y6 hi)
section
variable {r:RV} {n0:Nat} {s0:MSt} {dn:Bool} {l:List Nde} (hl:oks l) {i:Nat} (hi:i<l.length) {s:MSt} {k:Ex->MSt->Option RV} (h:OfI n0 s0 dn l i s)
include r n0 s0 dn l hl i hi s k h
theorem kind2_ev (dd:(ndAt l (i:Int)).kind=2) (hk:∀ n8 s',q9C n0 s0 dn l i n8 s'->q2b.run (evC allT q01) (evK allT q01) s' k=some r):q19.run (evC allT q01) (evK allT q01) s k=some r:=by
 obtain ⟨e1,m1,e2,m2,e4,e5,e6,m5,⟨cm,cg,co,cn,cl⟩,lowE,lt⟩:=h;have ub:=q5a (dn:=dn) hl (z:=(i:Int)) (by omega) (by omega);have g:l[i]?=some l[i]:=y5 hi;have gm:(l.map ndeC)[i]?=some (ndeC (ndAt l (i:Int))):=by simp [ndAt,g]
 have sb:kdAt l (i:Int)=2:=by rw [<- dd]; simp [kdAt,ndAt,g]
 have rb:typZ l (i:Int)={ Typ.of 2 ⟨#[]⟩ with low:=(ndAt l (i:Int)).low,high:=(ndAt l (i:Int)).high }:=by simp only [typZ,dd]
 have hx:=q3P hl hi;rw [sb] at ub;generalize ndAt l (i:Int)=x at *
 have jb:=q1W 2;obtain ⟨xk,xa,xb,xc,_⟩:=hx0 x hx;have se:=low_ev x hx;have gl:=high_ev x hx;simp only [evA,ndeC] at se gl;simp only [evA,dftC,ndeC] at ub gm;obtain ⟨z,hz⟩:∃ z:Int,z=i:=⟨_,rfl⟩;have gc:0<=z:=by omega
 rw [<- hz] at e6 ub;rw [show i=z.toNat from by omega] at gm;simp [q19,-V,-y3,-y0,J,e1,m1,e4,e6,gc,gm,ub,jb,se,gl];refine hk (s.next + 1) _ ⟨⟨?_,?_,?_,?_,?_,?_,?_,?_,⟨?_,?_,?_,?_,?_⟩,?_,?_⟩,?_,?_,?_⟩
 ·simp [e1]
 ·simp [m1]
 ·simp [e2]
 ·simpa using m2
 ·simp [e4]
 ·simp [e5]
 ·simp [e6,hz]
 ·exact m5.keep (by simp) (fun N _=>by simp) (fun N _=>by simp) (by dsimp only; omega)
 ·repeat (first | exact cm | refine q28.set ?_ (by omega))
 ·exact cg
 ·exact co
 ·dsimp only; omega
 ·exact ((((((cl.mono (by dsimp only; omega)).set q05).set q05).set q05).set q05).set q05).set q05
 ·dsimp only
  repeat (first | exact lowE.mono (by omega) | refine LowE.put ?_ (fun _ _ _=>rfl) | refine LowE.put ?_ (q1H (by omega)))
 ·dsimp only; omega
 ·simp
 ·dsimp only; omega
 ·refine ⟨.sl true [],_,by simp; rfl,?_,.inl ⟨?_,rfl⟩⟩
  ·rw [rb]; simp [typL,Typ.of]
  ·rw [rb]; rfl
theorem kind3_ev (dd:(ndAt l (i:Int)).kind=3) (hk:∀ n8 s',q9C n0 s0 dn l i n8 s'->q2b.run (evC allT q01) (evK allT q01) s' k=some r):q19.run (evC allT q01) (evK allT q01) s k=some r:=by
 obtain ⟨e1,m1,e2,m2,e4,e5,e6,m5,⟨cm,cg,co,cn,cl⟩,lowE,lt⟩:=h;have ub:=q5a (dn:=dn) hl (z:=(i:Int)) (by omega) (by omega);have g:l[i]?=some l[i]:=y5 hi;have gm:(l.map ndeC)[i]?=some (ndeC (ndAt l (i:Int))):=by simp [ndAt,g]
 have sb:kdAt l (i:Int)=3:=by rw [<- dd]; simp [kdAt,ndAt,g]
 have rb:typZ l (i:Int)={ Typ.of 3 ⟨#[]⟩ with max:=(ndAt l (i:Int)).a % 4 }:=by simp only [typZ,dd]
 have hx:=q3P hl hi;rw [sb] at ub;generalize ndAt l (i:Int)=x at *
 have jb:=q1W 3;obtain ⟨xk,xa,xb,xc,_⟩:=hx0 x hx;have kv:x.a.tmod 4=x.a % 4:=yy xa.1;have zu:IntKind.i64.wrap (x.a % 4)=x.a % 4:=IntWalk.i64_in _ (by omega);simp only [evA,dftC,ndeC] at ub gm;obtain ⟨z,hz⟩:∃ z:Int,z=i:=⟨_,rfl⟩;have gc:0<=z:=by omega
 rw [<- hz] at e6 ub;rw [show i=z.toNat from by omega] at gm;simp [q19,-V,-y3,-y0,J,e1,m1,e4,e6,gc,gm,ub,jb,kv,zu];refine hk (s.next + 1) _ ⟨⟨?_,?_,?_,?_,?_,?_,?_,?_,⟨?_,?_,?_,?_,?_⟩,?_,?_⟩,?_,?_,?_⟩
 ·simp [e1]
 ·simp [m1]
 ·simp [e2]
 ·simpa using m2
 ·simp [e4]
 ·simp [e5]
 ·simp [e6,hz]
 ·exact m5.keep (by simp) (fun N _=>by simp) (fun N _=>by simp) (by dsimp only; omega)
 ·repeat (first | exact cm | refine q28.set ?_ (by omega))
 ·exact cg
 ·exact co
 ·dsimp only; omega
 ·exact (((((cl.mono (by dsimp only; omega)).set q05).set q05).set q05).set q05).set q05
 ·dsimp only
  repeat (first | exact lowE.mono (by omega) | refine LowE.put ?_ (fun _ _ _=>rfl) | refine LowE.put ?_ (q1H (by omega)))
 ·dsimp only; omega
 ·simp
 ·dsimp only; omega
 ·refine ⟨.sl true [],_,by simp; rfl,?_,.inl ⟨?_,rfl⟩⟩
  ·rw [rb]; simp [typL,Typ.of]
  ·rw [rb]; rfl
theorem kind7_ev (dd:(ndAt l (i:Int)).kind=7) (hk:∀ n8 s',q9C n0 s0 dn l i n8 s'->q2b.run (evC allT q01) (evK allT q01) s' k=some r):q19.run (evC allT q01) (evK allT q01) s k=some r:=by
 obtain ⟨e1,m1,e2,m2,e4,e5,e6,m5,⟨cm,cg,co,cn,cl⟩,lowE,lt⟩:=h;have ub:=q5a (dn:=dn) hl (z:=(i:Int)) (by omega) (by omega);have g:l[i]?=some l[i]:=y5 hi;have gm:(l.map ndeC)[i]?=some (ndeC (ndAt l (i:Int))):=by simp [ndAt,g]
 have sb:kdAt l (i:Int)=7:=by rw [<- dd]; simp [kdAt,ndAt,g]
 have rb:typZ l (i:Int)={ Typ.of 7 ⟨#[]⟩ with max:=(ndAt l (i:Int)).a % 4,elem:=(ndAt l (i:Int)).c % l.length }:=by simp only [typZ,dd]
 have hx:=q3P hl hi;rw [sb] at ub;generalize ndAt l (i:Int)=x at *
 have jb:=q1W 7;obtain ⟨xk,xa,xb,xc,_⟩:=hx0 x hx;have kv:x.a.tmod 4=x.a % 4:=yy xa.1;have zu:IntKind.i64.wrap (x.a % 4)=x.a % 4:=IntWalk.i64_in _ (by omega);have ck:IntKind.i64.wrap x.c=x.c:=IntWalk.i64_in _ (by simp only [u8] at xc; omega);have gA:x.c.tmod l.length=x.c % l.length:=yy xc.1;have oq:¬ (l.length:Int)=0:=by omega
 have pg:¬ l=[]:=by intro e; rw [e] at hi; simp at hi
 simp only [evA,dftC,ndeC] at ub gm;obtain ⟨z,hz⟩:∃ z:Int,z=i:=⟨_,rfl⟩;have gc:0<=z:=by omega
 rw [<- hz] at e6 ub;rw [show i=z.toNat from by omega] at gm;simp [q19,-V,-y3,-y0,J,e1,m1,e4,e6,gc,gm,ub,jb,kv,zu,ck,gA,oq,pg];refine hk (s.next + 1) _ ⟨⟨?_,?_,?_,?_,?_,?_,?_,?_,⟨?_,?_,?_,?_,?_⟩,?_,?_⟩,?_,?_,?_⟩
 ·simp [e1]
 ·simp [m1]
 ·simp [e2]
 ·simpa using m2
 ·simp [e4]
 ·simp [e5]
 ·simp [e6,hz]
 ·exact m5.keep (by simp) (fun N _=>by simp) (fun N _=>by simp) (by dsimp only; omega)
 ·repeat (first | exact cm | refine q28.set ?_ (by omega))
 ·exact cg
 ·exact co
 ·dsimp only; omega
 ·exact ((((((cl.mono (by dsimp only; omega)).set q05).set q05).set q05).set q05).set q05).set q05
 ·dsimp only
  repeat (first | exact lowE.mono (by omega) | refine LowE.put ?_ (fun _ _ _=>rfl) | refine LowE.put ?_ (q1H (by omega)))
 ·dsimp only; omega
 ·simp
 ·dsimp only; omega
 ·refine ⟨.sl true [],_,by simp; rfl,?_,.inl ⟨?_,rfl⟩⟩
  ·rw [rb]; simp [typL,Typ.of]
  ·rw [rb]; rfl
theorem kind9_ev (dd:(ndAt l (i:Int)).kind=9) (hk:∀ n8 s',q9C n0 s0 dn l i n8 s'->q2b.run (evC allT q01) (evK allT q01) s' k=some r):q19.run (evC allT q01) (evK allT q01) s k=some r:=by
 obtain ⟨e1,m1,e2,m2,e4,e5,e6,m5,⟨cm,cg,co,cn,cl⟩,lowE,lt⟩:=h;have ub:=q5a (dn:=dn) hl (z:=(i:Int)) (by omega) (by omega);have g:l[i]?=some l[i]:=y5 hi;have gm:(l.map ndeC)[i]?=some (ndeC (ndAt l (i:Int))):=by simp [ndAt,g]
 have sb:kdAt l (i:Int)=9:=by rw [<- dd]; simp [kdAt,ndAt,g]
 have rb:typZ l (i:Int)={ Typ.of 9 ⟨#[]⟩ with elem:=(ndAt l (i:Int)).c % l.length }:=by simp only [typZ,dd]
 have hx:=q3P hl hi;rw [sb] at ub;generalize ndAt l (i:Int)=x at *
 have jb:=q1W 9;obtain ⟨xk,xa,xb,xc,_⟩:=hx0 x hx;have ck:IntKind.i64.wrap x.c=x.c:=IntWalk.i64_in _ (by simp only [u8] at xc; omega);have gA:x.c.tmod l.length=x.c % l.length:=yy xc.1;have oq:¬ (l.length:Int)=0:=by omega
 have pg:¬ l=[]:=by intro e; rw [e] at hi; simp at hi
 simp only [evA,dftC,ndeC] at ub gm;obtain ⟨z,hz⟩:∃ z:Int,z=i:=⟨_,rfl⟩;have gc:0<=z:=by omega
 rw [<- hz] at e6 ub;rw [show i=z.toNat from by omega] at gm;simp [q19,-V,-y3,-y0,J,e1,m1,e4,e6,gc,gm,ub,jb,ck,gA,oq,pg];refine hk (s.next + 1) _ ⟨⟨?_,?_,?_,?_,?_,?_,?_,?_,⟨?_,?_,?_,?_,?_⟩,?_,?_⟩,?_,?_,?_⟩
 ·simp [e1]
 ·simp [m1]
 ·simp [e2]
 ·simpa using m2
 ·simp [e4]
 ·simp [e5]
 ·simp [e6,hz]
 ·exact m5.keep (by simp) (fun N _=>by simp) (fun N _=>by simp) (by dsimp only; omega)
 ·repeat (first | exact cm | refine q28.set ?_ (by omega))
 ·exact cg
 ·exact co
 ·dsimp only; omega
 ·exact (((((cl.mono (by dsimp only; omega)).set q05).set q05).set q05).set q05).set q05
 ·dsimp only
  repeat (first | exact lowE.mono (by omega) | refine LowE.put ?_ (fun _ _ _=>rfl) | refine LowE.put ?_ (q1H (by omega)))
 ·dsimp only; omega
 ·simp
 ·dsimp only; omega
 ·refine ⟨.sl true [],_,by simp; rfl,?_,.inl ⟨?_,rfl⟩⟩
  ·rw [rb]; simp [typL,Typ.of]
  ·rw [rb]; rfl
theorem kind8n_ev (dd:(ndAt l (i:Int)).kind=8) (hc:keyZ l (ndAt l (i:Int)).b<0) (hk:∀ n8 s',q9C n0 s0 dn l i n8 s'->q2b.run (evC allT q01) (evK allT q01) s' k=some r):q19.run (evC allT q01) (evK allT q01) s k=some r:=by
 obtain ⟨e1,m1,e2,m2,e4,e5,e6,m5,⟨cm,cg,co,cn,cl⟩,lowE,lt⟩:=h;have ub:=q5a (dn:=dn) hl (z:=(i:Int)) (by omega) (by omega);have g:l[i]?=some l[i]:=y5 hi;have gm:(l.map ndeC)[i]?=some (ndeC (ndAt l (i:Int))):=by simp [ndAt,g]
 have sb:kdAt l (i:Int)=8:=by rw [<- dd]; simp [kdAt,ndAt,g]
 have rb:typZ l (i:Int)={ Typ.of 7 ⟨#[]⟩ with max:=(ndAt l (i:Int)).a % 4,elem:=(ndAt l (i:Int)).c % l.length }:=by simp only [typZ,dd]; rw [if_pos hc]
 have hx:=q3P hl hi;rw [sb] at ub;generalize ndAt l (i:Int)=x at *
 have jb:=q1W 8;obtain ⟨xk,xa,xb,xc,_⟩:=hx0 x hx;have kv:x.a.tmod 4=x.a % 4:=yy xa.1;have zu:IntKind.i64.wrap (x.a % 4)=x.a % 4:=IntWalk.i64_in _ (by omega);have ck:IntKind.i64.wrap x.c=x.c:=IntWalk.i64_in _ (by simp only [u8] at xc; omega);have gA:x.c.tmod l.length=x.c % l.length:=yy xc.1;have oq:¬ (l.length:Int)=0:=by omega
 have pg:¬ l=[]:=by intro e; rw [e] at hi; simp at hi
 have bc:=key_ev dn l hl x.b xb;simp only [evA,dftC] at bc;simp only [evA,dftC,ndeC] at ub gm;obtain ⟨z,hz⟩:∃ z:Int,z=i:=⟨_,rfl⟩;have gc:0<=z:=by omega
 rw [<- hz] at e6 ub;rw [show i=z.toNat from by omega] at gm;simp [q19,-V,-y3,-y0,J,e1,m1,e4,e6,gc,gm,ub,jb,kv,zu,ck,gA,oq,pg,bc,hc];refine hk (s.next + 1) _ ⟨⟨?_,?_,?_,?_,?_,?_,?_,?_,⟨?_,?_,?_,?_,?_⟩,?_,?_⟩,?_,?_,?_⟩
 ·simp [e1]
 ·simp [m1]
 ·simp [e2]
 ·simpa using m2
 ·simp [e4]
 ·simp [e5]
 ·simp [e6,hz]
 ·exact m5.keep (by simp) (fun N _=>by simp) (fun N _=>by simp) (by dsimp only; omega)
 ·repeat (first | exact cm | refine q28.set ?_ (by omega))
 ·exact cg
 ·exact co
 ·dsimp only; omega
 ·exact ((((((((cl.mono (by dsimp only; omega)).set q05).set q05).set q05).set q05).set q05).set q05).set q05).set q05
 ·dsimp only
  repeat (first | exact lowE.mono (by omega) | refine LowE.put ?_ (fun _ _ _=>rfl) | refine LowE.put ?_ (q1H (by omega)))
 ·dsimp only; omega
 ·simp
 ·dsimp only; omega
 ·refine ⟨.sl true [],_,by simp; rfl,?_,.inl ⟨?_,rfl⟩⟩
  ·rw [rb]; simp [typL,Typ.of]
  ·rw [rb]; rfl
theorem kind8p_ev (dd:(ndAt l (i:Int)).kind=8) (hc:¬ keyZ l (ndAt l (i:Int)).b<0) (hk:∀ n8 s',q9C n0 s0 dn l i n8 s'->q2b.run (evC allT q01) (evK allT q01) s' k=some r):q19.run (evC allT q01) (evK allT q01) s k=some r:=by
 obtain ⟨e1,m1,e2,m2,e4,e5,e6,m5,⟨cm,cg,co,cn,cl⟩,lowE,lt⟩:=h;have ub:=q5a (dn:=dn) hl (z:=(i:Int)) (by omega) (by omega);have g:l[i]?=some l[i]:=y5 hi;have gm:(l.map ndeC)[i]?=some (ndeC (ndAt l (i:Int))):=by simp [ndAt,g]
 have sb:kdAt l (i:Int)=8:=by rw [<- dd]; simp [kdAt,ndAt,g]
 have rb:typZ l (i:Int)={ Typ.of 8 ⟨#[]⟩ with max:=(ndAt l (i:Int)).a % 4,key:=keyZ l (ndAt l (i:Int)).b,elem:=(ndAt l (i:Int)).c % l.length }:=by simp only [typZ,dd]; rw [if_neg hc]
 have hx:=q3P hl hi;rw [sb] at ub;generalize ndAt l (i:Int)=x at *
 have jb:=q1W 8;obtain ⟨xk,xa,xb,xc,_⟩:=hx0 x hx;have kv:x.a.tmod 4=x.a % 4:=yy xa.1;have zu:IntKind.i64.wrap (x.a % 4)=x.a % 4:=IntWalk.i64_in _ (by omega);have ck:IntKind.i64.wrap x.c=x.c:=IntWalk.i64_in _ (by simp only [u8] at xc; omega);have gA:x.c.tmod l.length=x.c % l.length:=yy xc.1;have oq:¬ (l.length:Int)=0:=by omega
 have pg:¬ l=[]:=by intro e; rw [e] at hi; simp at hi
 have bc:=key_ev dn l hl x.b xb;simp only [evA,dftC] at bc;simp only [evA,dftC,ndeC] at ub gm;obtain ⟨z,hz⟩:∃ z:Int,z=i:=⟨_,rfl⟩;have gc:0<=z:=by omega
 rw [<- hz] at e6 ub;rw [show i=z.toNat from by omega] at gm;simp [q19,-V,-y3,-y0,J,e1,m1,e4,e6,gc,gm,ub,jb,kv,zu,ck,gA,oq,pg,bc,hc];refine hk (s.next + 1) _ ⟨⟨?_,?_,?_,?_,?_,?_,?_,?_,⟨?_,?_,?_,?_,?_⟩,?_,?_⟩,?_,?_,?_⟩
 ·simp [e1]
 ·simp [m1]
 ·simp [e2]
 ·simpa using m2
 ·simp [e4]
 ·simp [e5]
 ·simp [e6,hz]
 ·exact m5.keep (by simp) (fun N _=>by simp) (fun N _=>by simp) (by dsimp only; omega)
 ·repeat (first | exact cm | refine q28.set ?_ (by omega))
 ·exact cg
 ·exact co
 ·dsimp only; omega
 ·exact (((((((cl.mono (by dsimp only; omega)).set q05).set q05).set q05).set q05).set q05).set q05).set q05
 ·dsimp only
  repeat (first | exact lowE.mono (by omega) | refine LowE.put ?_ (fun _ _ _=>rfl) | refine LowE.put ?_ (q1H (by omega)))
 ·dsimp only; omega
 ·simp
 ·dsimp only; omega
 ·refine ⟨.sl true [],_,by simp; rfl,?_,.inl ⟨?_,rfl⟩⟩
  ·rw [rb]; simp [typL,Typ.of]
  ·rw [rb]; rfl
end
end
section
set_option maxHeartbeats 4000000
theorem rowOf_pure (l:List (List AV)):∀ x∈q0c l,qaO x:=fun x hx=>by
 obtain ⟨v,_,rfl⟩:=yw.1 hx;exact qbO v
theorem q7D.stay {ms:List Mem} {c:AV} {s s':MSt} (h:q7D ms c s) (hm:∀ n r,s.mem 88 n=some r->(∀ x∈r,qaO x)->s'.mem 88 n=some r) (hn:s.next<=s'.next):q7D ms c s':=by
 rcases h with h | ⟨N,h1,h2,h3,h4⟩
 ·exact .inl h
 ·exact .inr ⟨N,h1,Nat.lt_of_lt_of_le h2 hn,h3,hm N _ h4 (rowOf_pure _)⟩
theorem q7H.stay {S:List Typ} {L:List (List AV)} {s s':MSt} (h:q7H S L s) (hm:∀ n r,s.mem 88 n=some r->(∀ x∈r,qaO x)->s'.mem 88 n=some r) (hn:s.next<=s'.next):q7H S L s' :=
 ⟨h.1,fun i t c ht hc=>by obtain ⟨m,h1,h2⟩:=h.2 i t c ht hc; exact ⟨m,h1,h2.stay hm hn⟩⟩
theorem M5I.stay {n0:Nat} {l:List Nde} {i:Nat} {s s':MSt} (h:M5I n0 l i s) (hm:∀ t n r,(t=5\/t=88\/t=168)->s.mem t n=some r->(∀ x∈r,qaO x)->s'.mem t n=some r) (hn:s.next<=s'.next):M5I n0 l i s':=by
 rcases h with ⟨h1,a,h2,h3⟩ | ⟨N,L,h1,h2,h0,h3,h4,h6,h7⟩
 ·exact .inl ⟨h1,a,hm 5 _ _ (.inl rfl) h2 (by simpa using h3),h3⟩
 ·exact .inr ⟨N,L,h1,hm 5 _ _ (.inl rfl) h2 (by simpa using qbO _),h0,Nat.lt_of_lt_of_le h3 hn,hm 168 _ _ (.inr (.inr rfl)) h4 (rowOf_pure _),h6,h7.stay (fun n r=>hm 88 n r (.inr (.inl rfl))) hn⟩
theorem kind4_ev {r:RV} {n0:Nat} {s0:MSt} {dn:Bool} {l:List Nde} (hl:oks l) (hG:PureE s0.gh) (hP:PureM n0 s0.mem) {i:Nat} (hi:i<l.length) {s:MSt} {k:Ex->MSt->Option RV} (h:OfI n0 s0 dn l i s) (dd:(ndAt l (i:Int)).kind=4) (hk:∀ n8 s',q9C n0 s0 dn l i n8 s'->q2b.run (evC allT q01) (evK allT q01) s' k=some r):q19.run (evC allT q01) (evK allT q01) s k=some r:=by
 obtain ⟨e1,m1,e2,m2,e4,e5,e6,m5,⟨cm,cg,co,cn,cl⟩,lowE,lt⟩:=h;have ub:=q5a (dn:=dn) hl (z:=(i:Int)) (by omega) (by omega);have g:l[i]?=some l[i]:=y5 hi;have gm:(l.map ndeC)[i]?=some (ndeC (ndAt l (i:Int))):=by simp [ndAt,g]
 have sb:kdAt l (i:Int)=4:=by rw [<- dd]; simp [kdAt,ndAt,g]
 have rb:typZ l (i:Int)={ Typ.of 4 (q8f i) with opn:=decide ((ndAt l (i:Int)).b % 2=1),sn:=false,syms:=q7n (ndAt l (i:Int)).a }:=by simp only [typZ,dd]
 have hx:=q3P hl hi;have wA:=hl.2.1;rw [sb] at ub;generalize ndAt l (i:Int)=x at *
 have jb:=q1W 4;have wg:=ids7_ev x hx;obtain ⟨xk,xa,xb,xc,_⟩:=hx0 x hx;have xy:x.b.tmod 2=x.b % 2:=yy xb.1;simp only [evA,dftC,ndeC] at ub gm wg;obtain ⟨z,hz⟩:∃ z:Int,z=i:=⟨_,rfl⟩;have gc:0<=z:=by omega
 have ju:IntKind.i64.wrap (65 + z)=65 + z:=IntWalk.i64_in _ (by omega);have ol:IntKind.i32.wrap (65 + z)=65 + z:=i32_in _ (by omega);rw [<- hz] at e6 ub;rw [show i=z.toNat from by omega] at gm;simp [q19,-V,-y3,-y0,J,e1,m1,e4,e6,gc,gm,ub,jb,wg,xy,ju,ol];refine esyms_ev (a:=x.a) (n8:=s.next + 1) (nm:=Utf8.encode (65 + z)) (op:=decide (x.b % 2=1)) _ _ ?_ ?_ ?_ ?_ ?_ ?_ ?_ ?_ (fun s' h1 h2 h3 h4 h5 h6 h7 h8=>?_)
 ·simp
 ·simp
 ·simp
 ·dsimp only; omega
 ·simp [q6D]
 ·show PureE s.gh;rw [cg]; exact hG
 ·exact ((((((cl.mono (by dsimp only; omega)).set q05).set q05).set q05).set q05).set q05).set q05
 ·dsimp only
  repeat (first | exact lowE.mono (by omega) | refine LowE.put ?_ (fun _ _ _=>rfl) | refine LowE.put ?_ (q1H (by omega)))
 ·obtain ⟨an,h8⟩:=h8;simp [-V,-y3,-y0,J];have za:∀ t n r,¬ t=8->¬ t=7->s.mem t n=some r->(∀ x∈r,qaO x)->s'.mem t n=some r:=fun t n r t8 t7 hr hp=>by
   refine (h2 t n (by omega) fun r' ff=>?_).trans ?_
   ·simp [t7,t8,hr] at ff;subst ff;exact hp
   ·simp [t7,t8,hr]
  refine hk (s.next + 1) s' ⟨⟨(h1 1 (by omega)).trans (by simp [e1]),za 1 n0 _ (by omega) (by omega) m1 (by simpa using qbO _),(h1 2 (by omega)).trans (by simp [e2]),?_,(h1 4 (by omega)).trans (by simp [e4]),(h1 5 (by omega)).trans (by simp [e5]),(h1 6 (by omega)).trans (by simp [e6,hz]),?_,⟨?_,?_,?_,?_,h6⟩,h7,?_⟩,(h1 8 (by omega)).trans (by simp),?_,?_⟩
  ·obtain ⟨a,m2,p2⟩:=m2;exact ⟨a,za 2 n0 _ (by omega) (by omega) m2 (by simpa using p2),p2⟩
  ·exact m5.stay (fun t n r ht=>za t n r (by omega) (by omega)) (by dsimp only at h5; omega)
  ·intro t n hn;refine (h2 t n (by omega) fun r' ff=>?_).trans ?_
   ·simp [show ¬ n=s.next from by omega,show ¬ n=s.next + 1 from by omega,cm t n hn] at ff;exact hP t n r' hn ff
   ·simp [show ¬ n=s.next from by omega,show ¬ n=s.next + 1 from by omega,cm t n hn]
  ·rw [h3]; exact cg
  ·rw [h4]; exact co
  ·dsimp only at h5; omega
  ·dsimp only at h5; omega
  ·dsimp only at h5; omega
  ·refine ⟨.sl true [],_,h8,?_,.inl ⟨?_,rfl⟩⟩
   ·rw [rb,hz]; simp [typL,Typ.of,q6D,q8f]
   ·rw [rb]; rfl
end
section
set_option maxHeartbeats 4000000
theorem LowE.wait {m nt:Nat} {e g:Nat->Slot} (h:LowE m e) (h':LowE m g):LowE m (waitE nt e g):=fun t=>by
 rw [q32];split
 ·exact h t
 ·exact h' _
theorem LowE.back {m nt:Nat} {g:Nat->Slot} (h:LowE m g):LowE m (backE nt g):=fun t=>by
 rw [q8I];split
 ·exact h t
 ·exact fun _ _ _=>rfl
theorem rest_wait (nt:Nat) (e g:Nat->Slot):restE nt (waitE nt e g)=g:=funext fun t=>by
 rw [restE_at,q32,if_neg (by omega)];congr 1;omega
theorem q28.trans {m m':Nat} {A B C:Nat->Nat->Option (List Slot)} (h:q28 m A B) (h':q28 m' B C) (hm:m<=m'):q28 m A C:=fun t n hn=>(h' t n (by omega)).trans (h t n hn)
theorem q7D.lowV {ms:List Mem} {c:AV} {s:MSt} (h:q7D ms c s):lowV s.next c:=lowV_of h.low (by
 rcases h with ⟨_,rfl⟩ | ⟨N,_,_,rfl,_⟩ <;> rfl)
section
variable {r:RV} {n0:Nat} {s0:MSt} {dn:Bool} {l:List Nde} (hl:oks l) (hG:LowE n0 s0.gh) {i:Nat} (hi:i<l.length) {s:MSt} {k:Ex->MSt->Option RV} (h:OfI n0 s0 dn l i s)
include r n0 s0 dn l hl hG i hi s k h
theorem kind5_ev (dd:(ndAt l (i:Int)).kind=5) (hk:∀ n8 s',q9C n0 s0 dn l i n8 s'->q2b.run (evC allT q01) (evK allT q01) s' k=some r):q19.run (evC allT q01) (evK allT q01) s k=some r:=by
 obtain ⟨e1,m1,e2,m2,e4,e5,e6,m5,⟨cm,cg,co,cn,cl⟩,lowE,lt⟩:=h;have ub:=q5a (dn:=dn) hl (z:=(i:Int)) (by omega) (by omega);have g:l[i]?=some l[i]:=y5 hi;have gm:(l.map ndeC)[i]?=some (ndeC (ndAt l (i:Int))):=by simp [ndAt,g]
 have gx:l[((i:Int)).toNat]?=some (ndAt l (i:Int)):=by simp [ndAt,g]
 have sb:kdAt l (i:Int)=5:=by rw [<- dd]; simp [kdAt,ndAt,g]
 have rb:typZ l (i:Int)={ Typ.of 5 (q8f (i:Int)) with mn:=(q3B l (i:Int) true (ndAt l (i:Int)).parts).isEmpty,mems:=(q3B l (i:Int) true (ndAt l (i:Int)).parts) }:=by simp only [typZ,dd]
 have hx:=q3P hl hi;have wA:=hl.2.1;rw [sb] at ub;generalize ndAt l (i:Int)=x at *
 have jb:=q1W 5;obtain ⟨xk,xa,xb,xc,_⟩:=hx0 x hx;have xy:x.b.tmod 2=x.b % 2:=yy xb.1;simp only [evA,dftC,ndeC] at ub gm;obtain ⟨z,hz⟩:∃ z:Int,z=i:=⟨_,rfl⟩;have gc:0<=z:=by omega
 have mo:z<l.length:=by omega
 have ju:IntKind.i64.wrap (65 + z)=65 + z:=IntWalk.i64_in _ (by omega);have ol:IntKind.i32.wrap (65 + z)=65 + z:=i32_in _ (by omega);rw [<- hz] at e6 ub gx rb;rw [show i=z.toNat from by omega] at gm;simp [q19,-V,-y3,-y0,J,e1,m1,e4,e6,gc,gm,ub,jb,ju,ol,xy];refine parts_ev hl gc mo gx _ ?_ ?_ _ (fun y s' hc aB=>?_)
 ·exact (((((cl.mono (by dsimp only; omega)).set q05).set q05).set q05).set q05).set q05
 ·dsimp only;refine LowE.wait ?_ (by rw [cg]; exact hG.mono (by omega))
  repeat (first | exact lowE.mono (by omega) | refine LowE.put ?_ (fun _ _ _=>rfl) | refine LowE.put ?_ (q1H (by omega)))
 ·obtain ⟨nk,ij,nB,dG,fG⟩:=hc;dsimp only at ij nB dG nk;have sq:=aB.mems;have mq:=sq.lowV;have g1:(s'.gh 1).v=.ptr 1 n0 0:=by rw [ij]; simp [q32,e1]
  have g2:(s'.gh 2).v=.ptr 2 n0 0:=by rw [ij]; simp [q32,e2]
  have g4:(s'.gh 4).v=.int .i64 l.length:=by rw [ij]; simp [q32,e4]
  have g5:(s'.gh 5).v=.ptr 5 (n0 + 3) 0:=by rw [ij]; simp [q32,e5]
  have g6:(s'.gh 6).v=.int .i64 z:=by rw [ij]; simp [q32,e6]
  have g8:(s'.gh 8).v=.ptr 8 (s.next + 1) 0:=by rw [ij]; simp [q32]
  have m8:s'.mem 8 (s.next + 1)=some [⟨.int .i64 5,.no⟩,⟨.str (Utf8.encode (65 + z)),.no⟩,⟨.int .i64 0,.no⟩,⟨.int .i64 0,.no⟩,⟨.int .i64 0,.no⟩,⟨.sl true [],.no⟩,⟨.sl true [],.no⟩,⟨.int .i64 0,.no⟩,⟨.int .i64 0,.no⟩,⟨.bool false,.no⟩]:=by rw [nk 8 (s.next + 1) (by omega)]; simp
  have xv:LowE s'.next s'.gh:=by
   rw [ij];refine LowE.wait ?_ (by rw [cg]; exact hG.mono (by omega))
   repeat (first | exact lowE.mono (by omega) | refine LowE.put ?_ (fun _ _ _=>rfl) | refine LowE.put ?_ (q1H (by omega)))
  have fin:∀ (E:Nat->Slot) (M:Nat->Nat->Option (List Slot)) (row:List Slot) (nx:Nat),(∀ t,t<9->(E t).v=(s'.gh t).v)->LowE s'.next E->s'.next<nx->(∀ t n,M t n=if t=8/\n=s.next + 1 then some row else s'.mem t n)->(∀ q∈row,lowV s'.next q.v)->(∃ m,row.map (·.v)=typL (typZ l z) m/\q7D (typZ l z).mems m s')->q9C n0 s0 dn l i (s.next + 1) ⟨E,M,nx,s'.obj,restE 171 s'.gh⟩:=fun E M row nx hE nG pd hM rF hr=>by
   refine ⟨⟨?_,?_,?_,?_,?_,?_,?_,?_,⟨?_,?_,?_,?_,?_⟩,?_,?_⟩,?_,?_,?_⟩
   ·exact (hE 1 (by omega)).trans g1
   ·simp [hM,nk 1 n0 (by omega),m1]
   ·exact (hE 2 (by omega)).trans g2
   ·simpa [hM,nk 2 n0 (by omega)] using m2
   ·exact (hE 4 (by omega)).trans g4
   ·exact (hE 5 (by omega)).trans g5
   ·exact (hE 6 (by omega)).trans (by rw [g6,hz])
   ·refine m5.keep (by simp [hM,nk 5 (n0 + 3) (by omega)]) (fun N hN=>by simp [hM,nk 168 N (by omega)]) (fun N hN=>by simp [hM,nk 88 N (by omega)]) (by dsimp only; omega)
   ·intro t n hn;show M t n=_;rw [hM,if_neg (by omega),nk t n (by omega)];simp [show ¬ n=s.next from by omega,show ¬ n=s.next + 1 from by omega,cm t n hn]
   ·show restE 171 s'.gh=s0.gh;rw [ij,rest_wait];exact cg
   ·exact nB.trans co
   ·dsimp only; omega
   ·intro t n r' ff q hq;have ff:M t n=some r':=ff;rw [hM] at ff;split at ff
    ·injection ff with ff; subst ff;exact q5z (by dsimp only; omega) (rF q hq)
    ·exact q5z (by dsimp only; omega) (fG t n r' ff q hq)
   ·exact nG.mono (by dsimp only; omega)
   ·dsimp only; omega
   ·exact (hE 8 (by omega)).trans g8
   ·dsimp only; omega
   ·obtain ⟨m,df,oh⟩:=hr;rw [<- hz];refine ⟨m,row,by show M 8 _=_; rw [hM,if_pos ⟨rfl,rfl⟩],df,oh.keep (fun N hN=>?_) (by dsimp only; omega)⟩;show M 88 N=_;rw [hM,if_neg (by omega)]
  rcases sq with ⟨_,e⟩ | ⟨N,_,_,e,_⟩
  ·simp [-V,-y3,-y0,J,g8,m8,e];refine hk _ _ (fin _ _ _ _ (fun t ht=>?_) ?_ (by omega) (fun t n=>by simp [q0B]; rfl) (fun q hq=>?_) ?_)
   ·have q:∀ c,9<=c->¬ t=c:=fun c hc=>by omega
    simp [q,q8I,show t<171 from by omega]
   ·repeat (first | exact xv.back | refine LowE.put ?_ (fun _ _ _=>rfl) | refine LowE.put ?_ (q1H (by omega)) | refine LowE.put ?_ mq | refine LowE.put ?_ (by rw [<- e]; exact mq))
   ·simp only [yf,yG,or_false] at hq;rcases hq with rfl | rfl | rfl | rfl | rfl | rfl | rfl | rfl | rfl | rfl <;> first | exact q8w rfl | (rw [<- e]; exact mq)
   ·exact ⟨y.v,by rw [rb,e]; simp [typL,Typ.of,q8f],by rw [rb]; exact aB.mems⟩
  ·simp [-V,-y3,-y0,J,g8,m8,e];refine hk _ _ (fin _ _ _ _ (fun t ht=>?_) ?_ (by omega) (fun t n=>by simp [q0B]; rfl) (fun q hq=>?_) ?_)
   ·have q:∀ c,9<=c->¬ t=c:=fun c hc=>by omega
    simp [q,q8I,show t<171 from by omega]
   ·repeat (first | exact xv.back | refine LowE.put ?_ (fun _ _ _=>rfl) | refine LowE.put ?_ (q1H (by omega)) | refine LowE.put ?_ mq | refine LowE.put ?_ (by rw [<- e]; exact mq))
   ·simp only [yf,yG,or_false] at hq;rcases hq with rfl | rfl | rfl | rfl | rfl | rfl | rfl | rfl | rfl | rfl <;> first | exact q8w rfl | (rw [<- e]; exact mq)
   ·exact ⟨y.v,by rw [rb,e]; simp [typL,Typ.of,q8f],by rw [rb]; exact aB.mems⟩
theorem kind6_ev (dd:(ndAt l (i:Int)).kind=6) (hk:∀ n8 s',q9C n0 s0 dn l i n8 s'->q2b.run (evC allT q01) (evK allT q01) s' k=some r):q19.run (evC allT q01) (evK allT q01) s k=some r:=by
 obtain ⟨e1,m1,e2,m2,e4,e5,e6,m5,⟨cm,cg,co,cn,cl⟩,lowE,lt⟩:=h;have ub:=q5a (dn:=dn) hl (z:=(i:Int)) (by omega) (by omega);have g:l[i]?=some l[i]:=y5 hi;have gm:(l.map ndeC)[i]?=some (ndeC (ndAt l (i:Int))):=by simp [ndAt,g]
 have gx:l[((i:Int)).toNat]?=some (ndAt l (i:Int)):=by simp [ndAt,g]
 have sb:kdAt l (i:Int)=6:=by rw [<- dd]; simp [kdAt,ndAt,g]
 have rb:typZ l (i:Int)=if (q3B l (i:Int) false (ndAt l (i:Int)).parts).isEmpty=true then .of 5 (q8f (i:Int)) else { Typ.of 6 (q8f (i:Int)) with opn:=decide ((ndAt l (i:Int)).b % 2=1),mn:=false,mems:=(q3B l (i:Int) false (ndAt l (i:Int)).parts) }:=by simp only [typZ,dd]
 have hx:=q3P hl hi;have wA:=hl.2.1;rw [sb] at ub;generalize ndAt l (i:Int)=x at *
 have jb:=q1W 6;obtain ⟨xk,xa,xb,xc,_⟩:=hx0 x hx;have xy:x.b.tmod 2=x.b % 2:=yy xb.1;simp only [evA,dftC,ndeC] at ub gm;obtain ⟨z,hz⟩:∃ z:Int,z=i:=⟨_,rfl⟩;have gc:0<=z:=by omega
 have mo:z<l.length:=by omega
 have ju:IntKind.i64.wrap (65 + z)=65 + z:=IntWalk.i64_in _ (by omega);have ol:IntKind.i32.wrap (65 + z)=65 + z:=i32_in _ (by omega);rw [<- hz] at e6 ub gx rb;rw [show i=z.toNat from by omega] at gm;simp [q19,-V,-y3,-y0,J,e1,m1,e4,e6,gc,gm,ub,jb,ju,ol,xy];refine parts_ev hl gc mo gx _ ?_ ?_ _ (fun y s' hc aB=>?_)
 ·exact ((((((cl.mono (by dsimp only; omega)).set q05).set q05).set q05).set q05).set q05).set q05
 ·dsimp only;refine LowE.wait ?_ (by rw [cg]; exact hG.mono (by omega))
  repeat (first | exact lowE.mono (by omega) | refine LowE.put ?_ (fun _ _ _=>rfl) | refine LowE.put ?_ (q1H (by omega)))
 ·obtain ⟨nk,ij,nB,dG,fG⟩:=hc;dsimp only at ij nB dG nk;have sq:=aB.mems;have mq:=sq.lowV;have g1:(s'.gh 1).v=.ptr 1 n0 0:=by rw [ij]; simp [q32,e1]
  have g2:(s'.gh 2).v=.ptr 2 n0 0:=by rw [ij]; simp [q32,e2]
  have g4:(s'.gh 4).v=.int .i64 l.length:=by rw [ij]; simp [q32,e4]
  have g5:(s'.gh 5).v=.ptr 5 (n0 + 3) 0:=by rw [ij]; simp [q32,e5]
  have g6:(s'.gh 6).v=.int .i64 z:=by rw [ij]; simp [q32,e6]
  have g8:(s'.gh 8).v=.ptr 8 (s.next + 1) 0:=by rw [ij]; simp [q32]
  have m8:s'.mem 8 (s.next + 1)=some [⟨.int .i64 6,.no⟩,⟨.str (Utf8.encode (65 + z)),.no⟩,⟨.int .i64 0,.no⟩,⟨.int .i64 0,.no⟩,⟨.int .i64 0,.no⟩,⟨.sl true [],.no⟩,⟨.sl true [],.no⟩,⟨.int .i64 0,.no⟩,⟨.int .i64 0,.no⟩,⟨.bool (decide (x.b % 2=1)),.no⟩]:=by rw [nk 8 (s.next + 1) (by omega)]; simp
  have xv:LowE s'.next s'.gh:=by
   rw [ij];refine LowE.wait ?_ (by rw [cg]; exact hG.mono (by omega))
   repeat (first | exact lowE.mono (by omega) | refine LowE.put ?_ (fun _ _ _=>rfl) | refine LowE.put ?_ (q1H (by omega)))
  have fin:∀ (E:Nat->Slot) (M:Nat->Nat->Option (List Slot)) (row:List Slot) (nx:Nat),(∀ t,t<9->(E t).v=(s'.gh t).v)->LowE s'.next E->s'.next<nx->(∀ t n,M t n=if t=8/\n=s.next + 1 then some row else s'.mem t n)->(∀ q∈row,lowV s'.next q.v)->(∃ m,row.map (·.v)=typL (typZ l z) m/\q7D (typZ l z).mems m s')->q9C n0 s0 dn l i (s.next + 1) ⟨E,M,nx,s'.obj,restE 171 s'.gh⟩:=fun E M row nx hE nG pd hM rF hr=>by
   refine ⟨⟨?_,?_,?_,?_,?_,?_,?_,?_,⟨?_,?_,?_,?_,?_⟩,?_,?_⟩,?_,?_,?_⟩
   ·exact (hE 1 (by omega)).trans g1
   ·simp [hM,nk 1 n0 (by omega),m1]
   ·exact (hE 2 (by omega)).trans g2
   ·simpa [hM,nk 2 n0 (by omega)] using m2
   ·exact (hE 4 (by omega)).trans g4
   ·exact (hE 5 (by omega)).trans g5
   ·exact (hE 6 (by omega)).trans (by rw [g6,hz])
   ·refine m5.keep (by simp [hM,nk 5 (n0 + 3) (by omega)]) (fun N hN=>by simp [hM,nk 168 N (by omega)]) (fun N hN=>by simp [hM,nk 88 N (by omega)]) (by dsimp only; omega)
   ·intro t n hn;show M t n=_;rw [hM,if_neg (by omega),nk t n (by omega)];simp [show ¬ n=s.next from by omega,show ¬ n=s.next + 1 from by omega,cm t n hn]
   ·show restE 171 s'.gh=s0.gh;rw [ij,rest_wait];exact cg
   ·exact nB.trans co
   ·dsimp only; omega
   ·intro t n r' ff q hq;have ff:M t n=some r':=ff;rw [hM] at ff;split at ff
    ·injection ff with ff; subst ff;exact q5z (by dsimp only; omega) (rF q hq)
    ·exact q5z (by dsimp only; omega) (fG t n r' ff q hq)
   ·exact nG.mono (by dsimp only; omega)
   ·dsimp only; omega
   ·exact (hE 8 (by omega)).trans g8
   ·dsimp only; omega
   ·obtain ⟨m,df,oh⟩:=hr;rw [<- hz];refine ⟨m,row,by show M 8 _=_; rw [hM,if_pos ⟨rfl,rfl⟩],df,oh.keep (fun N hN=>?_) (by dsimp only; omega)⟩;show M 88 N=_;rw [hM,if_neg (by omega)]
  rcases sq with ⟨h0,e⟩ | ⟨N,h0,_,e,_⟩
  ·simp [-V,-y3,-y0,J,g8,m8,e];refine hk _ _ (fin _ _ _ _ (fun t ht=>?_) ?_ (by omega) (fun t n=>by simp [q0B]; split <;> rfl) (fun q hq=>?_) ?_)
   ·have q:∀ c,9<=c->¬ t=c:=fun c hc=>by omega
    simp [q,q8I,show t<171 from by omega]
   ·repeat (first | exact xv.back | refine LowE.put ?_ (fun _ _ _=>rfl) | refine LowE.put ?_ (q1H (by omega)) | refine LowE.put ?_ mq | refine LowE.put ?_ (by rw [<- e]; exact mq))
   ·simp only [yf,yG,or_false] at hq;rcases hq with rfl | rfl | rfl | rfl | rfl | rfl | rfl | rfl | rfl | rfl <;> first | exact q8w rfl | (rw [<- e]; exact mq)
   ·refine ⟨.sl true [],?_,.inl ⟨?_,rfl⟩⟩
    ·rw [rb,if_pos (by simp [h0])]; simp [typL,Typ.of,q8f]
    ·rw [rb,if_pos (by simp [h0])]; rfl
  ·have pg:¬ ((q3B l z false x.parts).length:Int)=0:=by
    have:=List.length_pos_iff.2 h0;omega
   simp [-V,-y3,-y0,J,g8,m8,e,pg,h0];refine hk _ _ (fin _ _ _ _ (fun t ht=>?_) ?_ (by omega) (fun t n=>by simp [q0B]; rfl) (fun q hq=>?_) ?_)
   ·have q:∀ c,9<=c->¬ t=c:=fun c hc=>by omega
    simp [q,q8I,show t<171 from by omega]
   ·repeat (first | exact xv.back | refine LowE.put ?_ (fun _ _ _=>rfl) | refine LowE.put ?_ (q1H (by omega)) | refine LowE.put ?_ mq | refine LowE.put ?_ (by rw [<- e]; exact mq))
   ·simp only [yf,yG,or_false] at hq;rcases hq with rfl | rfl | rfl | rfl | rfl | rfl | rfl | rfl | rfl | rfl <;> first | exact q8w rfl | (rw [<- e]; exact mq)
   ·exact ⟨y.v,by rw [rb,if_neg (by simpa using h0),e]; simp [typL,Typ.of,q8f],by rw [rb,if_neg (by simpa using h0)]; exact aB.mems⟩
end
end
section
set_option maxHeartbeats 4000000
structure OfJ (n0:Nat) (s0:MSt) (dn:Bool) (l:List Nde) (i j:Nat) (s:MSt):Prop where
 e1:(s.env 1).v=.ptr 1 n0 0
 m1:s.mem 1 n0=some [⟨.sl dn (l.map ndeC),.no⟩]
 e2:(s.env 2).v=.ptr 2 n0 0
 m2:∃ a,s.mem 2 n0=some [⟨.sl true [],a⟩]/\qaO ⟨.sl true [],a⟩
 e4:(s.env 4).v=.int .i64 l.length
 e5:(s.env 5).v=.ptr 5 (n0 + 3) 0
 e6:(s.env 6).v=.int .i64 i
 m5:M5I n0 l j s
 calm:Calm n0 s0 s
 lowE:LowE s.next s.env
 lt:n0 + 3<s.next
theorem q3D {sz:Nat} {L:List (List AV)} (h:∀ c∈L,c.length=sz):q5G (q0c L) sz 0 L.length=some L:=by
 have ja:∀ {L:List (List AV)},(∀ c∈L,c.length=sz)->L.flatten.length=L.length * sz:=by
  intro L h
  induction L with
  | nil=>simp
  | cons c r ih =>
   simp only [yB,yp,yH];rw [ih fun c hc=>h c (yq _ hc),h c yk,yt];omega
 have hv:∀ l:List AV,(l.map fun v=>(⟨v,An.no⟩:Slot)).map (·.v)=l:=fun l=>by simp [Function.comp_def]
 unfold q5G;rw [if_pos (by rw [q0c,yo,ja h]; omega)];congr 1;refine List.ext_getElem (by simp) fun i h1 h2=>?_
 simp only [List.getElem_map,List.getElem_range,yF];simp only [q0c];rw [<- List.map_drop,<- List.map_take,hv]
 induction L generalizing i with
 | nil=>simp at h2
 | cons c r ih =>
  have hc:=h c yk;cases i with
  | zero=>simp [<- hc]
  | succ i =>
   simp only [yB,List.getElem_cons_succ];rw [yt,Nat.add_comm,<- hc,<- List.drop_drop];rw [List.drop_left,hc];exact ih (fun c hc=>h c (yq _ hc)) i (by simpa using h2) (by simpa using h2)
theorem q7D.stay2 {ms:List Mem} {c:AV} {s s':MSt} (h:q7D ms c s) (hm:∀ n L,q2l L=true->s.mem 88 n=some (q0c L)->s'.mem 88 n=some (q0c L)) (hn:s.next<=s'.next):q7D ms c s':=by
 rcases h with h | ⟨N,h1,h2,h3,h4⟩
 ·exact .inl h
 ·exact .inr ⟨N,h1,Nat.lt_of_lt_of_le h2 hn,h3,hm N _ (mems_free _) h4⟩
theorem q7H.stay2 {S:List Typ} {L:List (List AV)} {s s':MSt} (h:q7H S L s) (hm:∀ n L,q2l L=true->s.mem 88 n=some (q0c L)->s'.mem 88 n=some (q0c L)) (hn:s.next<=s'.next):q7H S L s' :=
 ⟨h.1,fun i t c ht hc=>by obtain ⟨m,h1,h2⟩:=h.2 i t c ht hc; exact ⟨m,h1,h2.stay2 hm hn⟩⟩
theorem tail_ev {r:RV} {n0:Nat} {s0:MSt} {dn:Bool} {l:List Nde} (hl:oks l) (kN:LowM n0 s0.mem) (hG:LowE n0 s0.gh) {i:Nat} (hi:i<l.length) {n8:Nat} {s:MSt} {k:Ex->MSt->Option RV} (h:q9C n0 s0 dn l i n8 s) (hk:∀ s',OfJ n0 s0 dn l i (i + 1) s'->k .nrm s'=some r):q2b.run (evC allT q01) (evK allT q01) s k=some r:=by
 obtain ⟨⟨e1,m1,e2,m2,e4,e5,e6,m5,⟨cm,cg,co,cn,cl⟩,lowE,lt⟩,e8,lt8,m,row,m8,ka,sq⟩:=h;have wA:=hl.2.1;generalize hT:typZ l (i:Int)=T at *
 have dt:=sq;have ja:row.length=10:=by have:=congrArg List.length ka; simpa [typL] using this
 have zr:q0Y true 10 0 row=some ⟨.agg (typL T m),.no⟩:=by
  unfold q0Y;simp [ja,<- ka];rw [yD (by rw [yo]; omega)]
 have oE:(typL T m).length=10:=rfl;have dP:∀ t n,t≠88->m.noName t n=true:=fun t n ht=>by
  rcases sq with ⟨_,rfl⟩ | ⟨N,_,_,rfl,_⟩
  ·rfl
  ·simp [AV.noName];omega
 have bP:m.leaf=true:=by
  rcases sq with ⟨_,rfl⟩ | ⟨N,_,_,rfl,_⟩ <;> rfl
 have ox:∀ t n,t≠88->(typL T m).all (AV.noName t n)=true:=fun t n ht=>by
  refine y4.2 fun c hc=>?_
  simp only [typL,yf,yG,or_false] at hc;rcases hc with rfl | rfl | rfl | rfl | rfl | rfl | rfl | rfl | rfl | rfl <;> first | exact dP t n ht | rfl
 have xo:∀ c∈typL T m,low0 s.next c:=fun c hc=>by
  simp only [typL,yf,yG,or_false] at hc;rcases hc with rfl | rfl | rfl | rfl | rfl | rfl | rfl | rfl | rfl | rfl <;> first | exact dt.low | exact q9X rfl
 have ls:∀ c∈typL T m,c.leaf=true:=fun c hc=>by
  simp only [typL,yf,yG,or_false] at hc;rcases hc with rfl | rfl | rfl | rfl | rfl | rfl | rfl | rfl | rfl | rfl <;> first | exact bP | rfl
 have ba:q0G 120 (i + 1)=true:=by rw [q0d]; omega
 have om:(AV.agg (typL T m)).whole=true:=rfl;rcases m5 with ⟨bh,a,h5,hp5⟩ | ⟨N,L,bh,h5,oq,hN,sk,tE,rb⟩
 ·subst bh;have dz:q13 10 [typL T m]=true:=rfl;have cA:q5G (q0c [typL T m]) 10 0 1=some [typL T m]:=q3D (L:=[typL T m]) (by simp [oE]);generalize hC:typL T m=C at *
  have mG:C.length=10:=oE;simp [q2b,-V,-y3,-y0,J,-q0Y,-q0f,q0K,q0S,q0o,q0p,e5,e8,h5,m8,zr,AV.raws,cA,ba,dz,mG];have dl:∀ x∈q0c [C],lowV s.next x.v:=low_row (fun c hc=>by simp only [yU] at hc; subst hc; exact xo) (fun c hc=>by simp only [yU] at hc; subst hc; exact ls);refine hk _ ⟨?_,?_,?_,?_,?_,?_,?_,.inr ⟨s.next,[C],by omega,by simp,by omega,by dsimp only; omega,by simp,rfl,?_⟩,⟨?_,?_,?_,?_,?_⟩,?_,?_⟩
  ·simp [e1]
  ·simp [m1]
  ·simp [e2]
  ·simpa using m2
  ·simp [e4]
  ·simp [e5]
  ·simp [e6]
  ·refine ⟨rfl,fun j t c ht hc=>?_⟩;have hj:j=0:=by
    rcases yI j with h0 | h0
    ·exact h0
    ·rw [yL (by simp; omega)] at hc; cases hc
   subst hj;simp at ht hc;subst ht;subst hc;rw [show typZ l (0:Int)=T from hT];exact ⟨m,hC.symm,sq.keep (fun N hN=>by simp) (by dsimp only; omega)⟩
  ·repeat (first | exact cm | refine q28.set ?_ (by omega))
  ·exact cg
  ·exact co
  ·dsimp only; omega
  ·exact ((((cl.set dl).set dl).mono (Nat.le_succ _)).set fun x hx=>by simp at hx; subst hx; exact q9Y (by omega))
  ·dsimp only;have py:lowV s.next (.agg C):=lowV_agg xo
   repeat (first | exact lowE.mono (by omega) | refine LowE.put ?_ (fun _ _ _=>rfl) | refine LowE.put ?_ (q1H (by omega)) | refine LowE.put ?_ (q9Y (by omega)) | refine LowE.put ?_ (q5z (by omega) py))
  ·dsimp only; omega
 ·have zd:∀ c∈L,c.length=10:=fun c hc=>by simpa using y4.1 rb.els c hc
  have dz:q13 10 [typL T m]=true:=rfl;have cA:q5G (q0c [typL T m]) 10 0 1=some [typL T m]:=q3D (L:=[typL T m]) (by simp [oE]);have rD:q5G (q0c L) 10 0 i=some L:=by rw [<- tE]; exact q3D zd
  have pI:(L++[typL T m]).flatten.all (AV.noName 168 N)=true:=by
   rw [List.flatten_append,List.all_append,y7];refine ⟨y4.2 fun v hv=>?_,by simpa using ox 168 N (by omega)⟩;obtain ⟨c,hc,hv⟩:=List.mem_flatten.1 hv;obtain ⟨j,hj,rfl⟩:=yx hc;have dF:j<((List.range i).map fun (j:Nat)=>typZ l (j:Int)).length:=by rw [rb.1]; exact hj
   obtain ⟨m',h1,h2⟩:=rb.2 j _ _ (y5 dF) (y5 hj);rw [h1] at hv;simp only [typL,yf,yG,or_false] at hv;rcases hv with rfl | rfl | rfl | rfl | rfl | rfl | rfl | rfl | rfl | rfl <;> first | rfl | skip
   rcases h2 with ⟨_,rfl⟩ | ⟨N',_,_,rfl,_⟩ <;> rfl
  generalize hC:typL T m=C at *
  have mG:C.length=10:=oE;simp [q2b,-V,-y3,-y0,J,-q0Y,-q0f,q0K,q0S,q0o,q0p,e5,e8,h5,m8,zr,AV.raws,cA,rD,sk,ba,dz,mG,pI,-y4,-List.flatten_append,-List.all_flatten,-List.all_append];have ue:killE 168 N s.gh=s.gh:=by rw [cg]; exact hG.same oq
  have za:∀ (s':MSt),s'.mem=setM (setM (killM 168 N (setM s.mem 167 s.next (q0c [C]))) 168 s.next (q0c (L++[C]))) 5 (n0 + 3) [⟨.ref 168 s.next 10 0 (i + 1) (i + 1),.no⟩]->∀ n L,q2l L=true->s.mem 88 n=some (q0c L)->s'.mem 88 n=some (q0c L):=fun s' fi n L' iN h'=>by
   rw [fi];simp [h',rowOf_kill iN]
  have dl:∀ x∈q0c [C],lowV s.next x.v:=low_row (fun c hc=>by simp only [yU] at hc; subst hc; exact xo) (fun c hc=>by simp only [yU] at hc; subst hc; exact ls);have uz:∀ x∈q0c (L++[C]),lowV s.next x.v:=fun x hx=>by
   rw [q0c,List.flatten_append,List.map_append] at hx;rcases yu.1 hx with hx | hx
   ·exact cl 168 N _ sk x hx
   ·exact dl x hx
  refine hk _ ⟨?_,?_,?_,?_,?_,?_,?_,.inr ⟨s.next,L++[C],by omega,by simp,by omega,by dsimp only; omega,by simp,by simp [tE],?_⟩,⟨?_,?_,?_,?_,?_⟩,?_,?_⟩
  ·simp [q0y,e1,AV.kill,AV.kill0]
  ·simp [q0D,m1,AV.kill,AV.kill0]
  ·simp [q0y,e2,AV.kill,AV.kill0]
  ·obtain ⟨a,m2,p2⟩:=m2;exact ⟨a,by simp [q0D,m2,AV.kill,AV.kill0],p2⟩
  ·simp [q0y,e4,AV.kill,AV.kill0]
  ·simp [q0y,e5,AV.kill,AV.kill0]
  ·simp [q0y,e6,AV.kill,AV.kill0]
  ·rw [J,List.map_append,yh,yr,hT];subst hC;exact (rb.stay2 (za _ rfl) (by dsimp only; omega)).snoc (sq.stay2 (za _ rfl) (by dsimp only; omega))
  ·exact (((cm.set (by omega)).kill kN oq).set (by omega)).set (by omega)
  ·show killE 168 N s.gh=s0.gh;rw [ue];exact cg
  ·exact co
  ·dsimp only; omega
  ·exact ((((cl.set dl).kill.set uz).mono (Nat.le_succ _)).set fun x hx=>by simp at hx; subst hx; exact q9Y (by omega))
  ·dsimp only;have py:lowV s.next (.agg C):=lowV_agg xo;have hN':N<s.next + 1:=by omega
   repeat (first | exact lowE.mono (by omega) | refine LowE.kill ?_ | refine LowE.put ?_ (fun _ _ _=>rfl) | refine LowE.put ?_ (q1H (by omega)) | refine LowE.put ?_ (q9Y (by omega)) | refine LowE.put ?_ (q5z (by omega) py))
  ·dsimp only; omega
end
section
set_option maxHeartbeats 4000000
theorem head_ev {r:RV} {n0:Nat} {s0:MSt} {dn:Bool} {l:List Nde} (hl:oks l) (hM:LowM n0 s0.mem) (hP:PureM n0 s0.mem) (hG:LowE n0 s0.gh) (pG:PureE s0.gh) {i:Nat} (hi:i<l.length) {s:MSt} {k:Ex->MSt->Option RV} (h:OfI n0 s0 dn l i s) (hk:∀ s',OfJ n0 s0 dn l i (i + 1) s'->k .nrm s'=some r):q19.run (evC allT q01) (evK allT q01) s k=some r:=by
 have ht:∀ n8 s',q9C n0 s0 dn l i n8 s'->q2b.run (evC allT q01) (evK allT q01) s' k=some r:=fun n8 s' h'=>tail_ev hl hM hG hi h' hk
 have hx:=q3P hl hi;have hr:1<=(ndAt l (i:Int)).kind/\(ndAt l (i:Int)).kind<=9:=by
  have:=hx.1.1;simp only [Nde.kind];omega
 by_cases h1:(ndAt l (i:Int)).kind=1
 ·exact kind1_ev hl hi h h1 ht
 by_cases h2:(ndAt l (i:Int)).kind=2
 ·exact kind2_ev hl hi h h2 ht
 by_cases h3:(ndAt l (i:Int)).kind=3
 ·exact kind3_ev hl hi h h3 ht
 by_cases h4:(ndAt l (i:Int)).kind=4
 ·exact kind4_ev hl pG hP hi h h4 ht
 by_cases h5:(ndAt l (i:Int)).kind=5
 ·exact kind5_ev hl hG hi h h5 ht
 by_cases h6:(ndAt l (i:Int)).kind=6
 ·exact kind6_ev hl hG hi h h6 ht
 by_cases h7:(ndAt l (i:Int)).kind=7
 ·exact kind7_ev hl hi h h7 ht
 by_cases h8:(ndAt l (i:Int)).kind=8
 ·by_cases hc:keyZ l (ndAt l (i:Int)).b<0
  ·exact kind8n_ev hl hi h h8 hc ht
  ·exact kind8p_ev hl hi h h8 hc ht
 ·exact kind9_ev hl hi h (by omega) ht
theorem OfJ.toI {n0:Nat} {s0:MSt} {dn:Bool} {l:List Nde} {i j:Nat} {s:MSt} (h:OfJ n0 s0 dn l i j s) {E:Nat->Slot} {nx:Nat} (hE:∀ t,t<9->¬ t=6->(E t).v=(s.env t).v) (h6:(E 6).v=.int .i64 j) (hL:LowE nx E) (hn:s.next<=nx):OfI n0 s0 dn l j ⟨E,s.mem,nx,s.obj,s.gh⟩:=by
 obtain ⟨e1,m1,e2,m2,e4,e5,e6,m5,⟨cm,cg,co,cn,cl⟩,lowE,lt⟩:=h;exact ⟨(hE 1 (by omega) (by omega)).trans e1,m1,(hE 2 (by omega) (by omega)).trans e2,m2,(hE 4 (by omega) (by omega)).trans e4,(hE 5 (by omega) (by omega)).trans e5,h6,m5.keep rfl (fun _ _=>rfl) (fun _ _=>rfl) hn,⟨cm,cg,co,by dsimp only; omega,cl.mono hn⟩,hL,by dsimp only; omega⟩
theorem OfI.toJ {n0:Nat} {s0:MSt} {dn:Bool} {l:List Nde} {i:Nat} {s:MSt} (h:OfI n0 s0 dn l i s):OfJ n0 s0 dn l i i s:=⟨h.e1,h.m1,h.e2,h.m2,h.e4,h.e5,h.e6,h.m5,h.calm,h.lowE,h.lt⟩
def q0k (l:List Nde):List Typ:=(List.range l.length).map fun (j:Nat)=>typZ l (j:Int)
structure OfEnd (s0:MSt) (l:List Nde) (s:MSt):Prop where
 calm:Calm s0.next s0 s
 e2:(s.env 2).v=.ptr 2 s0.next 0
 e3:(s.env 3).v=.bool true
 lt:s0.next<s.next
 typs:∃ N L,s.mem 2 s0.next=some [⟨.ref 168 N 10 0 l.length l.length,.no⟩]/\s0.next<=N/\N<s.next/\s.mem 168 N=some (q0c L)/\L.length=l.length/\q7H (q0k l) L s
theorem of_run {r:RV} {dn:Bool} {l:List Nde} (hl:oks l) (s0:MSt) (h0:(s0.env 0).v=.agg (dftC dn l)) (hM:LowM s0.next s0.mem) (hP:PureM s0.next s0.mem) (hE:LowE s0.next s0.env) (hG:LowE s0.next s0.gh) (pG:PureE s0.gh) (k:Ex->MSt->Option RV) (hk:∀ s',OfEnd s0 l s'->k .ret s'=some r):q3b.code.run (evC allT q01) (evK allT q01) s0 k=some r:=by
 have hN1:=hl.1;have wA:=hl.2.1;have c1:¬ (l.length:Int)<1:=by omega
 have c2:¬ 5<(l.length:Int):=by omega
 simp only [dftC] at h0;simp [q3b,-V,-y3,-y0,J,h0,c1,c2];refine q06 l.length (fun i s=>OfI s0.next s0 dn l i s) (fun e s=>e=.exit 0/\OfI s0.next s0 dn l l.length s) (fun i hi s k' h ih zc=>?_) _ _ ?_ (fun e s h=>?_)
 ·refine q02 ?_;rw [of_L2];by_cases fa:i<l.length
  ·have og:=q0s (i:=i);simp [-V,-y3,-y0,J,h.e4,h.e6,fa];refine head_ev hl hM hP hG pG fa (h.toJ.toI (fun t ht h6=>?_) ?_ ?_ ?_) (fun s' hj=>?_)
   ·have q:∀ c,9<=c->¬ t=c:=fun c hc=>by omega
    simp [q]
   ·simp [h.e6]
   ·try dsimp only
    repeat (first | exact h.lowE.mono (by omega) | refine LowE.put ?_ (fun _ _ _=>rfl))
   ·(try dsimp only); omega
   ·simp [-V,-y3,-y0,J,hj.e6,og];refine ih fa _ (hj.toI (fun t ht h6=>?_) ?_ ?_ ?_)
    ·have q:∀ c,9<=c->¬ t=c:=fun c hc=>by omega
     simp [q,h6]
    ·simp
    ·try dsimp only
     repeat (first | exact hj.lowE.mono (by omega) | refine LowE.put ?_ (fun _ _ _=>rfl))
    ·(try dsimp only); omega
  ·have jg:i=l.length:=by omega
   subst jg;simp [-V,-y3,-y0,J,h.e4,h.e6];refine zc _ _ ⟨rfl,h.toJ.toI (fun t ht h6=>?_) ?_ ?_ ?_⟩
   ·have q:∀ c,9<=c->¬ t=c:=fun c hc=>by omega
    simp [q]
   ·simp [h.e6]
   ·try dsimp only
    repeat (first | exact h.lowE.mono (by omega) | refine LowE.put ?_ (fun _ _ _=>rfl))
   ·(try dsimp only); omega
 ·refine ⟨?_,?_,?_,⟨.ex,?_,pureS_ex _⟩,?_,?_,?_,.inl ⟨rfl,.ex,?_,pureS_ex _⟩,⟨?_,?_,?_,?_,?_⟩,?_,?_⟩
  all_goals first | (simp; done) | skip
  ·dsimp only
   repeat (first | exact q28.refl | refine q28.set ?_ (by omega))
  ·dsimp only; omega
  ·exact (((((hM.mono (by dsimp only; omega)).set q05).set q05).set q05))
  ·dsimp only
   repeat (first | exact hE.mono (by omega) | refine LowE.put ?_ (fun _ _ _=>rfl) | refine LowE.put ?_ (q1H (by omega)))
 ·obtain ⟨rfl,h⟩:=h;obtain ⟨e1,m1,e2,⟨a2,m2,p2⟩,e4,e5,e6,m5,⟨cm,cg,co,cn,cl⟩,lowE,lt⟩:=h;rcases m5 with ⟨bh,_⟩ | ⟨N,L,bh,h5,oq,hN,sk,tE,rb⟩
  ·omega
  simp [-V,-y3,-y0,J,e5,h5,e2,m2];refine hk _ ⟨⟨?_,?_,?_,?_,?_⟩,?_,?_,?_,N,L,?_,oq,?_,?_,tE,?_⟩
  ·exact cm.set (ym _)
  ·exact cg
  ·exact co
  ·dsimp only; omega
  ·exact (cl.mono (Nat.le_succ _)).set fun x hx=>by simp at hx; subst hx; exact q9Y (by omega)
  ·simp [e2]
  ·simp
  ·dsimp only; omega
  ·simp
  ·dsimp only; omega
  ·simp [sk]
  ·exact rb.keep (fun N _=>by simp) (by dsimp only; omega)
end
section
set_option maxHeartbeats 4000000
theorem of_bad {r:RV} {dn:Bool} {l:List Nde} (hl:¬ (1<=l.length/\l.length<=5)) (s0:MSt) (h0:(s0.env 0).v=.agg (dftC dn l)) (hM:LowM s0.next s0.mem) (k:Ex->MSt->Option RV) (hk:∀ s',Calm s0.next s0 s'->(s'.env 2).v=.ptr 2 s0.next 0->(s'.env 3).v=.bool false->s'.mem 2 s0.next=some [⟨.sl true [],.no⟩]->k .ret s'=some r):q3b.code.run (evC allT q01) (evK allT q01) s0 k=some r:=by
 simp only [dftC] at h0;by_cases c1:(l.length:Int)<1
 ·have oi:l.length=0:=by omega
  have gG:l=[]:=yN oi;subst gG;simp [q3b,-V,-y3,-y0,J,h0];refine hk _ ⟨?_,rfl,rfl,?_,?_⟩ ?_ ?_ ?_
  ·dsimp only
   repeat (first | exact q28.refl | refine q28.set ?_ (by omega))
  ·dsimp only; omega
  ·exact (((hM.mono (by dsimp only; omega)).set q05).set q05).set q05
  ·simp
  ·simp
  ·simp
 ·have c2:5<(l.length:Int):=by omega
  simp [q3b,-V,-y3,-y0,J,h0,c1,c2];refine hk _ ⟨?_,rfl,rfl,?_,?_⟩ ?_ ?_ ?_
  ·dsimp only
   repeat (first | exact q28.refl | refine q28.set ?_ (by omega))
  ·dsimp only; omega
  ·exact (((hM.mono (by dsimp only; omega)).set q05).set q05).set q05
  ·simp
  ·simp
  ·simp
end
theorem row_split {sz:Nat} {L:List (List AV)} (h:q13 sz L=true) {k:Nat} {c:List AV} (hk:L[k]?=some c) :
  q0c L=q0c (L.take k)++(c.map (⟨·,.no⟩)++q0c (L.drop (k + 1)))/\(q0c (L.take k)).length=k * sz/\k<L.length/\c.length=sz:=by
 obtain ⟨fa,he⟩:=yb.1 hk;have h1:q13 sz (L.take k)=true:=y4.2 fun x hx=>y4.1 h x (List.mem_of_mem_take hx)
 refine ⟨?_,?_,fa,?_⟩
 ·have:L=L.take k++(c :: L.drop (k + 1)):=by rw [<- he,<- y9 fa,List.take_append_drop]
  have h2:=congrArg q0c this;rw [q5F] at h2;rw [h2];simp [q0c]
 ·rw [q51 h1,yC,Nat.min_eq_left (by omega)]
 ·have:=y4.1 h c (yj hk);simpa using this
theorem row_join {L:List (List AV)} {k:Nat} (hk:k<L.length) (c:List AV):q0c (L.take k)++(c.map (⟨·,.no⟩)++q0c (L.drop (k + 1)))=q0c (L.set k c):=by
 have:L.set k c=L.take k++(c :: L.drop (k + 1)):=by
  rw [List.set_eq_take_append_cons_drop,if_pos hk]
 rw [this,q5F];simp [q0c]
section
variable {sz:Nat} {L:List (List AV)} (h:q13 sz L=true) {k j:Nat} {c:List AV} (hk:L[k]?=some c)
include sz L h k j c hk
theorem row_get1 {v:AV} (hj:c[j]?=some v) (z:Nat):q0Y false z (k * sz + j) (q0c L)=some ⟨v,.no⟩:=by
 obtain ⟨h1,h2,h3,h4⟩:=row_split h hk;obtain ⟨ei,_⟩:=yb.1 hj;rw [h1,q0K,yP (by omega),h2,Nat.add_sub_cancel_left,yE (by simpa using ei),yc,hj];rfl
theorem row_set1 (hj:j<c.length) {x:AV} (hx:x.leaf=true) (z:Nat):q0f false z (k * sz + j) (q0c L) x .no=some (q0c (L.set k (c.set j x))):=by
 obtain ⟨h1,h2,h3,h4⟩:=row_split h hk;rw [<- row_join h3,h1];unfold q0f;simp only [yn,if_false];rw [if_pos ⟨hx,by simp only [yp,yo,h2]; omega⟩];congr 1;rw [List.set_append_right (h:=by omega),h2,Nat.add_sub_cancel_left,List.set_append_left (h:=by simpa using hj),List.map_set]
end
theorem rowEls_eq (row:List Slot) (sz off len:Nat):q2R row sz off len=if row.all (fun x=>x.v.free0)=true then q5G row sz off len else none:=by
 unfold q2R q5G;by_cases h1:off + len * sz<=row.length <;> by_cases h2:row.all (fun x=>x.v.free0)=true <;> simp only [h1,h2,true_and,false_and,and_true,and_false,if_true,if_false,yn]
theorem frz1_free {s:MSt} {v:AV} (h:v.free0=true):AV.frz1 s v=v:=by
 cases v <;> first | rfl | (simp [AV.free0] at h; done)
theorem frz_row {s:MSt} {t n sz c:Nat} {L:List (List AV)} (h:q13 sz L=true) (hm:s.mem t n=some (q0c L)) (hf:(L.map fun c=>c.map (AV.frz1 s)).flatten.all AV.free0=true):AV.frz0 s (.ref t n sz 0 L.length c)=.sl false (L.map fun c=>c.map (AV.frz1 s)):=by
 have hr:q5G (q0c L) sz 0 L.length=some L:=q3D fun c hc=>by simpa using y4.1 h c hc
 simp only [AV.frz0,hm,V,rowEls_eq];by_cases ta:(q0c L).all (fun x=>x.v.free0)=true
 ·rw [if_pos ta,hr];have:(L.map fun c=>c.map (AV.frz1 s))=L.map id:=yl fun c hc=>by
   have:c.map (AV.frz1 s)=c.map id:=yl fun v hv=>frz1_free (by
    have:=y4.1 ta ⟨v,.no⟩ (yw.2 ⟨v,List.mem_flatten.2 ⟨c,hc,hv⟩,rfl⟩);exact this)
   rwa [List.map_id] at this
  rw [this,List.map_id]
 ·rw [if_neg ta];simp only [rowDeep,hr,V];rw [if_pos hf]
def rwM (n:Nat) (a b:Mem):Prop:=b.id=a.id/\b.name=a.name/\b.crit=a.crit/\(b=a\/(0<=b.ty/\b.ty<n/\b.has=false/\b.dflt=Vl.zero))
def rwL (n:Nat) (xs bs:List Mem):Prop:=xs.length=bs.length/\∀ (i:Nat) a b,xs[i]?=some a->bs[i]?=some b->rwM n a b
theorem rwL_refl (n:Nat) (xs:List Mem):rwL n xs xs:=⟨rfl,fun i a b h h'=>by
 rw [h] at h';injection h' with h';subst h';exact ⟨rfl,rfl,rfl,.inl rfl⟩⟩
def Mem.rewired (m:Mem) (ty:Int):Mem:=⟨m.id,m.name,ty,m.crit,false,Vl.zero⟩
theorem rwL_set {n:Nat} {xs bs:List Mem} (h:rwL n xs bs) {k:Nat} {m:Mem} (hk:bs[k]?=some m) {ty:Int} (h0:0<=ty) (h1:ty<n):rwL n xs (bs.set k (m.rewired ty)):=by
 obtain ⟨hl,h⟩:=h;refine ⟨by simpa using hl,fun i a b ha hb=>?_⟩;rw [List.getElem?_set] at hb;split at hb
 ·rename_i e;subst e;split at hb
  ·injection hb with hb;subst hb;obtain ⟨g1,g2,g3,_⟩:=h k a m ha hk;exact ⟨g1,g2,g3,.inr ⟨h0,h1,rfl,rfl⟩⟩
  ·cases hb
 ·exact h i a b ha hb
def MemsR (n:Nat) (xs:List Mem) (c:AV) (s:MSt):Prop :=
 (xs=[]/\c=.sl true [])\/∃ N bs,xs≠[]/\rwL n xs bs/\c=.ref 88 N 13 0 xs.length xs.length/\s.mem 88 N=some (q0c (bs.map memC))
def TypsR (n:Nat) (S:List Typ) (L:List (List AV)) (s:MSt):Prop:=S.length=L.length/\∀ (i:Nat) (t:Typ) (c:List AV),S[i]?=some t->L[i]?=some c->∃ m,c=typL t m/\MemsR n t.mems m s
theorem q7H.toR {S:List Typ} {L:List (List AV)} {s:MSt} (h:q7H S L s) (n:Nat):TypsR n S L s:=⟨h.1,fun i t c ht hc=>by
 obtain ⟨m,h1,h2⟩:=h.2 i t c ht hc;refine ⟨m,h1,?_⟩;rcases h2 with h2 | ⟨N,g1,_,g3,g4⟩
 ·exact .inl h2
 ·exact .inr ⟨N,_,g1,rwL_refl n _,g3,g4⟩⟩
theorem TypsR.els {n:Nat} {S:List Typ} {L:List (List AV)} {s:MSt} (h:TypsR n S L s):q13 10 L=true:=by
 refine y4.2 fun c hc=>?_
 obtain ⟨i,hi,rfl⟩:=yx hc;have ja:=h.1;obtain ⟨m,h1,_⟩:=h.2 i S[i] L[i] (y5 (by omega)) (y5 hi);rw [h1];rfl
theorem TypsR.keep {n:Nat} {S:List Typ} {L:List (List AV)} {s s':MSt} (h:TypsR n S L s) (hm:∀ N,s'.mem 88 N=s.mem 88 N):TypsR n S L s':=⟨h.1,fun i t c ht hc=>by
 obtain ⟨m,h1,h2⟩:=h.2 i t c ht hc;refine ⟨m,h1,?_⟩;rcases h2 with h2 | ⟨N,bs,g1,g2,g3,g4⟩
 ·exact .inl h2
 ·exact .inr ⟨N,bs,g1,g2,g3,(hm N).trans g4⟩⟩
theorem memC_inj {a b:List Mem} (h:q0c (a.map memC)=q0c (b.map memC)) (hl:a.length=b.length):a.map memC=b.map memC:=by
 have h1:=q3D (sz:=13) (L:=a.map memC) (by simp [memC]);have h2:=q3D (sz:=13) (L:=b.map memC) (by simp [memC]);rw [h] at h1;simp only [yo] at h1 h2;rw [hl,h2] at h1;injection h1 with h1;exact h1.symm
theorem TypsR.store {n:Nat} {S:List Typ} {L:List (List AV)} {s s':MSt} (h:TypsR n S L s) {N k:Nat} {bs:List Mem} {m:Mem} (hN:s.mem 88 N=some (q0c (bs.map memC))) (hk:bs[k]?=some m) {ty:Int} (h0:0<=ty) (h1:ty<n) (hm:∀ N',s'.mem 88 N'=if N'=N then some (q0c ((bs.set k (m.rewired ty)).map memC)) else s.mem 88 N'):TypsR n S L s':=⟨h.1,fun i t c ht hc=>by
 obtain ⟨m',g1,g2⟩:=h.2 i t c ht hc;refine ⟨m',g1,?_⟩;rcases g2 with g2 | ⟨N',ux,g2,g3,g4,g5⟩
 ·exact .inl g2
 ·by_cases e:N'=N
  ·subst e;rw [hN] at g5;injection g5 with g5;have ja:bs.length=ux.length:=by
    have e1:=congrArg List.length g5;rw [q51 (els_mem _),q51 (els_mem _)] at e1;simp only [yo] at e1;omega
   have dt:=memC_inj g5 ja;have zc:k<ux.length:=by rw [<- ja]; exact (yb.1 hk).1
   have bF:memC ux[k]=memC m:=by
    have:=congrArg (·[k]?) dt;simp only [yc,hk,y5 zc,yz,Option.some.injEq] at this;exact this.symm
   refine .inr ⟨N',ux.set k (ux[k].rewired ty),g2,rwL_set g3 (y5 zc) h0 h1,g4,?_⟩;rw [hm,if_pos rfl,List.map_set,List.map_set,dt];have:memC (m.rewired ty)=memC (ux[k].rewired ty):=by
    simp only [memC,List.cons.injEq,AV.int.injEq,AV.str.injEq,AV.bool.injEq,true_and] at bF;simp only [memC,Mem.rewired,bF.1,bF.2.1,bF.2.2.2.1]
   rw [this]
  ·exact .inr ⟨N',ux,g2,g3,g4,by rw [hm,if_neg e]; exact g5⟩⟩
def rwT (n:Nat) (a b:Typ):Prop:=∃ bs,rwL n a.mems bs/\b={ a with mn:=bs.isEmpty,mems:=bs }
def rwS (n:Nat) (S T:List Typ):Prop:=S.length=T.length/\∀ (i:Nat) a b,S[i]?=some a->T[i]?=some b->rwT n a b
end Go.Proofs.YtbnlmgncbgaepaaGreat
