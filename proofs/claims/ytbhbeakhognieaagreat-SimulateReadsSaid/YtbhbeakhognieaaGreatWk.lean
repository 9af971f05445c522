/- A part of the proof. -/
import Derived.Test.YtbhbeakhognieaaGreatWf
set_option linter.all false
set_option maxRecDepth 100000
set_option maxHeartbeats 8000000
open Option renaming bind_some → J, map_eq_some_iff → yn, map_some → yr
open List renaming range_succ → y0, map_map → y3, getElem?_eq_getElem → y5, all_eq_true → y6, getElem_mem → y8, getElem?_eq_some_iff → y9, drop_eq_getElem_cons → yb, getElem?_map → yc, map_cons → yf, mem_cons → yg, mem_of_getElem? → yh, drop_eq_nil_of_le → yk, mem_cons_self → yl, map_nil → ym, mem_cons_of_mem → yo, mem_map → yp, getElem_of_mem → yq, length_map → yu, map_congr_left → yw, mem_append → yx, length_append → yz, take_of_length_le → yB, length_cons → yF, getElem?_append_left → yG, map_append → yH, flatten_cons → yI, take_append_getElem → yJ, length_take → yL, eq_nil_of_length_eq_zero → yM, mem_singleton → yO, not_mem_nil → yP, getElem?_append_right → yQ, getElem?_eq_none → yY, length_pos_iff → Y02
open Int renaming toNat_lt → y4, tmod_eq_emod_of_nonneg → yt, emod_nonneg → yC, emod_lt_of_pos → yD
open Bool renaming and_eq_true → y7, false_eq_true → yA
open Nat renaming le_refl → yj, succ_mul → yy, zero_add → yK, eq_zero_or_pos → yN
namespace Go.Proofs.YtbhbeakhognieaaGreat
open Go
structure pQ where
 id:Int
 ty:Int
 flag:Int
structure fC where
 k:Int
 a:Int
 b:Int
 c:Int
 pn:Bool
 parts:List pQ
def ND (x:pQ):List AV:=[.int .u8 x.id,.int .u8 x.ty,.int .u8 x.flag]
def sD (x:fC):List AV:=[.int .u8 x.k,.int .u8 x.a,.int .u8 x.b,.int .u8 x.c,.sl x.pn (x.parts.map ND)]
def uG (n:Bool) (l:List fC):List AV:=[.sl n (l.map sD)]
def u8 (n:Int):Prop:=0<=n/\n<=255
def pQ.ok (x:pQ):Prop:=u8 x.id/\u8 x.ty/\u8 x.flag
def fC.ok (x:fC):Prop:=u8 x.k/\u8 x.a/\u8 x.b/\u8 x.c/\x.parts.length<=9223372036854775807/\∀ p∈x.parts,p.ok
def fC.kind (x:fC):Int:=1 + x.k % 9
def fC.low (x:fC):Int:=x.a % 7 - 3
def fC.high (x:fC):Int:=x.low + x.b % 6
theorem i7 {x:fC} (h:x.ok):1<=x.kind/\x.kind<=9:=by
 obtain ⟨⟨h1,h2⟩,_⟩:=h;simp only [fC.kind];omega
theorem u8_mod (n m:Int) (h:u8 n) (hm:0<m) (bq:m<=255):n.tmod m=n % m/\IntKind.u8.wrap (n % m)=n % m:=by
 obtain ⟨h1,h2⟩:=h;have e:=yt h1 (b:=m);have g1:=yC n (b:=m) (by omega);have g2:=yD n hm;refine ⟨e,?_⟩;simp only [IntKind.wrap,IntKind.bits,IntKind.signed];simp;omega
theorem kind_ev (dn:Bool) (l:List fC) (z:Int) (x:fC) (hz:0<=z) (h:l[z.toNat]?=some x) (hx:x.ok):gA 81 [.agg (uG dn l),.int .i64 z] (.int .i64 x.kind):=by
 refine rA (c:=kL) rfl rfl ?_;have g:(l.map sD)[z.toNat]?=some (sD x):=by simp [h]
 obtain ⟨e1,e2⟩:=u8_mod x.k 9 hx.1 (by omega) (by omega);simp only [sD] at g;simp [kL,uG,-J,-y4,-y3,y0,g,hz,e1];have:=hx.1;simp only [u8] at this;rw [IntWalk.i64_in (x.k % 9) (by omega),IntWalk.i64_in _ (by omega)];rfl
theorem P1 (k:Int):gA 172 [.int .i64 k] (.bool (decide (7<=k))):=by
 refine rA (c:=MI) rfl rfl ?_;simp [MI,-J,-y4,-y3,y0]
theorem low_ev (x:fC) (hx:x.ok):gA 83 [.agg (sD x)] (.int .i64 x.low):=by
 refine rA (c:=LM) rfl rfl ?_;obtain ⟨e1,e2⟩:=u8_mod x.a 7 hx.2.1 (by omega) (by omega);simp [LM,sD,-J,-y4,-y3,y0,e1];rw [IntWalk.i64_in (x.a % 7) (by omega),IntWalk.i64_in _ (by omega)];rfl
theorem high_ev (x:fC) (hx:x.ok):gA 84 [.agg (sD x)] (.int .i64 x.high):=by
 refine rA (c:=jL) rfl rfl ?_;obtain ⟨e1,e2⟩:=u8_mod x.b 6 hx.2.2.1 (by omega) (by omega);have:=low_ev x hx;simp only [sD] at this;simp [jL,sD,-J,-y4,-y3,y0,e1,this];rw [IntWalk.i64_in (x.b % 6) (by omega),IntWalk.i64_in _ (by simp only [fC.low]; omega)];rfl
def bitZ (a:Int) (i:Nat):Bool:=decide (a / 2 ^ i % 2=1)
def bW (a:Int):Nat->List Int
 | 0=>[]
 | i + 1=>bW a i++if bitZ a i then [((i + 1:Nat):Int)] else []
def fF (a:Int):List Int:=if bW a 6=[] then [1] else bW a 6
def FK (n:Int):List AV:=[.int .i64 n]
theorem nW (a:Int):∀ i,(bW a i).length<=i
 | 0=>yj _
 | i + 1=>by
  have:=nW a i;rw [bW,yz];split <;> simp <;> omega
theorem els_int (l:List Int):iB 1 (l.map FK)=true:=KB _ _ _ fun _=>rfl
theorem ids7_ev (x:fC) (hx:x.ok):gA 85 [.agg (sD x)] (.sl false ((fF x.a).map FK)):=by
 refine rA (c:=JM) rfl rfl ?_;obtain ⟨hk,ha,hb,hc,hp,px⟩:=hx;obtain ⟨ha1,ha2⟩:=ha;simp [JM,sD,-J,-y4,-y3,y0];refine RA 6 (fun i s=>(s.env 1).v=.ptr 1 1 0/\s.mem 1 1=some [⟨.int .u8 x.k,.no⟩,⟨.int .u8 x.a,.no⟩,⟨.int .u8 x.b,.no⟩,⟨.int .u8 x.c,.no⟩,⟨.sl x.pn (x.parts.map ND),.no⟩]/\(s.env 4).v=.int .i64 i/\(s.env 3).v=.sl (bW x.a i).isEmpty ((bW x.a i).map FK)/\(bW x.a i=[]/\(s.env 3).a=.ex\/¬ bW x.a i=[]/\(s.env 3).a=.own 19 3))
  (fun e s=>e=.exit 0/\(s.env 3).v=.sl (bW x.a 6).isEmpty ((bW x.a 6).map FK)/\(bW x.a 6=[]/\(s.env 3).a=.ex\/¬ bW x.a 6=[]/\(s.env 3).a=.own 19 3)) (fun i hi s k h ih hk=>?_) _ _ ?_ (fun e s h=>?_)
 ·obtain ⟨e1,m1,e4,e3,an⟩:=h;refine iA ?_;by_cases fa:i<6
  ·have ga:(i:Int)<6:=by omega
   have hsh:shN .u8 i=i:=by simp [shN,IntKind.bits]; omega
   have hy:x.a.fdiv (2 ^ i)=x.a / 2 ^ i:=Int.fdiv_eq_ediv_of_nonneg _ (Int.pow_nonneg (by omega));have ij:0<=x.a / 2 ^ i:=Int.ediv_nonneg ha1 (Int.pow_nonneg (by omega));have hm:(x.a / 2 ^ i).tmod 2=x.a / 2 ^ i % 2:=yt ij;have ji:=WB (i:=i);have hl:=nW x.a i;have oa:ZA 8 ((bW x.a i).length + 1)=true:=by rw [xA]; omega
   have pf:=els_int (bW x.a i);have ak:bW x.a (i + 1)=bW x.a i++if bitZ x.a i then [((i + 1:Nat):Int)] else []:=rfl
   have hb:bitZ x.a i=decide (x.a / 2 ^ i % 2=1):=rfl;generalize hI:bW x.a i=L at *
   generalize hJ:bW x.a (i + 1)=L' at *
   generalize x.a / 2 ^ i=y at *
   by_cases c:y % 2=1
   ·rcases an with ⟨a0,a3⟩ | ⟨a0,a3⟩
    ·subst a0;have kf:ZA 8 1=true:=by rw [xA]; omega
     simp [MG,-J,-y4,-y3,y0,e1,m1,e4,e3,a3,ga,hsh,hy,hm,ji,c,kf];refine ih fa _ ⟨?_,?_,?_,?_,?_⟩ <;> simp [e1,m1,ak,hb,c,FK,An.strip]
    ·have hem:L.isEmpty=false:=by
      cases L with
      | nil=>exact absurd rfl a0
      | cons=>rfl
     rw [hem] at e3;simp [MG,-J,-y4,-y3,y0,e1,m1,e4,e3,a0,a3,ga,hsh,hy,hm,ji,c,oa,pf];refine ih fa _ ⟨?_,?_,?_,?_,?_⟩ <;> simp [e1,m1,ak,hb,c,FK,An.strip]
   ·simp [MG,-J,-y4,-y3,y0,e1,m1,e4,e3,ga,hsh,hy,hm,ji,c];refine ih fa _ ⟨?_,?_,?_,?_,?_⟩ <;> simp [e1,m1,e3,an,ak,hb,c,FK,An.strip]
  ·have hi6:i=6:=by omega
   subst hi6;simp [MG,-J,-y4,-y3,y0,e4];exact hk _ _ ⟨rfl,by simpa using e3,by simpa using an⟩
 ·simp [bW]
 ·obtain ⟨rfl,e3,an⟩:=h;have hl:=nW x.a 6;generalize hI:bW x.a 6=L at *
  rcases an with ⟨a0,a3⟩ | ⟨a0,a3⟩
  ·subst a0;have kf:ZA 8 1=true:=by rw [xA]; omega
   simp [-J,-y4,-y3,y0,e3,a3,kf,fF,hI,FK]
  ·simp [-J,-y4,-y3,y0,e3,a3,a0,fF,hI]
def dC (l:List fC) (z:Int):Int:=match l[z.toNat]? with
 | some x=>x.kind
 | none=>0
def oks (l:List fC):Prop:=1<=l.length/\l.length<=5/\∀ x∈l,x.ok
theorem xH {dn:Bool} {l:List fC} (hl:oks l) {z:Int} (h0:0<=z) (h1:z<l.length):gA 81 [.agg (uG dn l),.int .i64 z] (.int .i64 (dC l z)):=by
 have fa:z.toNat<l.length:=by omega
 have g:l[z.toNat]?=some l[z.toNat]:=y5 fa;have:=kind_ev dn l z _ h0 g (hl.2.2 _ (y8 fa));rw [dC,g];exact this
theorem zX {l:List fC} (hl:oks l) {z:Int} (h0:0<=z) (h1:z<l.length):1<=dC l z/\dC l z<=9:=by
 have fa:z.toNat<l.length:=by omega
 have g:l[z.toNat]?=some l[z.toNat]:=y5 fa;rw [dC,g];exact i7 (hl.2.2 _ (y8 fa))
def UV (k:Int):Bool:=decide (1<=k/\k<=4)
def pG (l:List fC) (code:Int):Nat->Nat->Int
 | 0,_=>-1
 | n + 1,k=>if UV (dC l ((code + k) % l.length))=true then (code + k) % l.length else pG l code n (k + 1)
def NJ (l:List fC) (code:Int):Int:=pG l code l.length 0
theorem EP {l:List fC} (hl:oks l) (code:Int):∀ n k,-1<=pG l code n k/\pG l code n k<l.length
 | 0,k=>by have:=hl.1; simp only [pG]; omega
 | n + 1,k=>by
  have hp:=hl.1;have h1:=yC (code + k) (b:=(l.length:Int)) (by omega);have h2:=yD (code + k) (b:=(l.length:Int)) (by omega);have:=EP hl code n (k + 1);simp only [pG];split <;> omega
theorem key_ev (dn:Bool) (l:List fC) (hl:oks l) (code:Int) (hc:u8 code):gA 87 [.agg (uG dn l),.int .u8 code] (.int .i64 (NJ l code)):=by
 refine rA (c:=KM) rfl rfl ?_;obtain ⟨hc0,pt⟩:=hc;have hN:=hl.1;have hN5:=hl.2.1;have zb:=fun z h0 h1=>xH (dn:=dn) hl (z:=z) h0 h1
 simp only [gA,uG] at zb ⊢;simp [KM,-J,-y4,-y3,y0];refine RA l.length (fun i s=>(s.env 2).v=.ptr 2 1 0/\s.mem 2 1=some [⟨.sl dn (l.map sD),.no⟩]/\(s.env 1).v=.int .u8 code/\(s.env 5).v=.int .i64 l.length/\(s.env 6).v=.int .i64 i/\pG l code (l.length - i) i=NJ l code)
  (fun e s=>(e=.exit 0/\NJ l code=-1)\/(e=.ret/\(s.env 4).v=.int .i64 (NJ l code))) (fun i hi s k h ih hk=>?_) _ _ ?_ (fun e s h=>?_)
 ·obtain ⟨e2,m2,e1,e5,e6,hs⟩:=h;refine iA ?_;by_cases fa:i<l.length
  ·have ga:(i:Int)<l.length:=by omega
   have ji:=WB (i:=i);have ll:IntKind.i64.wrap code=code:=IntWalk.i64_in _ (by omega);have hwa:IntKind.i64.wrap (code + i)=code + i:=IntWalk.i64_in _ (by omega);have hm:(code + (i:Int)).tmod l.length=(code + i) % l.length:=yt (by omega);have ic:=yC (code + i) (b:=(l.length:Int)) (by omega);have dj:=yD (code + i) (b:=(l.length:Int)) (by omega);have dq:¬ (l.length:Int)=0:=by omega
   have jb:=zb _ ic dj;rw [show l.length - i=l.length - (i + 1) + 1 from by omega,pG] at hs;generalize (code + (i:Int)) % l.length=z at *
   have sc:=bX (dC l z);rw [show decide (1<=dC l z/\dC l z<=4)=UV (dC l z) from rfl] at sc;obtain ⟨N,gw⟩:∃ N:Int,N=l.length:=⟨_,rfl⟩;rw [<- gw] at e5 ga hm dq;cases hb:UV (dC l z) with
   | true =>
    rw [hb] at sc;rw [if_pos hb] at hs;simp [qJ,-J,-y4,-y3,y0,e2,m2,e1,e5,e6,ga,ll,hwa,hm,dq,jb,sc];exact hk _ _ (.inr ⟨rfl,by simp [hs]⟩)
   | false =>
    rw [hb] at sc;rw [hb,if_neg (by decide)] at hs;simp [qJ,-J,-y4,-y3,y0,e2,m2,e1,e5,e6,ga,ll,hwa,hm,dq,jb,sc,ji];refine ih fa _ ⟨?_,?_,?_,?_,?_,hs⟩ <;> simp [e2,m2,e1,e5,gw]
  ·have ga:¬ (i:Int)<l.length:=by omega
   simp [qJ,-J,-y4,-y3,y0,e5,e6,ga];refine hk _ _ (.inl ⟨rfl,?_⟩);rw [<- hs,show l.length - i=0 from by omega,pG]
 ·simp [NJ]
 ·rcases h with ⟨rfl,h1⟩ | ⟨rfl,h1⟩ <;> simp [-J,-y4,-y3,y0,h1]
def fE (l:List fC):Nat->Nat->Int
 | 0,_=>-1
 | n + 1,k=>if 7<=dC l k then k else fE l n (k + 1)
def PG (l:List fC) (i code:Int):Int:=if 7<=dC l (code % l.length)\/code % l.length<i then code % l.length else if 0<i then code % l.length % i else fE l l.length 0
theorem TV {l:List fC} (hl:oks l):∀ n k,n + k<=l.length->-1<=fE l n k/\fE l n k<l.length
 | 0,k,_=>by have:=hl.1; simp only [fE]; omega
 | n + 1,k,h=>by
  have:=TV hl n (k + 1) (by omega);simp only [fE];split <;> omega
theorem eQ {l:List fC} (hl:oks l) (i code:Int) (hi:i<l.length):-1<=PG l i code/\PG l i code<l.length:=by
 have hp:=hl.1;have h1:=yC code (b:=(l.length:Int)) (by omega);have h2:=yD code (b:=(l.length:Int)) (by omega);have h3:=TV hl l.length 0 (by omega);simp only [PG];split
 ·omega
 ·split
  ·rename_i h;have h4:=yC (code % l.length) (b:=i) (by omega);have h5:=yD (code % l.length) h;omega
  ·exact h3
theorem target_ev (dn:Bool) (l:List fC) (hl:oks l) (i0:Int) (jg:0<=i0) (tg:i0<l.length) (code:Int) (hc:u8 code):gA 126 [.agg (uG dn l),.int .i64 i0,.int .u8 code] (.int .i64 (PG l i0 code)):=by
 refine rA (c:=DE) rfl rfl ?_;obtain ⟨hc0,pt⟩:=hc;have hN:=hl.1;have hN5:=hl.2.1;have zb:=fun z h0 h1=>xH (dn:=dn) hl (z:=z) h0 h1
 simp only [gA,uG] at zb ⊢;have ic:=yC code (b:=(l.length:Int)) (by omega);have dj:=yD code (b:=(l.length:Int)) (by omega);have ll:IntKind.i64.wrap code=code:=IntWalk.i64_in _ (by omega);have hm:code.tmod l.length=code % l.length:=yt (by omega);have dq:¬ (l.length:Int)=0:=by omega
 have fh:¬ l=[]:=by intro e; rw [e] at hN; simp at hN
 have jb:=zb _ ic dj;unfold PG;generalize code % (l.length:Int)=z at *
 have hh:=P1 (dC l z);have ii:0<i0->z.tmod i0=z % i0:=fun _=>yt ic
 by_cases c1:7<=dC l z
 ·simp [DE,-J,-y4,-y3,y0,ll,hm,fh,jb,hh,c1]
 ·rw [decide_eq_false c1] at hh;by_cases c2:z<i0
  ·simp [DE,-J,-y4,-y3,y0,ll,hm,fh,jb,hh,c1,c2]
  ·by_cases c3:0<i0
   ·simp [DE,-J,-y4,-y3,y0,ll,hm,fh,jb,hh,c1,c2,c3,ii c3,show ¬ i0=0 from by omega]
   ·simp [DE,-J,-y4,-y3,y0,ll,hm,fh,jb,hh,c1,c2,c3];clear jb hh c1 c2;refine RA l.length (fun i s=>(s.env 3).v=.ptr 3 1 0/\s.mem 3 1=some [⟨.sl dn (l.map sD),.no⟩]/\(s.env 7).v=.int .i64 l.length/\(s.env 9).v=.int .i64 i/\fE l (l.length - i) i=fE l l.length 0)
     (fun e s=>(e=.exit 0/\fE l l.length 0=-1)\/(e=.ret/\(s.env 6).v=.int .i64 (fE l l.length 0))) (fun i hi s k h ih hk=>?_) _ _ ?_ (fun e s h=>?_)
    ·obtain ⟨e3,m3,e7,e9,hs⟩:=h;refine iA ?_;by_cases fa:i<l.length
     ·have ga:(i:Int)<l.length:=by omega
      have ji:=WB (i:=i);have jb:=zb i (by omega) ga;rw [show l.length - i=l.length - (i + 1) + 1 from by omega,fE] at hs;have hh:=P1 (dC l i);by_cases hb:7<=dC l i
      ·rw [decide_eq_true hb] at hh;rw [if_pos hb] at hs;simp [FG,-J,-y4,-y3,y0,e3,m3,e7,e9,fa,jb,hh];exact hk _ _ (.inr ⟨rfl,by simp [hs]⟩)
      ·rw [decide_eq_false hb] at hh;rw [if_neg hb] at hs;simp [FG,-J,-y4,-y3,y0,e3,m3,e7,e9,fa,jb,hh,ji];refine ih fa _ ⟨?_,?_,?_,?_,hs⟩ <;> simp [e3,m3,e7]
     ·have ga:¬ (i:Int)<l.length:=by omega
      simp [FG,-J,-y4,-y3,y0,e7,e9,fa];refine hk _ _ (.inl ⟨rfl,?_⟩);rw [<- hs,show l.length - i=0 from by omega,fE]
    ·simp
    ·rcases h with ⟨rfl,h1⟩ | ⟨rfl,h1⟩ <;> simp [-J,-y4,-y3,y0,h1]
section
set_option maxHeartbeats 2000000
def Vl.of (k:Int) (b:Bool) (i:Int) (s:ByteArray) (d:Int):Vl:=.mk k b i s d true [] true [] true []
theorem EC (k:Int) (b:Bool) (i:Int) (s:ByteArray) (d:Int):fA (.of k b i s d)=[.int .i64 k,.bool b,.int .i64 i,.str s,.int .i64 d,.sl true [],.sl true [],.sl true []]:=by
 rw [qA];rfl
def DA (l:List fC) (z:Int):fC:=match l[z.toNat]? with
 | some x=>x
 | none=>⟨0,0,0,0,true,[]⟩
def inK (l:List fC) (t:Int):Int:=if dC l t=8/\NJ l 0<0 then 7 else dC l t
def X9 (a code:Int):Int:=(fF a)[(code % (fF a).length).toNat]?.getD 0
def DJ (l:List fC) (t code:Int):Vl × Bool :=
 if dC l t=5\/dC l t=6 then (.of 0 false 0 ⟨#[]⟩ 0,false) else
 (.of (inK l t) (decide (dC l t=1/\code % 2=1)) (if dC l t=2 then (DA l t).low + code % ((DA l t).b % 6 + 1) else 0) (if dC l t=3/\0<(DA l t).a % 4/\code % 2=1 then ⟨#[97]⟩ else ⟨#[]⟩) (if dC l t=4 then X9 (DA l t).a code else 0),true)
theorem ES (a:Int):1<=(fF a).length/\(fF a).length<=6:=by
 have:=nW a 6;unfold fF;split
 ·simp
 ·rename_i h;refine ⟨?_,this⟩;cases h2:bW a 6 with
  | nil=>exact absurd h2 h
  | cons=>simp
theorem B9 (dn:Bool) (l:List fC) (hl:oks l) (t:Int) (rb:0<=t) (gb:t<l.length) (code:Int) (hc:u8 code):gA 127 [.agg (uG dn l),.int .i64 t,.int .u8 code] (.tup [.agg (fA (DJ l t code).1),.bool (DJ l t code).2]):=by
 refine rA (c:=CB) rfl rfl ?_;have zb:=xH (dn:=dn) hl rb gb;have xq:=zX hl rb gb;have sc:=key_ev dn l hl 0 ⟨by omega,by omega⟩;have fa:t.toNat<l.length:=by omega
 have g:l[t.toNat]?=some l[t.toNat]:=y5 fa;have hx:(DA l t).ok:=by rw [DA,g]; exact hl.2.2 _ (y8 fa)
 have gm:(l.map sD)[t.toNat]?=some (sD (DA l t)):=by rw [DA,g]; simp [g]
 obtain ⟨hc0,pt⟩:=hc;unfold DJ inK;generalize DA l t=x at *
 generalize dC l t=kk at *
 have ug:=low_ev x hx;have om:=high_ev x hx;have ai:=ids7_ev x hx;have hlr:-3<=x.low/\x.low<=3:=by have:=hx.2.1; simp only [fC.low,u8] at *; omega
 have hhr:x.low<=x.high/\x.high<=x.low + 5:=by have:=hx.2.2.1; simp only [fC.high,u8] at *; omega
 have hd:x.high - x.low + 1=x.b % 6 + 1:=by simp only [fC.high]; omega
 have ll:IntKind.i64.wrap code=code:=IntWalk.i64_in _ (by omega);have hws:IntKind.i64.wrap (x.high - x.low)=x.high - x.low:=IntWalk.i64_in _ (by omega);have hws1:IntKind.i64.wrap (x.high - x.low + 1)=x.high - x.low + 1:=IntWalk.i64_in _ (by omega);have hm:code.tmod (x.high - x.low + 1)=code % (x.b % 6 + 1):=by rw [hd]; exact yt hc0
 have hmz:=yC code (b:=x.b % 6 + 1) (by omega);have rj:=yD code (b:=x.b % 6 + 1) (by omega);have hwl:IntKind.i64.wrap (x.low + code % (x.b % 6 + 1))=x.low + code % (x.b % 6 + 1):=IntWalk.i64_in _ (by omega);have ma:¬ x.high - x.low + 1=0:=by omega
 have bq:code.tmod 2=code % 2:=yt hc0;have sw:x.a.tmod 4=x.a % 4:=yt hx.2.1.1;simp only [gA,uG,sD] at zb sc gm ug om ai ⊢;have hk:kk=1\/kk=2\/kk=3\/kk=4\/kk=5\/kk=6\/kk=7\/kk=8\/kk=9:=by omega
 rcases hk with rfl | rfl | rfl | rfl | rfl | rfl | rfl | rfl | rfl
 ·simp [CB,-J,-y4,-y3,y0,gm,rb,zb,bq,EC]
 ·generalize code % (x.b % 6 + 1)=y at *
  simp [CB,-J,-y4,-y3,y0,gm,rb,zb,EC,ug,om,ll,hws,hws1,hm,ma,hwl]
 ·by_cases c1:0<x.a % 4 <;> by_cases c2:code % 2=1 <;> simp [CB,-J,-y4,-y3,y0,gm,rb,zb,bq,sw,c1,c2,EC]
 ·have wd:=ES x.a;have ii:code.tmod (fF x.a).length=code % (fF x.a).length:=yt hc0;have ic:=yC code (b:=((fF x.a).length:Int)) (by omega);have dj:=yD code (b:=((fF x.a).length:Int)) (by omega);have fh:¬ ((fF x.a).length:Int)=0:=by omega
  unfold X9;generalize code % ((fF x.a).length:Int)=z at *
  have gz:(fF x.a)[z.toNat]?=some (fF x.a)[z.toNat]:=y5 (by omega);have gi:((fF x.a).map FK)[z.toNat]?=some [.int .i64 (fF x.a)[z.toNat]]:=by rw [yc,gz]; rfl
  rw [gz];generalize (fF x.a)[z.toNat]=y at *
  have hlm:((fF x.a).map FK).length=(fF x.a).length:=by simp
  generalize (fF x.a).map FK=M at *
  obtain ⟨N,hN⟩:∃ N:Int,N=(fF x.a).length:=⟨_,rfl⟩;rw [<- hN] at ii fh;simp [CB,-J,-y4,-y3,y0,gm,rb,zb,EC,ai,ll,hlm,<- hN,ii,fh,ic,gi]
 ·simp [CB,-J,-y4,-y3,y0,gm,rb,zb,EC]
 ·simp [CB,-J,-y4,-y3,y0,gm,rb,zb,EC]
 ·simp [CB,-J,-y4,-y3,y0,gm,rb,zb,EC]
 ·by_cases c1:NJ l 0<0 <;> simp [CB,-J,-y4,-y3,y0,gm,rb,zb,sc,c1,EC]
 ·simp [CB,-J,-y4,-y3,y0,gm,rb,zb,EC]
end
def x7 (m:Nat) (v:AV):Prop:=∀ t n,m<=n->v.kill0 t n=v
def lowV (m:Nat) (v:AV):Prop:=∀ t n,m<=n->v.kill t n=v
theorem RI {m m':Nat} (h:m<=m') {v:AV} (hv:lowV m v):lowV m' v:=fun t n hn=>hv t n (Nat.le_trans h hn)
theorem low0_ptr {m t n o:Nat} (h:n<m):x7 m (.ptr t n o):=fun t' n' h'=>by simp only [AV.kill0]; rw [if_neg (by omega)]
theorem Q7 {m t n z o l c:Nat} (h:n<m):x7 m (.ref t n z o l c):=fun t' n' h'=>by simp only [AV.kill0]; rw [if_neg (by omega)]
theorem lQ {m:Nat} {v:AV} (h:v.free0=true):x7 m v:=fun t n _=>mX h t n
theorem RN {m:Nat} {v:AV} (h:v.free=true):lowV m v:=fun t n _=>B1 h t n
theorem lowV_of {m:Nat} {v:AV} (h:x7 m v):(v.leaf=true)->lowV m v:=fun hl t n hn=>by
 have:=h t n hn;cases v <;> first | exact this | (simp [AV.leaf] at hl; done)
theorem UX {m:Nat} {cs:List AV} (h:∀ c∈cs,x7 m c):lowV m (.agg cs):=fun t n hn=>by
 have:cs.map (AV.kill0 t n)=cs.map id:=yw fun c hc=>h c hc t n hn
 rw [List.map_id] at this;exact congrArg AV.agg this
theorem wD {m t n o:Nat} (h:n<m):lowV m (.ptr t n o):=low0_ptr h
theorem OP {m t n z o l c:Nat} (h:n<m):lowV m (.ref t n z o l c):=Q7 h
theorem W2 {m t n:Nat} (hn:m<=n) {v:AV} (hv:lowV m v):v.kill t n=v:=hv t n hn
theorem kill0_comm (v:AV) (t n t' n':Nat):(v.kill0 t n).kill0 t' n'=(v.kill0 t' n').kill0 t n:=by
 cases v with
 | ptr a b o=>by_cases h1:(a=t/\b=n) <;> by_cases h2:(a=t'/\b=n') <;> first | (simp only [AV.kill0,if_pos h1,if_pos h2]; done) | (simp only [AV.kill0,if_pos h1,if_neg h2]; done) | (simp only [AV.kill0,if_neg h1,if_pos h2]; done) | (simp only [AV.kill0,if_neg h1,if_neg h2]; done)
 | ref a b z o l c=>by_cases h1:(a=t/\b=n) <;> by_cases h2:(a=t'/\b=n') <;> first | (simp only [AV.kill0,if_pos h1,if_pos h2]; done) | (simp only [AV.kill0,if_pos h1,if_neg h2]; done) | (simp only [AV.kill0,if_neg h1,if_pos h2]; done) | (simp only [AV.kill0,if_neg h1,if_neg h2]; done)
 | mp a b=>by_cases h1:(a=t/\b=n) <;> by_cases h2:(a=t'/\b=n') <;> first | (simp only [AV.kill0,if_pos h1,if_pos h2]; done) | (simp only [AV.kill0,if_pos h1,if_neg h2]; done) | (simp only [AV.kill0,if_neg h1,if_pos h2]; done) | (simp only [AV.kill0,if_neg h1,if_neg h2]; done)
 | _=>rfl
theorem RP (l:List AV) (t n t' n':Nat):(l.map (AV.kill0 t n)).map (AV.kill0 t' n')=(l.map (AV.kill0 t' n')).map (AV.kill0 t n):=by
 rw [y3,y3];exact yw fun x _=>kill0_comm x t n t' n'
theorem kill1_comm (v:AV) (t n t' n':Nat):(v.kill1 t n).kill1 t' n'=(v.kill1 t' n').kill1 t n:=by
 cases v with
 | agg cs=>exact congrArg AV.agg (RP cs t n t' n')
 | ptr a b o=>by_cases h1:(a=t/\b=n) <;> by_cases h2:(a=t'/\b=n') <;> first | (simp only [AV.kill1,AV.kill0,if_pos h1,if_pos h2]; done) | (simp only [AV.kill1,AV.kill0,if_pos h1,if_neg h2]; done) | (simp only [AV.kill1,AV.kill0,if_neg h1,if_pos h2]; done) | (simp only [AV.kill1,AV.kill0,if_neg h1,if_neg h2]; done)
 | ref a b z o l c=>by_cases h1:(a=t/\b=n) <;> by_cases h2:(a=t'/\b=n') <;> first | (simp only [AV.kill1,AV.kill0,if_pos h1,if_pos h2]; done) | (simp only [AV.kill1,AV.kill0,if_pos h1,if_neg h2]; done) | (simp only [AV.kill1,AV.kill0,if_neg h1,if_pos h2]; done) | (simp only [AV.kill1,AV.kill0,if_neg h1,if_neg h2]; done)
 | mp a b=>by_cases h1:(a=t/\b=n) <;> by_cases h2:(a=t'/\b=n') <;> first | (simp only [AV.kill1,AV.kill0,if_pos h1,if_pos h2]; done) | (simp only [AV.kill1,AV.kill0,if_pos h1,if_neg h2]; done) | (simp only [AV.kill1,AV.kill0,if_neg h1,if_pos h2]; done) | (simp only [AV.kill1,AV.kill0,if_neg h1,if_neg h2]; done)
 | _=>rfl
theorem kill_comm (v:AV) (t n t' n':Nat):(v.kill t n).kill t' n'=(v.kill t' n').kill t n:=by
 cases v with
 | agg cs=>exact congrArg AV.agg (RP cs t n t' n')
 | fn f cs=>exact congrArg (AV.fn f) (RP cs t n t' n')
 | tup vs =>
  refine congrArg AV.tup ?_;rw [y3,y3];exact yw fun x _=>kill1_comm x t n t' n'
 | ptr a b o=>by_cases h1:(a=t/\b=n) <;> by_cases h2:(a=t'/\b=n') <;> first | (simp only [AV.kill,AV.kill0,if_pos h1,if_pos h2]; done) | (simp only [AV.kill,AV.kill0,if_pos h1,if_neg h2]; done) | (simp only [AV.kill,AV.kill0,if_neg h1,if_pos h2]; done) | (simp only [AV.kill,AV.kill0,if_neg h1,if_neg h2]; done)
 | ref a b z o l c=>by_cases h1:(a=t/\b=n) <;> by_cases h2:(a=t'/\b=n') <;> first | (simp only [AV.kill,AV.kill0,if_pos h1,if_pos h2]; done) | (simp only [AV.kill,AV.kill0,if_pos h1,if_neg h2]; done) | (simp only [AV.kill,AV.kill0,if_neg h1,if_pos h2]; done) | (simp only [AV.kill,AV.kill0,if_neg h1,if_neg h2]; done)
 | mp a b=>by_cases h1:(a=t/\b=n) <;> by_cases h2:(a=t'/\b=n') <;> first | (simp only [AV.kill,AV.kill0,if_pos h1,if_pos h2]; done) | (simp only [AV.kill,AV.kill0,if_pos h1,if_neg h2]; done) | (simp only [AV.kill,AV.kill0,if_neg h1,if_pos h2]; done) | (simp only [AV.kill,AV.kill0,if_neg h1,if_neg h2]; done)
 | _=>rfl
theorem OV {m t n:Nat} {v:AV} (hv:lowV m v):lowV m (v.kill t n):=fun t' n' h=>by rw [kill_comm,hv t' n' h]
def lB (m:Nat) (e:Nat->wA):Prop:=∀ t,lowV m (e t).v
def dL (m:Nat) (M:Nat->Nat->Option (List wA)):Prop:=∀ t n r,M t n=some r->∀ x∈r,lowV m x.v
def RC (m:Nat) (M0 M:Nat->Nat->Option (List wA)):Prop:=∀ t n,n<m->M t n=M0 t n
theorem lB.put {m:Nat} {e:Nat->wA} {d:Nat} {x:wA} (h:lB m e) (hx:lowV m x.v):lB m (putE e d x):=fun t=>by
 rw [nH];split
 ·exact hx
 ·exact h t
theorem lB.mono {m m':Nat} (hm:m<=m') {e:Nat->wA} (h:lB m e):lB m' e:=fun t=>RI hm (h t)
theorem lB.kill {m:Nat} {e:Nat->wA} (h:lB m e) {t n:Nat}:lB m (QX t n e):=fun j=>by
 rw [pB,wA.kill_v];exact OV (h j)
theorem lB.same {m:Nat} {e:Nat->wA} (h:lB m e) {t n:Nat} (hn:m<=n):QX t n e=e:=funext fun j=>by
 rw [pB];show (⟨(e j).v.kill t n,(e j).a⟩:wA)=e j;rw [W2 hn (h j)]
theorem dL.set {m:Nat} {M:Nat->Nat->Option (List wA)} {t n:Nat} {r:List wA} (h:dL m M) (hr:∀ x∈r,lowV m x.v):dL m (XY M t n r):=fun t' n' r' he=>by
 rw [uB] at he;split at he
 ·injection he with he; subst he; exact hr
 ·exact h t' n' r' he
theorem dL.mono {m m':Nat} (hm:m<=m') {M:Nat->Nat->Option (List wA)} (h:dL m M):dL m' M:=fun t n r he x hx=>RI hm (h t n r he x hx)
theorem dL.kill {m:Nat} {M:Nat->Nat->Option (List wA)} (h:dL m M) {t n:Nat}:dL m (C1 t n M):=fun t' n' r' he x hx=>by
 rw [nB] at he;split at he
 ·cases he
 ·obtain ⟨r,hr,rfl⟩:=yn.1 he;obtain ⟨y,hy,rfl⟩:=yp.1 hx;rw [wA.kill_v];exact OV (h t' n' r hr y hy)
theorem RC.refl {m:Nat} {M:Nat->Nat->Option (List wA)}:RC m M M:=fun _ _ _=>rfl
theorem RC.set {m:Nat} {M0 M:Nat->Nat->Option (List wA)} {t n:Nat} {r:List wA} (h:RC m M0 M) (hn:m<=n):RC m M0 (XY M t n r):=fun t' n' h'=>by
 rw [uB,if_neg (by omega)];exact h t' n' h'
theorem RC.kill {m:Nat} {M0 M:Nat->Nat->Option (List wA)} (h:RC m M0 M) (h0:dL m M0) {t n:Nat} (hn:m<=n):RC m M0 (C1 t n M):=fun t' n' h'=>by
 rw [nB,if_neg (by omega),h t' n' h'];cases hr:M0 t' n' with
 | none=>rfl
 | some r =>
  refine congrArg some ?_;have:r.map (wA.kill t n)=r.map id:=yw fun x hx=>by
   show (⟨x.v.kill t n,x.a⟩:wA)=x;rw [W2 hn (h0 t' n' r hr x hx)]
  rwa [List.map_id] at this
theorem T4 {m:Nat} {l:List (List AV)} (h:∀ c∈l,∀ v∈c,x7 m v) (h2:∀ c∈l,∀ v∈c,v.leaf=true):∀ x∈kA l,lowV m x.v:=fun x hx=>by
 obtain ⟨v,hv,rfl⟩:=yp.1 hx;obtain ⟨c,hc,hv⟩:=List.mem_flatten.1 hv;exact lowV_of (h c hc v hv) (h2 c hc v hv)
theorem F9 {v:AV} (h:v.free0=true):v.leaf=true:=by
 cases v <;> first | rfl | (simp [AV.free0] at h; done)
theorem WE {m:Nat} {l:List (List AV)} (h:UD l=true):∀ x∈kA l,lowV m x.v :=
 T4 (fun c hc v hv=>lQ (y6.1 (y6.1 h c hc) v hv)) (fun c hc v hv=>F9 (y6.1 (y6.1 h c hc) v hv))
structure Calm (m:Nat) (s0 s:aA):Prop where
 mem:RC m s0.mem s.mem
 gh:s.gh=s0.gh
 obj:s.obj=s0.obj
 next:m<=s.next
 low:dL s.next s.mem
section
set_option maxHeartbeats 4000000
def TN (id:Int):ByteArray:=⟨#[109]⟩++Utf8.encode (97 + id)
def TH (l:List fC) (i id:Int) (p:pQ):Bool:=decide (1 + p.id % 12=id/\0<=PG l i p.ty)
def GK (l:List fC) (i:Int) (rc:Bool) (id:Int) (p:pQ):zB :=
 ⟨id,TN id,PG l i p.ty,rc&&decide (p.flag % 4=1),rc&&decide (2<=p.flag % 4)&&(DJ l (PG l i p.ty) (p.flag / 4)).2,if (rc&&decide (2<=p.flag % 4))=true then (DJ l (PG l i p.ty) (p.flag / 4)).1 else Vl.zero⟩
def PP (l:List fC) (i:Int) (rc:Bool) (id:Int) (ps:List pQ):List zB:=match ps.find? (TH l i id) with
 | some p=>[GK l i rc id p]
 | none=>[]
def zJ (l:List fC) (i:Int) (rc:Bool) (ps:List pQ):Nat->List zB
 | 0=>[]
 | n + 1=>zJ l i rc ps n++PP l i rc ((n + 1:Nat):Int) ps
def lE (l:List fC) (i:Int) (rc:Bool) (ps:List pQ):List zB:=zJ l i rc ps 12
theorem memAt_len (l:List fC) (i:Int) (rc:Bool) (id:Int) (ps:List pQ):(PP l i rc id ps).length<=1:=by
 unfold PP;split <;> simp
theorem LK (l:List fC) (i:Int) (rc:Bool) (ps:List pQ):∀ n,(zJ l i rc ps n).length<=n
 | 0=>yj _
 | n + 1=>by
  have:=LK l i rc ps n;have:=memAt_len l i rc ((n + 1:Nat):Int) ps;rw [zJ,yz];omega
def IW (n0:Nat) (ms:List zB) (x:wA) (s:aA):Prop :=
 (ms=[]/\x.v=.sl true []/\x.a=.ex)\/∃ N,ms≠[]/\n0<=N/\N<s.next/\x.v=.ref 88 N 13 0 ms.length ms.length/\s.mem 88 N=some (kA (ms.map nA))
structure NK (n0:Nat) (s0:aA) (dn:Bool) (l:List fC) (i0:Int) (rc:Bool) (x:fC) (id:Int) (ms:List zB) (s:aA):Prop where
 e1:(s.env 1).v=.int .i64 i0
 e2:(s.env 2).v=.bool rc
 e3:(s.env 3).v=.ptr 3 n0 0
 m3:s.mem 3 n0=some [⟨.sl dn (l.map sD),.no⟩]
 e7:(s.env 7).v=.ptr 7 (n0 + 1) 0
 m7:s.mem 7 (n0 + 1)=some [⟨.int .u8 x.k,.no⟩,⟨.int .u8 x.a,.no⟩,⟨.int .u8 x.b,.no⟩,⟨.int .u8 x.c,.no⟩,⟨.sl x.pn (x.parts.map ND),.no⟩]
 e9:(s.env 9).v=.int .i64 id
 lst:IW n0 ms (s.env 8) s
 calm:Calm n0 s0 s
 lt:n0 + 1<s.next
theorem IW.of {n0:Nat} {ms:List zB} {x x':wA} {s s':aA} (h:IW n0 ms x s) (hx:x'=x) (hm:∀ N,s'.mem 88 N=s.mem 88 N) (hn:s.next<=s'.next):IW n0 ms x' s':=by
 subst hx;rcases h with h | ⟨N,h1,h2,h3,h4,h5⟩
 ·exact .inl h
 ·exact .inr ⟨N,h1,h2,Nat.lt_of_lt_of_le h3 hn,h4,(hm N).trans h5⟩
theorem dA {m:Nat} {r:List wA} (h:r.all (fun x=>x.v.free)=true:=by simp [AV.free,AV.free0]):∀ x∈r,lowV m x.v:=fun x hx=>RN (y6.1 h x hx)
theorem BW (n:Int):(Utf8.encode n).size<=4:=by
 unfold Utf8.encode;dsimp only;generalize (if Utf8.valid n=true then n.toNat else Utf8.runeError)=c;split
 ·exact (by decide:(1:Nat)<=4)
 ·split
  ·exact (by decide:(2:Nat)<=4)
  ·split
   ·exact (by decide:(3:Nat)<=4)
   ·exact (by decide:(4:Nat)<=4)
theorem gX (n:Int) (h:-2147483648<=n/\n<=2147483647):IntKind.i32.wrap n=n:=by
 simp [IntKind.wrap,IntKind.bits,IntKind.signed];omega
theorem parts_in {r:RV} {n0:Nat} {s0:aA} {dn:Bool} {l:List fC} (hl:oks l) {i0:Int} (jg:0<=i0) (tg:i0<l.length) {rc:Bool} {x:fC} (hx:x.ok) (hM:dL n0 s0.mem) (hG:lB n0 s0.gh) {id:Int} (KR:1<=id/\id<=12) {ms:List zB} (wr:ms.length<=12) (s:aA) (k:Ex->aA->Option RV) (h:NK n0 s0 dn l i0 rc x id ms s) (dt:(s.env 10).v=.int .i64 0)
  (hk:∀ s',NK n0 s0 dn l i0 rc x id (ms++PP l i0 rc id x.parts) s'->k (.exit 2) s'=some r):WI jA tA cB s k=some r:=by
 refine RA x.parts.length (fun j s=>NK n0 s0 dn l i0 rc x id ms s/\(s.env 10).v=.int .i64 j/\(x.parts.drop j).find? (TH l i0 id)=x.parts.find? (TH l i0 id))
  (fun e s=>e=.exit 2/\NK n0 s0 dn l i0 rc x id (ms++PP l i0 rc id x.parts) s) (fun j hj s k h ih hk=>?_) s k ⟨h,by simpa using dt,rfl⟩ (fun e s h=>by obtain ⟨rfl,h⟩:=h; exact hk s h)
 obtain ⟨⟨e1,e2,e3,m3,e7,m7,e9,lst,calm,lt⟩,e10,hf⟩:=h;have pd:=hx.2.2.2.2.1;refine iA ?_;by_cases fa:j<x.parts.length
 ·have ga:(j:Int)<x.parts.length:=by omega
  have ez:=WB (i:=j);have hp:=hx.2.2.2.2.2 _ (y8 fa);have g1:(x.parts.map ND)[j]?=some (ND x.parts[j]):=by simp [fa]
  rw [yb fa,List.find?_cons] at hf;generalize x.parts[j]=p at *
  simp only [ND] at g1;have lv:=target_ev dn l hl i0 jg tg p.ty hp.2.1;have hti:=eQ hl i0 p.ty tg;have uq:=fun rb=>B9 dn l hl (PG l i0 p.ty) rb hti.2 (p.flag / 4) ⟨by have:=hp.2.2.1; omega,by have:=hp.2.2.2; omega⟩
  simp only [gA,uG] at lv uq;have kj:p.id.tmod 12=p.id % 12:=yt hp.1.1;have br:IntKind.i64.wrap (p.id % 12)=p.id % 12:=IntWalk.i64_in _ (by omega);have jl:IntKind.i64.wrap (1 + p.id % 12)=1 + p.id % 12:=IntWalk.i64_in _ (by omega);have zk:IntKind.i64.wrap id=id:=IntWalk.i64_in _ (by omega);obtain ⟨z,hz⟩:∃ z:Int,z=j:=⟨_,rfl⟩;have ic:0<=z:=by omega
  have zn:IntKind.i64.wrap (z + 1)=((j + 1:Nat):Int):=by rw [hz]; exact ez
  rw [<- hz] at e10 ga;rw [show j=z.toNat from by omega] at g1;have calm':=calm;obtain ⟨cm,cg,co,cn,cl⟩:=calm;have next:∀ s',NK n0 s0 dn l i0 rc x id ms s'->(s'.env 10).v=.int .i64 ((j + 1:Nat):Int)->TH l i0 id p=false->WI jA tA cB s' k=some r:=fun s' h1 h2 h3=>by
   rw [h3] at hf;exact ih fa s' ⟨h1,h2,hf⟩
  by_cases c1:1 + p.id % 12=id
  ·by_cases c2:PG l i0 p.ty<0
   ·have uu:TH l i0 id p=false:=by simp [TH,c1]; omega
    simp [cB,-J,-y4,-y3,y0,e1,e2,e3,m3,e7,m7,e9,e10,ga,g1,ic,lv,kj,br,jl,c1,c2,zn,zk];refine next _ ⟨?_,?_,?_,?_,?_,?_,?_,lst.of ?_ ?_ ?_,⟨?_,?_,?_,?_,?_⟩,?_⟩ ?_ uu
    ·simp [e1]
    ·simp [e2]
    ·simp [e3]
    ·simp [uB,m3]
    ·simp [e7]
    ·simp [uB,m7]
    ·simp [e9]
    ·simp
    ·intro N; simp [uB]
    ·simp only; omega
    ·exact (cm.set (by omega)).set (by omega)
    ·exact cg
    ·exact co
    ·simp only; omega
    ·exact ((cl.mono (by dsimp only; omega)).set dA).set dA
    ·simp only; omega
    ·simp
   ·have hip:TH l i0 id p=true:=by simp [TH,c1]; omega
    rw [hip] at hf;have hma:PP l i0 rc id x.parts=[GK l i0 rc id p]:=by rw [PP,<- hf]
    rw [hma] at hk;have uq:=uq (by omega);have hq4:p.flag.tmod 4=p.flag % 4:=yt hp.2.2.1;have hv4:p.flag.tdiv 4=p.flag / 4:=Int.tdiv_eq_ediv_of_nonneg hp.2.2.1;have kw:IntKind.u8.wrap (p.flag / 4)=p.flag / 4:=by have:=hp.2.2.1; have:=hp.2.2.2; simp [IntKind.wrap,IntKind.bits,IntKind.signed]; omega
    have ir:IntKind.i64.wrap (97 + id)=97 + id:=IntWalk.i64_in _ (by omega);have dz:IntKind.i32.wrap (97 + id)=97 + id:=gX _ (by omega);have hes:=BW (97 + id);have tb:(⟨#[109]⟩:ByteArray).size=1:=rfl;have ab:(⟨#[109]⟩:ByteArray).size + (Utf8.encode (97 + id)).size<=9223372036854775807:=by omega
    unfold GK TN at hk;generalize hE:Utf8.encode (97 + id)=nm at *
    generalize DJ l (PG l i0 p.ty) (p.flag / 4)=iz at *
    obtain ⟨iv,ib⟩:=iz;simp only [qA] at uq;generalize PG l i0 p.ty=t at *
    rcases lst with ⟨lm,l1,l2⟩ | ⟨N,lm,l1,l2,l3,l4⟩
    ·subst lm;have oa:ZA 160 1=true:=by rw [xA]; omega
     cases rc with
     | false =>
      simp [cB,-J,-y4,-y3,y0,e1,e2,e3,m3,e7,m7,e9,e10,ga,g1,ic,lv,kj,br,jl,c1,c2,zk,ir,dz,hE,ab,l1,oa,l2];refine hk _ _ ⟨rfl,?_,?_,?_,?_,?_,?_,?_,.inr ⟨s.next + 1 + 1 + 1 + 1 + 1 + 1 + 1,?_,?_,?_,?_,?_⟩,⟨?_,?_,?_,?_,?_⟩,?_⟩
      ·simp [e1]
      ·simp [e2]
      ·simp [e3]
      ·simp [uB,m3]
      ·simp [e7]
      ·simp [uB,m7]
      ·simp [e9]
      ·simp
      ·omega
      ·dsimp only; omega
      ·simp
      ·simp [uB,nA,Vl.zero,Vl.kind,Vl.b,Vl.i,Vl.s,Vl.id,Vl.kn,Vl.keys,Vl.xn,Vl.items,Vl.rn,Vl.rest]
      ·repeat (first | exact cm | refine RC.set ?_ (by omega) | refine RC.kill ?_ hM (by omega))
      ·exact cg
      ·exact co
      ·dsimp only; omega
      ·exact (((((cl.mono (by dsimp only; omega)).set dA).set dA).set dA).set dA).set (WE (by simp [UD,AV.free0,nA]))
      ·dsimp only; omega
     | true =>
      by_cases f1:p.flag % 4=1
      ·simp [cB,-J,-y4,-y3,y0,e1,e2,e3,m3,e7,m7,e9,e10,ga,g1,ic,lv,kj,br,jl,c1,c2,zk,ir,dz,hE,ab,l1,oa,l2,hq4,f1];refine hk _ _ ⟨rfl,?_,?_,?_,?_,?_,?_,?_,.inr ⟨s.next + 1 + 1 + 1 + 1 + 1 + 1 + 1 + 1,?_,?_,?_,?_,?_⟩,⟨?_,?_,?_,?_,?_⟩,?_⟩
       ·simp [e1]
       ·simp [e2]
       ·simp [e3]
       ·simp [uB,m3]
       ·simp [e7]
       ·simp [uB,m7]
       ·simp [e9]
       ·simp
       ·omega
       ·dsimp only; omega
       ·simp
       ·simp [uB,nA,Vl.zero,Vl.kind,Vl.b,Vl.i,Vl.s,Vl.id,Vl.kn,Vl.keys,Vl.xn,Vl.items,Vl.rn,Vl.rest,f1]
       ·repeat (first | exact cm | refine RC.set ?_ (by omega) | refine RC.kill ?_ hM (by omega))
       ·exact cg
       ·exact co
       ·dsimp only; omega
       ·exact ((((((cl.mono (by dsimp only; omega)).set dA).set dA).set dA).set dA).set dA).set (WE (by simp [UD,AV.free0,nA]))
       ·dsimp only; omega
      ·by_cases f2:2<=p.flag % 4
       ·simp [cB,-J,-y4,-y3,y0,e1,e2,e3,m3,e7,m7,e9,e10,ga,g1,ic,lv,kj,br,jl,c1,c2,zk,ir,dz,hE,ab,l1,oa,l2,hq4,f1,f2,hv4,kw,uq];refine hk _ _ ⟨rfl,?_,?_,?_,?_,?_,?_,?_,.inr ⟨s.next + 1 + 1 + 1 + 1 + 1 + 1 + 1 + 1,?_,?_,?_,?_,?_⟩,⟨?_,?_,?_,?_,?_⟩,?_⟩
        ·simp [e1]
        ·simp [e2]
        ·simp [e3]
        ·simp [uB,m3]
        ·simp [e7]
        ·simp [uB,m7]
        ·simp [e9]
        ·simp
        ·omega
        ·dsimp only; omega
        ·simp
        ·simp [uB,nA,Vl.zero,Vl.kind,Vl.b,Vl.i,Vl.s,Vl.id,Vl.kn,Vl.keys,Vl.xn,Vl.items,Vl.rn,Vl.rest,f1,f2]
        ·repeat (first | exact cm | refine RC.set ?_ (by omega) | refine RC.kill ?_ hM (by omega))
        ·exact cg
        ·exact co
        ·dsimp only; omega
        ·exact (((((((cl.mono (by dsimp only; omega)).set dA).set dA).set dA).set dA).set dA).set dA).set (WE (by simp [UD,AV.free0,nA]))
        ·dsimp only; omega
       ·simp [cB,-J,-y4,-y3,y0,e1,e2,e3,m3,e7,m7,e9,e10,ga,g1,ic,lv,kj,br,jl,c1,c2,zk,ir,dz,hE,ab,l1,oa,l2,hq4,f1,f2];refine hk _ _ ⟨rfl,?_,?_,?_,?_,?_,?_,?_,.inr ⟨s.next + 1 + 1 + 1 + 1 + 1 + 1 + 1,?_,?_,?_,?_,?_⟩,⟨?_,?_,?_,?_,?_⟩,?_⟩
        ·simp [e1]
        ·simp [e2]
        ·simp [e3]
        ·simp [uB,m3]
        ·simp [e7]
        ·simp [uB,m7]
        ·simp [e9]
        ·simp
        ·omega
        ·dsimp only; omega
        ·simp
        ·simp [uB,nA,Vl.zero,Vl.kind,Vl.b,Vl.i,Vl.s,Vl.id,Vl.kn,Vl.keys,Vl.xn,Vl.items,Vl.rn,Vl.rest,f1,f2]
        ·repeat (first | exact cm | refine RC.set ?_ (by omega) | refine RC.kill ?_ hM (by omega))
        ·exact cg
        ·exact co
        ·dsimp only; omega
        ·exact (((((cl.mono (by dsimp only; omega)).set dA).set dA).set dA).set dA).set (WE (by simp [UD,AV.free0,nA]))
        ·dsimp only; omega
    ·have rj:(ms.map nA).length=ms.length:=by simp
     have oa:ZA 160 (ms.length + 1)=true:=by rw [xA]; omega
     have pf:=cW ms;have ly:UD (ms.map nA)=true:=DK nA ms fun m=>by simp [nA,AV.free0]
     have bj:zE (kA (ms.map nA)) 13 0 ms.length=some (ms.map nA):=by have:=mH pf ly; rwa [rj] at this
     cases rc with
     | false =>
      simp [cB,-J,-y4,-y3,y0,e1,e2,e3,m3,e7,m7,e9,e10,ga,g1,ic,lv,kj,br,jl,c1,c2,zk,ir,dz,hE,ab,l3,oa,l4,bj];refine hk _ _ ⟨rfl,?_,?_,?_,?_,?_,?_,?_,.inr ⟨s.next + 1 + 1 + 1 + 1 + 1 + 1 + 1,?_,?_,?_,?_,?_⟩,⟨?_,?_,?_,?_,?_⟩,?_⟩
      ·simp [pB,nB,wA.kill_v,wA.kill_mk,AV.kill,AV.kill0,e1]
      ·simp [pB,nB,wA.kill_v,wA.kill_mk,AV.kill,AV.kill0,e2]
      ·simp [pB,nB,wA.kill_v,wA.kill_mk,AV.kill,AV.kill0,e3]
      ·simp [pB,nB,wA.kill_v,wA.kill_mk,AV.kill,AV.kill0,uB,m3]
      ·simp [pB,nB,wA.kill_v,wA.kill_mk,AV.kill,AV.kill0,e7]
      ·simp [pB,nB,wA.kill_v,wA.kill_mk,AV.kill,AV.kill0,uB,m7]
      ·simp [pB,nB,wA.kill_v,wA.kill_mk,AV.kill,AV.kill0,e9]
      ·simp
      ·omega
      ·dsimp only; omega
      ·simp
      ·simp [uB,nA,Vl.zero,Vl.kind,Vl.b,Vl.i,Vl.s,Vl.id,Vl.kn,Vl.keys,Vl.xn,Vl.items,Vl.rn,Vl.rest]
      ·repeat (first | exact cm | refine RC.set ?_ (by omega) | refine RC.kill ?_ hM (by omega))
      ·dsimp only; rw [cg]; exact hG.same (by omega)
      ·exact co
      ·dsimp only; omega
      ·exact ((((((cl.mono (by dsimp only; omega)).set dA).set dA).set dA).set dA).kill).set (WE (by simp [UD,AV.free0,nA]))
      ·dsimp only; omega
     | true =>
      by_cases f1:p.flag % 4=1
      ·simp [cB,-J,-y4,-y3,y0,e1,e2,e3,m3,e7,m7,e9,e10,ga,g1,ic,lv,kj,br,jl,c1,c2,zk,ir,dz,hE,ab,l3,oa,l4,bj,hq4,f1];refine hk _ _ ⟨rfl,?_,?_,?_,?_,?_,?_,?_,.inr ⟨s.next + 1 + 1 + 1 + 1 + 1 + 1 + 1 + 1,?_,?_,?_,?_,?_⟩,⟨?_,?_,?_,?_,?_⟩,?_⟩
       ·simp [pB,nB,wA.kill_v,wA.kill_mk,AV.kill,AV.kill0,e1]
       ·simp [pB,nB,wA.kill_v,wA.kill_mk,AV.kill,AV.kill0,e2]
       ·simp [pB,nB,wA.kill_v,wA.kill_mk,AV.kill,AV.kill0,e3]
       ·simp [pB,nB,wA.kill_v,wA.kill_mk,AV.kill,AV.kill0,uB,m3]
       ·simp [pB,nB,wA.kill_v,wA.kill_mk,AV.kill,AV.kill0,e7]
       ·simp [pB,nB,wA.kill_v,wA.kill_mk,AV.kill,AV.kill0,uB,m7]
       ·simp [pB,nB,wA.kill_v,wA.kill_mk,AV.kill,AV.kill0,e9]
       ·simp
       ·omega
       ·dsimp only; omega
       ·simp
       ·simp [uB,nA,Vl.zero,Vl.kind,Vl.b,Vl.i,Vl.s,Vl.id,Vl.kn,Vl.keys,Vl.xn,Vl.items,Vl.rn,Vl.rest,f1]
       ·repeat (first | exact cm | refine RC.set ?_ (by omega) | refine RC.kill ?_ hM (by omega))
       ·dsimp only; rw [cg]; exact hG.same (by omega)
       ·exact co
       ·dsimp only; omega
       ·exact (((((((cl.mono (by dsimp only; omega)).set dA).set dA).set dA).set dA).set dA).kill).set (WE (by simp [UD,AV.free0,nA]))
       ·dsimp only; omega
      ·by_cases f2:2<=p.flag % 4
       ·simp [cB,-J,-y4,-y3,y0,e1,e2,e3,m3,e7,m7,e9,e10,ga,g1,ic,lv,kj,br,jl,c1,c2,zk,ir,dz,hE,ab,l3,oa,l4,bj,hq4,f1,f2,hv4,kw,uq];refine hk _ _ ⟨rfl,?_,?_,?_,?_,?_,?_,?_,.inr ⟨s.next + 1 + 1 + 1 + 1 + 1 + 1 + 1 + 1,?_,?_,?_,?_,?_⟩,⟨?_,?_,?_,?_,?_⟩,?_⟩
        ·simp [pB,nB,wA.kill_v,wA.kill_mk,AV.kill,AV.kill0,e1]
        ·simp [pB,nB,wA.kill_v,wA.kill_mk,AV.kill,AV.kill0,e2]
        ·simp [pB,nB,wA.kill_v,wA.kill_mk,AV.kill,AV.kill0,e3]
        ·simp [pB,nB,wA.kill_v,wA.kill_mk,AV.kill,AV.kill0,uB,m3]
        ·simp [pB,nB,wA.kill_v,wA.kill_mk,AV.kill,AV.kill0,e7]
        ·simp [pB,nB,wA.kill_v,wA.kill_mk,AV.kill,AV.kill0,uB,m7]
        ·simp [pB,nB,wA.kill_v,wA.kill_mk,AV.kill,AV.kill0,e9]
        ·simp
        ·omega
        ·dsimp only; omega
        ·simp
        ·simp [uB,nA,Vl.zero,Vl.kind,Vl.b,Vl.i,Vl.s,Vl.id,Vl.kn,Vl.keys,Vl.xn,Vl.items,Vl.rn,Vl.rest,f1,f2]
        ·repeat (first | exact cm | refine RC.set ?_ (by omega) | refine RC.kill ?_ hM (by omega))
        ·dsimp only; rw [cg]; exact hG.same (by omega)
        ·exact co
        ·dsimp only; omega
        ·exact ((((((((cl.mono (by dsimp only; omega)).set dA).set dA).set dA).set dA).set dA).set dA).kill).set (WE (by simp [UD,AV.free0,nA]))
        ·dsimp only; omega
       ·simp [cB,-J,-y4,-y3,y0,e1,e2,e3,m3,e7,m7,e9,e10,ga,g1,ic,lv,kj,br,jl,c1,c2,zk,ir,dz,hE,ab,l3,oa,l4,bj,hq4,f1,f2];refine hk _ _ ⟨rfl,?_,?_,?_,?_,?_,?_,?_,.inr ⟨s.next + 1 + 1 + 1 + 1 + 1 + 1 + 1,?_,?_,?_,?_,?_⟩,⟨?_,?_,?_,?_,?_⟩,?_⟩
        ·simp [pB,nB,wA.kill_v,wA.kill_mk,AV.kill,AV.kill0,e1]
        ·simp [pB,nB,wA.kill_v,wA.kill_mk,AV.kill,AV.kill0,e2]
        ·simp [pB,nB,wA.kill_v,wA.kill_mk,AV.kill,AV.kill0,e3]
        ·simp [pB,nB,wA.kill_v,wA.kill_mk,AV.kill,AV.kill0,uB,m3]
        ·simp [pB,nB,wA.kill_v,wA.kill_mk,AV.kill,AV.kill0,e7]
        ·simp [pB,nB,wA.kill_v,wA.kill_mk,AV.kill,AV.kill0,uB,m7]
        ·simp [pB,nB,wA.kill_v,wA.kill_mk,AV.kill,AV.kill0,e9]
        ·simp
        ·omega
        ·dsimp only; omega
        ·simp
        ·simp [uB,nA,Vl.zero,Vl.kind,Vl.b,Vl.i,Vl.s,Vl.id,Vl.kn,Vl.keys,Vl.xn,Vl.items,Vl.rn,Vl.rest,f1,f2]
        ·repeat (first | exact cm | refine RC.set ?_ (by omega) | refine RC.kill ?_ hM (by omega))
        ·dsimp only; rw [cg]; exact hG.same (by omega)
        ·exact co
        ·dsimp only; omega
        ·exact ((((((cl.mono (by dsimp only; omega)).set dA).set dA).set dA).set dA).kill).set (WE (by simp [UD,AV.free0,nA]))
        ·dsimp only; omega
  ·have uu:TH l i0 id p=false:=by simp [TH,c1]
   simp [cB,-J,-y4,-y3,y0,e1,e2,e3,m3,e7,m7,e9,e10,ga,g1,ic,lv,kj,br,jl,c1,zn];refine next _ ⟨?_,?_,?_,?_,?_,?_,?_,lst.of ?_ ?_ ?_,⟨?_,?_,?_,?_,?_⟩,?_⟩ ?_ uu
   ·simp [e1]
   ·simp [e2]
   ·simp [e3]
   ·simp [uB,m3]
   ·simp [e7]
   ·simp [uB,m7]
   ·simp [e9]
   ·simp
   ·intro N; simp [uB]
   ·simp only; omega
   ·exact (cm.set (by omega)).set (by omega)
   ·exact cg
   ·exact co
   ·simp only; omega
   ·exact ((cl.mono (by dsimp only; omega)).set dA).set dA
   ·simp only; omega
   ·simp
 ·have ga:¬ (j:Int)<x.parts.length:=by omega
  simp [cB,-J,-y4,-y3,y0,e7,m7,e10,fa];rw [yk (by omega),List.find?_nil] at hf;have hnil:PP l i0 rc id x.parts=[]:=by rw [PP,<- hf]
  refine hk _ _ ⟨rfl,?_⟩;rw [hnil,List.append_nil];obtain ⟨cm,cg,co,cn,cl⟩:=calm;refine ⟨?_,?_,?_,?_,?_,?_,?_,lst.of ?_ ?_ ?_,⟨?_,?_,?_,?_,?_⟩,?_⟩
  ·simp [e1]
  ·simp [e2]
  ·simp [e3]
  ·simp [m3]
  ·simp [e7]
  ·simp [m7]
  ·simp [e9]
  ·simp
  ·intro N; simp
  ·simp
  ·exact cm
  ·exact cg
  ·exact co
  ·simp only; omega
  ·exact cl.mono (by dsimp only; omega)
  ·simp only; omega
end
section
set_option maxHeartbeats 4000000
theorem NK.of {n0:Nat} {s0:aA} {dn:Bool} {l:List fC} {i0:Int} {rc:Bool} {x:fC} {id id':Int} {ms:List zB} {s s':aA} (h:NK n0 s0 dn l i0 rc x id ms s)
  (h1:(s'.env 1).v=(s.env 1).v) (h2:(s'.env 2).v=(s.env 2).v) (h3:(s'.env 3).v=(s.env 3).v) (h7:(s'.env 7).v=(s.env 7).v) (h8:s'.env 8=s.env 8) (h9:(s'.env 9).v=.int .i64 id') (hm:s'.mem=s.mem) (hg:s'.gh=s.gh) (ho:s'.obj=s.obj) (hn:s.next<=s'.next):NK n0 s0 dn l i0 rc x id' ms s':=by
 obtain ⟨e1,e2,e3,m3,e7,m7,e9,lst,⟨cm,cg,co,cn,cl⟩,lt⟩:=h;refine ⟨by rw [h1,e1],by rw [h2,e2],by rw [h3,e3],by rw [hm,m3],by rw [h7,e7],by rw [hm,m7],h9,lst.of h8 (fun N=>by rw [hm]) hn,⟨by rw [hm]; exact cm,by rw [hg,cg],by rw [ho,co],by omega,by rw [hm]; exact cl.mono hn⟩,by omega⟩
theorem C7 {r:RV} {dn:Bool} {l:List fC} (hl:oks l) {i0:Int} (jg:0<=i0) (tg:i0<l.length) {rc:Bool} {x:fC} (hx:l[i0.toNat]?=some x) {a1 a2 a3:An} (s0:aA) (hM:dL s0.next s0.mem) (hG:lB s0.next s0.gh) (k:wA->aA->Option RV)
  (hk:∀ y s',Calm s0.next s0 s'->IW s0.next (lE l i0 rc x.parts) y s'->k y s'=some r):evH jA tA 86 [⟨.agg (uG dn l),a1⟩,⟨.int .i64 i0,a2⟩,⟨.bool rc,a3⟩] s0 k=some r:=by
 refine KT fK rfl rfl ?_;have hxo:x.ok:=hl.2.2 _ (yh hx);have g:(l.map sD)[i0.toNat]?=some (sD x):=by simp [hx]
 simp only [sD] at g;simp [fK,uG,-J,-y4,-y3,y0,g,jg];refine RA 12 (fun i s=>NK s0.next s0 dn l i0 rc x ((i + 1:Nat):Int) (zJ l i0 rc x.parts i) s)
  (fun e s=>e=.exit 0/\∃ id,NK s0.next s0 dn l i0 rc x id (lE l i0 rc x.parts) s) (fun i hi s k' h ih hk=>?_) _ _ ?_ (fun e s h=>?_)
 ·refine iA ?_;by_cases fa:i<12
  ·have KR:((i + 1:Nat):Int)<=12:=by omega
   have e9:=h.e9;have hw:IntKind.i64.wrap (((i + 1:Nat):Int) + 1)=((i + 1 + 1:Nat):Int):=WB (by omega);obtain ⟨z,hz⟩:∃ z:Int,z=((i + 1:Nat):Int):=⟨_,rfl⟩;rw [<- hz] at e9 KR hw;simp [XJ,-J,-y4,-y3,y0,e9,KR];refine parts_in hl jg tg hxo hM hG (id:=z) (by omega) (Nat.le_trans (LK l i0 rc x.parts i) hi) _ _ (h.of ?_ ?_ ?_ ?_ ?_ ?_ ?_ ?_ ?_ ?_) ?_ (fun s' h'=>?_)
   ·simp
   ·simp
   ·simp
   ·simp
   ·simp
   ·simp [e9]
   ·rfl
   ·rfl
   ·rfl
   ·dsimp only; omega
   ·simp
   ·have e9':=h'.e9;simp [-J,-y4,-y3,y0,e9',hw];rw [hz] at h';refine ih fa _ (NK.of (ms:=zJ l i0 rc x.parts (i + 1)) h' ?_ ?_ ?_ ?_ ?_ ?_ ?_ ?_ ?_ ?_)
    ·simp
    ·simp
    ·simp
    ·simp
    ·simp
    ·simp
    ·rfl
    ·rfl
    ·rfl
    ·dsimp only; omega
  ·have hi12:i=12:=by omega
   subst hi12;have e9:=h.e9;simp at e9;simp [XJ,-J,-y4,-y3,y0,e9];refine hk _ _ ⟨rfl,13,NK.of (id':=13) h ?_ ?_ ?_ ?_ ?_ ?_ ?_ ?_ ?_ ?_⟩
   ·simp
   ·simp
   ·simp
   ·simp
   ·simp
   ·simp [e9]
   ·rfl
   ·rfl
   ·rfl
   ·dsimp only; omega
 ·refine ⟨?_,?_,?_,?_,?_,?_,?_,.inl ⟨rfl,?_,?_⟩,⟨?_,?_,?_,?_,?_⟩,?_⟩
  ·simp
  ·simp
  ·simp
  ·simp [uB]
  ·simp
  ·simp [uB]
  ·simp
  ·simp
  ·simp
  ·exact (((RC.refl).set (by omega)).set (by omega)).set (by omega)
  ·rfl
  ·rfl
  ·dsimp only; omega
  ·exact (((hM.mono (by dsimp only; omega)).set dA).set dA).set dA
  ·dsimp only; omega
 ·obtain ⟨rfl,id,h⟩:=h;obtain ⟨e1,e2,e3,m3,e7,m7,e9,lst,⟨cm,cg,co,cn,cl⟩,lt⟩:=h;simp [-J,-y4,-y3,y0,mP,EY,DV];refine hk _ _ ⟨cm,cg,co,?_,cl.mono ?_⟩ (lst.of ?_ (fun N=>?_) ?_)
  ·dsimp only; omega
  ·dsimp only; omega
  ·rfl
  ·rfl
  ·dsimp only; omega
end
def dM (x:wA):Prop:=∀ k,x.strip k=x
def QM (e:Nat->wA):Prop:=∀ t,dM (e t)
def PW (m:Nat) (M:Nat->Nat->Option (List wA)):Prop:=∀ t n r,n<m->M t n=some r->∀ x∈r,dM x
theorem gT (v:AV):dM ⟨v,.no⟩:=fun _=>rfl
theorem N7 (v:AV):dM ⟨v,.ex⟩:=fun _=>rfl
theorem QM.same {e:Nat->wA} (h:QM e) (k:Nat):NY k e=e:=funext fun t=>by rw [T3]; exact h t k
theorem MY (k:Nat) (M:Nat->Nat->Option (List wA)) (t n:Nat):wV k M t n=(M t n).map (·.map (wA.strip k)):=rfl
theorem RC.strip {m:Nat} {M0 M:Nat->Nat->Option (List wA)} (h:RC m M0 M) (h0:PW m M0) (k:Nat):RC m M0 (wV k M):=fun t n hn=>by
 rw [MY,h t n hn];cases hr:M0 t n with
 | none=>rfl
 | some r =>
  refine congrArg some ?_;have:r.map (wA.strip k)=r.map id:=yw fun x hx=>h0 t n r hn hr x hx k
  rwa [List.map_id] at this
theorem dL.strip {m:Nat} {M:Nat->Nat->Option (List wA)} (h:dL m M) (k:Nat):dL m (wV k M):=fun t n r he x hx=>by
 rw [MY] at he;obtain ⟨r0,hr,rfl⟩:=yn.1 he;obtain ⟨y,hy,rfl⟩:=yp.1 hx;exact h t n r0 hr y hy
theorem lB.strip {m:Nat} {e:Nat->wA} (h:lB m e) (k:Nat):lB m (NY k e):=fun t=>h t
theorem PY {l:List (List AV)} (h:UD l=true) (t n:Nat):(kA l).map (wA.kill t n)=kA l:=by
 have:(kA l).map (wA.kill t n)=(kA l).map id:=yw fun x hx=>by
  have:=WE (m:=0) h x hx t n (Nat.zero_le _);show (⟨x.v.kill t n,x.a⟩:wA)=x;rw [this]
 rwa [List.map_id] at this
def GJ (i:Int):ByteArray:=Utf8.encode (65 + i)
def sName (d:Int):ByteArray:=⟨#[115]⟩++Utf8.encode (97 + d)
def BH (a:Int):List nQ:=(fF a).map fun d=>⟨d,sName d⟩
def pA.of (k:Int) (nm:ByteArray):pA:=⟨k,nm,0,0,0,true,[],true,[],0,0,false⟩
def kB (l:List fC) (i:Int):pA :=
 let x:=DA l i
 let n:Int:=l.length
 match x.kind with
 | 1=>.of 1 ⟨#[]⟩
 | 2=>{ pA.of 2 ⟨#[]⟩ with low:=x.low,high:=x.high }
 | 3=>{ pA.of 3 ⟨#[]⟩ with max:=x.a % 4 }
 | 4=>{ pA.of 4 (GJ i) with opn:=decide (x.b % 2=1),sn:=false,syms:=BH x.a }
 | 5=>{ pA.of 5 (GJ i) with mn:=(lE l i true x.parts).isEmpty,mems:=lE l i true x.parts }
 | 6=>if (lE l i false x.parts).isEmpty=true then .of 5 (GJ i) else { pA.of 6 (GJ i) with opn:=decide (x.b % 2=1),mn:=false,mems:=lE l i false x.parts }
 | 7=>{ pA.of 7 ⟨#[]⟩ with max:=x.a % 4,elem:=x.c % n }
 | 8=>if NJ l x.b<0 then { pA.of 7 ⟨#[]⟩ with max:=x.a % 4,elem:=x.c % n } else { pA.of 8 ⟨#[]⟩ with max:=x.a % 4,key:=NJ l x.b,elem:=x.c % n }
 | _=>{ pA.of 9 ⟨#[]⟩ with elem:=x.c % n }
def nF (t:pA) (c:AV):List AV:=[.int .i64 t.kind,.str t.name,.int .i64 t.low,.int .i64 t.high,.int .i64 t.max,.sl t.sn (t.syms.map WD),c,.int .i64 t.key,.int .i64 t.elem,.bool t.opn]
theorem typL_C (t:pA):nF t (.sl t.mn (t.mems.map nA))=eA t:=rfl
def KI (ms:List zB) (c:AV) (s:aA):Prop :=
 (ms=[]/\c=.sl true [])\/∃ N,ms≠[]/\N<s.next/\c=.ref 88 N 13 0 ms.length ms.length/\s.mem 88 N=some (kA (ms.map nA))
theorem IW.mems {n0:Nat} {ms:List zB} {x:wA} {s:aA} (h:IW n0 ms x s):KI ms x.v s:=by
 rcases h with ⟨h1,h2,_⟩ | ⟨N,h1,_,h3,h4,h5⟩
 ·exact .inl ⟨h1,h2⟩
 ·exact .inr ⟨N,h1,h3,h4,h5⟩
theorem T2 (ms:List zB):UD (ms.map nA)=true:=DK nA ms fun m=>by simp [nA,AV.free0]
theorem KI.keep {ms:List zB} {c:AV} {s s':aA} (h:KI ms c s) (hm:∀ N,N<s.next->s'.mem 88 N=s.mem 88 N) (hn:s.next<=s'.next):KI ms c s':=by
 rcases h with h | ⟨N,h1,h2,h3,h4⟩
 ·exact .inl h
 ·exact .inr ⟨N,h1,Nat.lt_of_lt_of_le h2 hn,h3,(hm N h2).trans h4⟩
theorem KI.low {ms:List zB} {c:AV} {s:aA} (h:KI ms c s):x7 s.next c:=by
 rcases h with ⟨_,rfl⟩ | ⟨N,_,h2,rfl,_⟩
 ·exact lQ rfl
 ·exact Q7 h2
def LI (S:List pA) (L:List (List AV)) (s:aA):Prop:=S.length=L.length/\∀ (i:Nat) (t:pA) (c:List AV),S[i]?=some t->L[i]?=some c->∃ m,c=nF t m/\KI t.mems m s
theorem LI.snoc {S:List pA} {L:List (List AV)} {s:aA} (h:LI S L s) {t:pA} {m:AV} (hm:KI t.mems m s):LI (S++[t]) (L++[nF t m]) s:=by
 obtain ⟨h1,h2⟩:=h;refine ⟨by simp [h1],fun i t' c' ht hc=>?_⟩;rcases Nat.lt_or_ge i S.length with fa | uf
 ·rw [yG fa] at ht;rw [yG (by omega)] at hc;exact h2 i t' c' ht hc
 ·rw [yQ uf] at ht;rw [yQ (by omega)] at hc;have hi:i - S.length=0:=by
   rcases yN (i - S.length) with h0 | h0
   ·exact h0
   ·rw [yY (by simp; omega)] at ht; cases ht
  rw [hi] at ht;rw [<- h1,hi] at hc;injection ht with ht;injection hc with hc;exact ⟨m,by rw [<- ht,<- hc],by rw [<- ht]; exact hm⟩
theorem LI.keep {S:List pA} {L:List (List AV)} {s s':aA} (h:LI S L s) (hm:∀ N,N<s.next->s'.mem 88 N=s.mem 88 N) (hn:s.next<=s'.next):LI S L s' :=
 ⟨h.1,fun i t c ht hc=>by obtain ⟨m,h1,h2⟩:=h.2 i t c ht hc; exact ⟨m,h1,h2.keep hm hn⟩⟩
theorem LI.els {S:List pA} {L:List (List AV)} {s:aA} (h:LI S L s):iB 10 L=true:=by
 refine y6.2 fun c hc=>?_
 obtain ⟨i,hi,rfl⟩:=yq hc;have ia:=h.1;have hiS:i<S.length:=by omega
 obtain ⟨m,h1,_⟩:=h.2 i S[i] L[i] (y5 (by omega)) (y5 hi);rw [h1];rfl
section
set_option maxHeartbeats 4000000
def bQ (p n8:Nat) (M M':Nat->Nat->Option (List wA)):Prop:=∀ t n,¬ (t=p/\n=n8)->(∀ r,M t n=some r->∀ x∈r,dM x)->M' t n=M t n
theorem bQ.refl {p n8:Nat} {M:Nat->Nat->Option (List wA)}:bQ p n8 M M:=fun _ _ _ _=>rfl
theorem bQ.strip {p n8:Nat} {M M':Nat->Nat->Option (List wA)} (h:bQ p n8 M M') (k:Nat):bQ p n8 M (wV k M'):=fun t n h1 h2=>by
 rw [U3,h t n h1 h2];cases hr:M t n with
 | none=>rfl
 | some r =>
  refine congrArg some ?_;have:r.map (wA.strip k)=r.map id:=yw fun x hx=>h2 r hr x hx k
  rwa [List.map_id] at this
theorem bQ.set {p n8:Nat} {M M':Nat->Nat->Option (List wA)} (h:bQ p n8 M M') {r:List wA}:bQ p n8 M (XY M' p n8 r):=fun t n h1 h2=>by
 rw [uB,if_neg h1];exact h t n h1 h2
def aJ (nm:ByteArray) (op:Bool) (S:List nQ) (b:Bool) (a:An):List wA:=[⟨.int .i64 4,.no⟩,⟨.str nm,.no⟩,⟨.int .i64 0,.no⟩,⟨.int .i64 0,.no⟩,⟨.int .i64 0,.no⟩,⟨.sl b (S.map WD),a⟩,⟨.sl true [],.no⟩,⟨.int .i64 0,.no⟩,⟨.int .i64 0,.no⟩,⟨.bool op,.no⟩]
theorem idl_rng (a:Int):∀ i,∀ d∈bW a i,1<=d/\d<=i
 | 0,d,h=>by cases h
 | i + 1,d,h=>by
  rw [bW] at h;rcases yx.1 h with h | h
  ·have:=idl_rng a i d h; omega
  ·split at h
   ·simp at h; omega
   ·cases h
theorem idsZ_rng (a:Int):∀ d∈fF a,1<=d/\d<=6:=fun d h=>by
 unfold fF at h;split at h
 ·simp at h; omega
 ·have:=idl_rng a 6 d h; omega
theorem esyms_ev {r:RV} {a:Int} {n8:Nat} {nm:ByteArray} {op:Bool} (s0:aA) (k:Ex->aA->Option RV)
  (h9:(s0.env 9).v=.sl false ((fF a).map FK)) (dt:(s0.env 10).v=.int .i64 0) (h8:(s0.env 8).v=.ptr 8 n8 0) (fa:n8<s0.next) (hm:s0.mem 8 n8=some (aJ nm op [] true .no)) (hG:QM s0.gh) (hL:dL s0.next s0.mem) (hE:lB s0.next s0.env)
  (hk:∀ s',(∀ t,t<9->(s'.env t).v=(s0.env t).v)->bQ 8 n8 s0.mem s'.mem->s'.gh=s0.gh->s'.obj=s0.obj->s0.next<=s'.next->dL s'.next s'.mem->lB s'.next s'.env->(∃ an,s'.mem 8 n8=some (aJ nm op (BH a) false an))->k (.exit 3) s'=some r):WI jA tA EG s0 k=some r:=by
 have wd:=ES a;refine RA (fF a).length (fun i s=>(∀ t,t<10->(s.env t).v=(s0.env t).v)/\(s.env 10).v=.int .i64 i/\bQ 8 n8 s0.mem s.mem/\s.gh=s0.gh/\s.obj=s0.obj/\s0.next<=s.next/\dL s.next s.mem/\lB s.next s.env/\(i=0/\s.mem 8 n8=some (aJ nm op [] true .no)\/¬ i=0/\s.mem 8 n8=some (aJ nm op ((BH a).take i) false (.own 91 152))))
  (fun e s=>e=.exit 3/\(∀ t,t<9->(s.env t).v=(s0.env t).v)/\bQ 8 n8 s0.mem s.mem/\s.gh=s0.gh/\s.obj=s0.obj/\s0.next<=s.next/\dL s.next s.mem/\lB s.next s.env/\∃ an,s.mem 8 n8=some (aJ nm op (BH a) false an)) (fun i hi s k h ih hk=>?_) s0 k ⟨fun _ _=>rfl,by simpa using dt,bQ.refl,rfl,rfl,yj _,hL,hE,.inl ⟨rfl,hm⟩⟩ (fun e s h=>by obtain ⟨rfl,h1,h2,h3,h4,h5,h6,h7,h8⟩:=h; exact hk s h1 h2 h3 h4 h5 h6 h7 h8)
 obtain ⟨he,e10,lc,hg,ho,hn,hL,hE,na⟩:=h;have e9:=(he 9 (by omega)).trans h9;have e8:=(he 8 (by omega)).trans h8;refine iA ?_;by_cases ga:i<(fF a).length
 ·have jx:(i:Int)<(fF a).length:=by omega
  have ji:=WB (i:=i);have g1:((fF a).map FK)[i]?=some (FK (fF a)[i]):=by simp [ga]
  have hd:=idsZ_rng a _ (y8 ga);have nv:(BH a).take (i + 1)=(BH a).take i++[⟨(fF a)[i],sName (fF a)[i]⟩]:=by
   have hl:i<(BH a).length:=by simpa [BH] using ga
   rw [<- yJ hl];simp [BH]
  have mf:((BH a).take i).length=i:=by simp [BH]; omega
  generalize (fF a)[i]=d at *
  have hlm:((fF a).map FK).length=(fF a).length:=by simp
  generalize (fF a).map FK=D at *
  generalize hS:(BH a).take i=S at *
  obtain ⟨z,hz⟩:∃ z:Int,z=i:=⟨_,rfl⟩;have ic:0<=z:=by omega
  have zn:IntKind.i64.wrap (z + 1)=((i + 1:Nat):Int):=by rw [hz]; exact ji
  rw [<- hz] at e10 jx;rw [show i=z.toNat from by omega] at g1;simp only [FK] at g1;have hw97:IntKind.i64.wrap (97 + d)=97 + d:=IntWalk.i64_in _ (by omega);have wn:IntKind.i32.wrap (97 + d)=97 + d:=gX _ (by omega);have hes:=BW (97 + d);have tb:(⟨#[115]⟩:ByteArray).size=1:=rfl;have ab:(⟨#[115]⟩:ByteArray).size + (Utf8.encode (97 + d)).size<=9223372036854775807:=by omega
  unfold sName at nv;generalize hEn:Utf8.encode (97 + d)=en at *
  have oa:ZA 24 (i + 1)=true:=by rw [xA]; omega
  have pf:=els_sym S;rcases na with ⟨jg,hr⟩ | ⟨jg,hr⟩
  ·have hS0:S=[]:=by rw [<- hS,jg]; rfl
   subst hS0;subst jg;simp only [aJ,ym] at hr;simp [EG,-J,-y4,-y3,y0,e8,e9,e10,hlm,jx,ic,g1,hw97,wn,hEn,ab,hr,oa,zn];refine ih ga _ ⟨fun t ht=>?_,?_,?_,?_,ho,?_,?_,?_,.inr ⟨by omega,?_⟩⟩
   ·have:=he t ht;have q:∀ c,10<=c->¬ t=c:=fun c hc=>by omega
    simp [q,this]
   ·simp
   ·repeat (first | exact lc | refine bQ.set ?_ | refine bQ.strip ?_ _)
   ·simp only [hg,hG.same]
   ·dsimp only; omega
   ·exact ((hL.mono (by dsimp only; omega)).strip 91).set dA
   ·dsimp only
    repeat (first | exact hE.mono (by omega) | refine lB.put ?_ (fun _ _ _=>rfl) | refine lB.put ?_ (wD (by omega)) | refine lB.strip ?_ _)
   ·simp [aJ,nv,WD]
  ·simp only [aJ] at hr;simp [EG,-J,-y4,-y3,y0,e8,e9,e10,hlm,jx,ic,g1,hw97,wn,hEn,ab,hr,mf,pf,oa,zn];refine ih ga _ ⟨fun t ht=>?_,?_,?_,?_,ho,?_,?_,?_,.inr ⟨by omega,?_⟩⟩
   ·have:=he t ht;have q:∀ c,10<=c->¬ t=c:=fun c hc=>by omega
    simp [q,this]
   ·simp
   ·repeat (first | exact lc | refine bQ.set ?_ | refine bQ.strip ?_ _)
   ·simp only [hg,hG.same]
   ·dsimp only; omega
   ·exact (((hL.mono (by dsimp only; omega)).strip 91).strip 91).set dA
   ·dsimp only
    repeat (first | exact hE.mono (by omega) | refine lB.put ?_ (fun _ _ _=>rfl) | refine lB.put ?_ (wD (by omega)) | refine lB.strip ?_ _)
   ·simp [aJ,nv,WD]
 ·have gj:i=(fF a).length:=by omega
  have jx:¬ (i:Int)<(fF a).length:=by omega
  simp [EG,-J,-y4,-y3,y0,e9,e10,ga];have jg:¬ i=0:=by omega
  rcases na with ⟨h0,_⟩ | ⟨_,hr⟩
  ·exact absurd h0 jg
  ·rw [yB (by simp [BH]; omega)] at hr;refine hk _ _ ⟨rfl,fun t ht=>?_,lc,hg,ho,by dsimp only; omega,hL.mono (by dsimp only; omega),?_,_,hr⟩
   ·have:=he t (by omega);simp [show ¬ t=69 from by omega,show ¬ t=70 from by omega,show ¬ t=71 from by omega,show ¬ t=72 from by omega,this]
   ·dsimp only
    repeat (first | exact hE.mono (by omega) | refine lB.put ?_ (fun _ _ _=>rfl))
end
section
set_option maxHeartbeats 4000000
def JD:C:=.reg [oF 164 0 5,oL 165 164,oA 166 10 8,oS 167 (.bslr 10 zze 1 [(0,(.t 166))]),oS 168 (.appn .any 87 10 120 (.t 165) (.t 167)),oF 169 0 5,oW 169 168]
def uC:C:=oR [oF 26 0 1,oL 27 26,oM 28 6,oI 29 5 27 28,oA 30 5 29,oY 7 zzd,oV 5 7 30] (oR [oA 31 1 1,oM 32 6,oC2 33 81 31 32,oS 34 (.build zze [(0,(1,(.t 33)))]),oY 8 zze,oV 10 8 34] (.seq (oR [oF 35 0 8,oL 36 35,oC1 37 82 36] (oD 37 (.reg [oM 38 6,oS 39 (.bin .add false (.c (.int .i64 65)) (.t 38)),oS 40 (.conv (.some .i32) (.t 39)),oS 41 (.rstr (.t 40)),oF 42 1 8,oW 42 41]) .skip)) (.seq (oR [oF 43 0 8,oL 44 43] (.block 2 (oR [oC 46 .eql 44 2,oM 45 46] (oD 45 (.reg [oS 47 (.load (.root 7) true 5 (.t 7)),oC1 48 83 47,oS 49 (.load (.root 7) true 5 (.t 7)),oC1 50 84 49,oF 51 2 8,oN (.store (.root 8) false 1 (.t 51) (.t 48)),oF 52 3 8,oN (.store (.root 8) false 1 (.t 52) (.t 50))]) (oR [oC 54 .eql 44 3,oM 53 54] (oD 53 (.reg [oF 55 1 7,oL 56 55,oS 57 (.bin .rem false (.t 56) (.c (.int .u8 4))),oS 58 (.conv (.some .i64) (.t 57)),oF 59 4 8,oW 59 58]) (oR [oC 61 .eql 44 4,oM 60 61] (oD 60 (oR [oF 62 2 7,oL 63 62,oS 64 (.bin .rem false (.t 63) (.c (.int .u8 2))),oS 65 (.bin .eql false (.t 64) (.c (.int .u8 1))),oF 66 9 8,oW 66 65] (oR [oA 67 5 7,oC1 68 85 67,oM 9 68] (oR [oJ 10 0] (.block 3 (.loop EG))))) (oR [oC 94 .eql 44 5,oM 93 94] (oD 93 (.reg [oA 95 1 1,oM 96 6,oS 97 (.callh 171 (.c (.fn 86 [])) [(.t 95),(.t 96),(.c (.bool true))]),oF 98 6 8,oW 98 97]) (oR [oC 100 .eql 44 6,oM 99 100] (oD 99 (oR [oF 101 2 7,oL 102 101,oS 103 (.bin .rem false (.t 102) (.c (.int .u8 2))),oS 104 (.bin .eql false (.t 103) (.c (.int .u8 1))),oF 105 9 8,oW 105 104] (oR [oA 106 1 1,oM 107 6,oS 108 (.callh 171 (.c (.fn 86 [])) [(.t 106),(.t 107),(.c (.bool false))]),oF 109 6 8,oW 109 108] (oR [oF 110 6 8,oL 111 110,oH 112 111,oC 113 .eql 112 0] (oD 113 (.reg [oF 114 1 8,oL 115 114,oS 116 (.build zze [(0,(1,(.c (.int .i64 5)))),(1,(1,(.t 115)))]),oV 10 8 116]) .skip)))) (oR [oC 118 .eql 44 7,oM 117 118] (oD 117 (.reg [oF 119 1 7,oLr 120 7 1 119,oS 121 (.bin .rem false (.t 120) (.c (.int .u8 4))),oS 122 (.conv (.some .i64) (.t 121)),oF 123 3 7,oLr 124 7 1 123,oS 125 (.conv (.some .i64) (.t 124)),oM 126 4,oB 127 .rem 125 126,oF 128 4 8,oN (.store (.root 8) false 1 (.t 128) (.t 122)),oF 129 8 8,oN (.store (.root 8) false 1 (.t 129) (.t 127))]) (oR [oC 131 .eql 44 8,oM 130 131] (oD 130 (oR [oF 132 1 7,oLr 133 7 1 132,oS 134 (.bin .rem false (.t 133) (.c (.int .u8 4))),oS 135 (.conv (.some .i64) (.t 134)),oS 136 (.load (.root 1) true 1 (.t 1)),oF 137 2 7,oLr 138 7 1 137,oC2 139 87 136 138,oF 140 3 7,oLr 141 7 1 140,oS 142 (.conv (.some .i64) (.t 141)),oM 143 4,oB 144 .rem 142 143,oF 145 4 8,oN (.store (.root 8) false 1 (.t 145) (.t 135)),oF 146 7 8,oN (.store (.root 8) false 1 (.t 146) (.t 139)),oF 147 8 8,oN (.store (.root 8) false 1 (.t 147) (.t 144))] (oR [oF 148 7 8,oL 149 148,oC 150 .lss 149 0] (oD 150 (.reg [oF 151 4 8,oL 152 151,oF 153 8 8,oL 154 153,oS 155 (.build zze [(0,(1,(.c (.int .i64 7)))),(4,(1,(.t 152))),(8,(1,(.t 154)))]),oV 10 8 155]) .skip))) (oR [oC 157 .eql 44 9,oM 156 157] (oD 156 (.reg [oF 158 3 7,oL 159 158,oS 160 (.conv (.some .i64) (.t 159)),oM 161 4,oB 162 .rem 160 161,oF 163 8 8,oW 163 162]) .skip)))))))))))))))))) JD)))
theorem of_L2:ZQ=.seq (.seq (.reg [⟨(.some 21),(.mv (.t 6)),.none⟩,⟨(.some 22),(.mv (.t 4)),.none⟩,⟨(.some 23),(.bin .lss .false (.t 21) (.t 22)),.none⟩]) (.cond (.t 23) .skip (.exit 0))) (.seq (.block 1 uC) (.reg [⟨(.some 24),(.mv (.t 6)),.none⟩,⟨(.some 25),(.bin .add .false (.t 24) (.c (.int .i64 1))),.none⟩,⟨(.some 6),(.mv (.t 25)),.none⟩])):=rfl
def M5I (n0:Nat) (l:List fC) (i:Nat) (s:aA):Prop :=
 (i=0/\∃ a,s.mem 5 (n0 + 3)=some [⟨.sl true [],a⟩]/\dM ⟨.sl true [],a⟩)\/∃ N L,¬ i=0/\s.mem 5 (n0 + 3)=some [⟨.ref 168 N 10 0 i i,.no⟩]/\n0<=N/\N<s.next/\s.mem 168 N=some (kA L)/\L.length=i/\LI ((List.range i).map fun (j:Nat)=>kB l (j:Int)) L s
theorem M5I.keep {n0:Nat} {l:List fC} {i:Nat} {s s':aA} (h:M5I n0 l i s) (h5:s'.mem 5 (n0 + 3)=s.mem 5 (n0 + 3)) (ol:∀ N,N<s.next->s'.mem 168 N=s.mem 168 N) (h88:∀ N,N<s.next->s'.mem 88 N=s.mem 88 N) (hn:s.next<=s'.next):M5I n0 l i s':=by
 rcases h with ⟨h1,a,h2,h3⟩ | ⟨N,L,h1,h2,h0,h3,h4,h6,h7⟩
 ·exact .inl ⟨h1,a,h5.trans h2,h3⟩
 ·exact .inr ⟨N,L,h1,h5.trans h2,h0,Nat.lt_of_lt_of_le h3 hn,(ol N h3).trans h4,h6,h7.keep h88 hn⟩
structure A5 (n0:Nat) (s0:aA) (dn:Bool) (l:List fC) (i:Nat) (s:aA):Prop where
 e1:(s.env 1).v=.ptr 1 n0 0
 m1:s.mem 1 n0=some [⟨.sl dn (l.map sD),.no⟩]
 e2:(s.env 2).v=.ptr 2 n0 0
 m2:∃ a,s.mem 2 n0=some [⟨.sl true [],a⟩]/\dM ⟨.sl true [],a⟩
 e4:(s.env 4).v=.int .i64 l.length
 e5:(s.env 5).v=.ptr 5 (n0 + 3) 0
 e6:(s.env 6).v=.int .i64 i
 m5:M5I n0 l i s
 calm:Calm n0 s0 s
 lowE:lB s.next s.env
 lt:n0 + 3<s.next
structure UM (n0:Nat) (s0:aA) (dn:Bool) (l:List fC) (i:Nat) (n8:Nat) (s:aA):Prop where
 ofI:A5 n0 s0 dn l i s
 e8:(s.env 8).v=.ptr 8 n8 0
 lt8:n8<s.next
 row:∃ m r,s.mem 8 n8=some r/\r.map (·.v)=nF (kB l (i:Int)) m/\KI (kB l (i:Int)).mems m s
theorem kind1_ev {r:RV} {n0:Nat} {s0:aA} {dn:Bool} {l:List fC} (hl:oks l) {i:Nat} (hi:i<l.length) {s:aA} {k:Ex->aA->Option RV} (h:A5 n0 s0 dn l i s) (od:(DA l (i:Int)).kind=1) (hk:∀ n8 s',UM n0 s0 dn l i n8 s'->JD.run (dF jA tA) (RJ jA tA) s' k=some r):uC.run (dF jA tA) (RJ jA tA) s k=some r:=by
 obtain ⟨e1,m1,e2,m2,e4,e5,e6,m5,⟨cm,cg,co,cn,cl⟩,lowE,lt⟩:=h;have zb:=xH (dn:=dn) hl (z:=(i:Int)) (by omega) (by omega);have g:l[i]?=some l[i]:=y5 hi;have gm:(l.map sD)[i]?=some (sD (DA l (i:Int))):=by simp [DA,g]
 have jb:dC l (i:Int)=1:=by rw [<- od]; simp [dC,DA,g]
 have ub:kB l (i:Int)=pA.of 1 ⟨#[]⟩:=by simp only [kB,od]
 rw [jb] at zb;generalize DA l (i:Int)=x at *
 have ab:=kD 1;simp only [gA,uG,sD] at zb gm;obtain ⟨z,hz⟩:∃ z:Int,z=i:=⟨_,rfl⟩;have ic:0<=z:=by omega
 rw [<- hz] at e6 zb;rw [show i=z.toNat from by omega] at gm;simp [uC,-J,-y4,-y3,y0,e1,m1,e4,e6,ic,gm,zb,ab];refine hk (s.next + 1) _ ⟨⟨?_,?_,?_,?_,?_,?_,?_,?_,⟨?_,?_,?_,?_,?_⟩,?_,?_⟩,?_,?_,?_⟩
 ·simp [e1]
 ·simp [m1]
 ·simp [e2]
 ·simpa using m2
 ·simp [e4]
 ·simp [e5]
 ·simp [e6,hz]
 ·exact m5.keep (by simp) (fun N _=>by simp) (fun N _=>by simp) (by dsimp only; omega)
 ·repeat (first | exact cm | refine RC.set ?_ (by omega))
 ·exact cg
 ·exact co
 ·dsimp only; omega
 ·exact ((((cl.mono (by dsimp only; omega)).set dA).set dA).set dA).set dA
 ·dsimp only
  repeat (first | exact lowE.mono (by omega) | refine lB.put ?_ (fun _ _ _=>rfl) | refine lB.put ?_ (wD (by omega)))
 ·dsimp only; omega
 ·simp
 ·dsimp only; omega
 ·refine ⟨.sl true [],_,by simp; rfl,?_,.inl ⟨?_,rfl⟩⟩
  ·rw [ub]; simp [nF,pA.of]
  ·rw [ub]; rfl
end
section
set_option maxHeartbeats 4000000
theorem E5 (x:fC) (hx:x.ok):u8 x.k/\u8 x.a/\u8 x.b/\u8 x.c/\True:=⟨hx.1,hx.2.1,hx.2.2.1,hx.2.2.2.1,trivial⟩
theorem jF {l:List fC} (hl:oks l) {i:Nat} (hi:i<l.length):(DA l (i:Int)).ok:=by
 have g:l[i]?=some l[i]:=y5 hi;simp only [DA,Int.toNat_natCast,g];exact hl.2.2 _ (y8 hi)
section
variable {r:RV} {n0:Nat} {s0:aA} {dn:Bool} {l:List fC} (hl:oks l) {i:Nat} (hi:i<l.length) {s:aA} {k:Ex->aA->Option RV} (h:A5 n0 s0 dn l i s)
include r n0 s0 dn l hl i hi s k h
theorem kind2_ev (od:(DA l (i:Int)).kind=2) (hk:∀ n8 s',UM n0 s0 dn l i n8 s'->JD.run (dF jA tA) (RJ jA tA) s' k=some r):uC.run (dF jA tA) (RJ jA tA) s k=some r:=by
 obtain ⟨e1,m1,e2,m2,e4,e5,e6,m5,⟨cm,cg,co,cn,cl⟩,lowE,lt⟩:=h;have zb:=xH (dn:=dn) hl (z:=(i:Int)) (by omega) (by omega);have g:l[i]?=some l[i]:=y5 hi;have gm:(l.map sD)[i]?=some (sD (DA l (i:Int))):=by simp [DA,g]
 have jb:dC l (i:Int)=2:=by rw [<- od]; simp [dC,DA,g]
 have ub:kB l (i:Int)={ pA.of 2 ⟨#[]⟩ with low:=(DA l (i:Int)).low,high:=(DA l (i:Int)).high }:=by simp only [kB,od]
 have hx:=jF hl hi;rw [jb] at zb;generalize DA l (i:Int)=x at *
 have ab:=kD 2;obtain ⟨xk,xa,xb,xc,_⟩:=E5 x hx;have ug:=low_ev x hx;have om:=high_ev x hx;simp only [gA,sD] at ug om;simp only [gA,uG,sD] at zb gm;obtain ⟨z,hz⟩:∃ z:Int,z=i:=⟨_,rfl⟩;have ic:0<=z:=by omega
 rw [<- hz] at e6 zb;rw [show i=z.toNat from by omega] at gm;simp [uC,-J,-y4,-y3,y0,e1,m1,e4,e6,ic,gm,zb,ab,ug,om];refine hk (s.next + 1) _ ⟨⟨?_,?_,?_,?_,?_,?_,?_,?_,⟨?_,?_,?_,?_,?_⟩,?_,?_⟩,?_,?_,?_⟩
 ·simp [e1]
 ·simp [m1]
 ·simp [e2]
 ·simpa using m2
 ·simp [e4]
 ·simp [e5]
 ·simp [e6,hz]
 ·exact m5.keep (by simp) (fun N _=>by simp) (fun N _=>by simp) (by dsimp only; omega)
 ·repeat (first | exact cm | refine RC.set ?_ (by omega))
 ·exact cg
 ·exact co
 ·dsimp only; omega
 ·exact ((((((cl.mono (by dsimp only; omega)).set dA).set dA).set dA).set dA).set dA).set dA
 ·dsimp only
  repeat (first | exact lowE.mono (by omega) | refine lB.put ?_ (fun _ _ _=>rfl) | refine lB.put ?_ (wD (by omega)))
 ·dsimp only; omega
 ·simp
 ·dsimp only; omega
 ·refine ⟨.sl true [],_,by simp; rfl,?_,.inl ⟨?_,rfl⟩⟩
  ·rw [ub]; simp [nF,pA.of]
  ·rw [ub]; rfl
theorem kind3_ev (od:(DA l (i:Int)).kind=3) (hk:∀ n8 s',UM n0 s0 dn l i n8 s'->JD.run (dF jA tA) (RJ jA tA) s' k=some r):uC.run (dF jA tA) (RJ jA tA) s k=some r:=by
 obtain ⟨e1,m1,e2,m2,e4,e5,e6,m5,⟨cm,cg,co,cn,cl⟩,lowE,lt⟩:=h;have zb:=xH (dn:=dn) hl (z:=(i:Int)) (by omega) (by omega);have g:l[i]?=some l[i]:=y5 hi;have gm:(l.map sD)[i]?=some (sD (DA l (i:Int))):=by simp [DA,g]
 have jb:dC l (i:Int)=3:=by rw [<- od]; simp [dC,DA,g]
 have ub:kB l (i:Int)={ pA.of 3 ⟨#[]⟩ with max:=(DA l (i:Int)).a % 4 }:=by simp only [kB,od]
 have hx:=jF hl hi;rw [jb] at zb;generalize DA l (i:Int)=x at *
 have ab:=kD 3;obtain ⟨xk,xa,xb,xc,_⟩:=E5 x hx;have sw:x.a.tmod 4=x.a % 4:=yt xa.1;have kw:IntKind.i64.wrap (x.a % 4)=x.a % 4:=IntWalk.i64_in _ (by omega);simp only [gA,uG,sD] at zb gm;obtain ⟨z,hz⟩:∃ z:Int,z=i:=⟨_,rfl⟩;have ic:0<=z:=by omega
 rw [<- hz] at e6 zb;rw [show i=z.toNat from by omega] at gm;simp [uC,-J,-y4,-y3,y0,e1,m1,e4,e6,ic,gm,zb,ab,sw,kw];refine hk (s.next + 1) _ ⟨⟨?_,?_,?_,?_,?_,?_,?_,?_,⟨?_,?_,?_,?_,?_⟩,?_,?_⟩,?_,?_,?_⟩
 ·simp [e1]
 ·simp [m1]
 ·simp [e2]
 ·simpa using m2
 ·simp [e4]
 ·simp [e5]
 ·simp [e6,hz]
 ·exact m5.keep (by simp) (fun N _=>by simp) (fun N _=>by simp) (by dsimp only; omega)
 ·repeat (first | exact cm | refine RC.set ?_ (by omega))
 ·exact cg
 ·exact co
 ·dsimp only; omega
 ·exact (((((cl.mono (by dsimp only; omega)).set dA).set dA).set dA).set dA).set dA
 ·dsimp only
  repeat (first | exact lowE.mono (by omega) | refine lB.put ?_ (fun _ _ _=>rfl) | refine lB.put ?_ (wD (by omega)))
 ·dsimp only; omega
 ·simp
 ·dsimp only; omega
 ·refine ⟨.sl true [],_,by simp; rfl,?_,.inl ⟨?_,rfl⟩⟩
  ·rw [ub]; simp [nF,pA.of]
  ·rw [ub]; rfl
theorem kind7_ev (od:(DA l (i:Int)).kind=7) (hk:∀ n8 s',UM n0 s0 dn l i n8 s'->JD.run (dF jA tA) (RJ jA tA) s' k=some r):uC.run (dF jA tA) (RJ jA tA) s k=some r:=by
 obtain ⟨e1,m1,e2,m2,e4,e5,e6,m5,⟨cm,cg,co,cn,cl⟩,lowE,lt⟩:=h;have zb:=xH (dn:=dn) hl (z:=(i:Int)) (by omega) (by omega);have g:l[i]?=some l[i]:=y5 hi;have gm:(l.map sD)[i]?=some (sD (DA l (i:Int))):=by simp [DA,g]
 have jb:dC l (i:Int)=7:=by rw [<- od]; simp [dC,DA,g]
 have ub:kB l (i:Int)={ pA.of 7 ⟨#[]⟩ with max:=(DA l (i:Int)).a % 4,elem:=(DA l (i:Int)).c % l.length }:=by simp only [kB,od]
 have hx:=jF hl hi;rw [jb] at zb;generalize DA l (i:Int)=x at *
 have ab:=kD 7;obtain ⟨xk,xa,xb,xc,_⟩:=E5 x hx;have sw:x.a.tmod 4=x.a % 4:=yt xa.1;have kw:IntKind.i64.wrap (x.a % 4)=x.a % 4:=IntWalk.i64_in _ (by omega);have ll:IntKind.i64.wrap x.c=x.c:=IntWalk.i64_in _ (by simp only [u8] at xc; omega);have hmc:x.c.tmod l.length=x.c % l.length:=yt xc.1;have mr:¬ (l.length:Int)=0:=by omega
 have fh:¬ l=[]:=by intro e; rw [e] at hi; simp at hi
 simp only [gA,uG,sD] at zb gm;obtain ⟨z,hz⟩:∃ z:Int,z=i:=⟨_,rfl⟩;have ic:0<=z:=by omega
 rw [<- hz] at e6 zb;rw [show i=z.toNat from by omega] at gm;simp [uC,-J,-y4,-y3,y0,e1,m1,e4,e6,ic,gm,zb,ab,sw,kw,ll,hmc,mr,fh];refine hk (s.next + 1) _ ⟨⟨?_,?_,?_,?_,?_,?_,?_,?_,⟨?_,?_,?_,?_,?_⟩,?_,?_⟩,?_,?_,?_⟩
 ·simp [e1]
 ·simp [m1]
 ·simp [e2]
 ·simpa using m2
 ·simp [e4]
 ·simp [e5]
 ·simp [e6,hz]
 ·exact m5.keep (by simp) (fun N _=>by simp) (fun N _=>by simp) (by dsimp only; omega)
 ·repeat (first | exact cm | refine RC.set ?_ (by omega))
 ·exact cg
 ·exact co
 ·dsimp only; omega
 ·exact ((((((cl.mono (by dsimp only; omega)).set dA).set dA).set dA).set dA).set dA).set dA
 ·dsimp only
  repeat (first | exact lowE.mono (by omega) | refine lB.put ?_ (fun _ _ _=>rfl) | refine lB.put ?_ (wD (by omega)))
 ·dsimp only; omega
 ·simp
 ·dsimp only; omega
 ·refine ⟨.sl true [],_,by simp; rfl,?_,.inl ⟨?_,rfl⟩⟩
  ·rw [ub]; simp [nF,pA.of]
  ·rw [ub]; rfl
theorem kind9_ev (od:(DA l (i:Int)).kind=9) (hk:∀ n8 s',UM n0 s0 dn l i n8 s'->JD.run (dF jA tA) (RJ jA tA) s' k=some r):uC.run (dF jA tA) (RJ jA tA) s k=some r:=by
 obtain ⟨e1,m1,e2,m2,e4,e5,e6,m5,⟨cm,cg,co,cn,cl⟩,lowE,lt⟩:=h;have zb:=xH (dn:=dn) hl (z:=(i:Int)) (by omega) (by omega);have g:l[i]?=some l[i]:=y5 hi;have gm:(l.map sD)[i]?=some (sD (DA l (i:Int))):=by simp [DA,g]
 have jb:dC l (i:Int)=9:=by rw [<- od]; simp [dC,DA,g]
 have ub:kB l (i:Int)={ pA.of 9 ⟨#[]⟩ with elem:=(DA l (i:Int)).c % l.length }:=by simp only [kB,od]
 have hx:=jF hl hi;rw [jb] at zb;generalize DA l (i:Int)=x at *
 have ab:=kD 9;obtain ⟨xk,xa,xb,xc,_⟩:=E5 x hx;have ll:IntKind.i64.wrap x.c=x.c:=IntWalk.i64_in _ (by simp only [u8] at xc; omega);have hmc:x.c.tmod l.length=x.c % l.length:=yt xc.1;have mr:¬ (l.length:Int)=0:=by omega
 have fh:¬ l=[]:=by intro e; rw [e] at hi; simp at hi
 simp only [gA,uG,sD] at zb gm;obtain ⟨z,hz⟩:∃ z:Int,z=i:=⟨_,rfl⟩;have ic:0<=z:=by omega
 rw [<- hz] at e6 zb;rw [show i=z.toNat from by omega] at gm;simp [uC,-J,-y4,-y3,y0,e1,m1,e4,e6,ic,gm,zb,ab,ll,hmc,mr,fh];refine hk (s.next + 1) _ ⟨⟨?_,?_,?_,?_,?_,?_,?_,?_,⟨?_,?_,?_,?_,?_⟩,?_,?_⟩,?_,?_,?_⟩
 ·simp [e1]
 ·simp [m1]
 ·simp [e2]
 ·simpa using m2
 ·simp [e4]
 ·simp [e5]
 ·simp [e6,hz]
 ·exact m5.keep (by simp) (fun N _=>by simp) (fun N _=>by simp) (by dsimp only; omega)
 ·repeat (first | exact cm | refine RC.set ?_ (by omega))
 ·exact cg
 ·exact co
 ·dsimp only; omega
 ·exact (((((cl.mono (by dsimp only; omega)).set dA).set dA).set dA).set dA).set dA
 ·dsimp only
  repeat (first | exact lowE.mono (by omega) | refine lB.put ?_ (fun _ _ _=>rfl) | refine lB.put ?_ (wD (by omega)))
 ·dsimp only; omega
 ·simp
 ·dsimp only; omega
 ·refine ⟨.sl true [],_,by simp; rfl,?_,.inl ⟨?_,rfl⟩⟩
  ·rw [ub]; simp [nF,pA.of]
  ·rw [ub]; rfl
theorem kind8n_ev (od:(DA l (i:Int)).kind=8) (hc:NJ l (DA l (i:Int)).b<0) (hk:∀ n8 s',UM n0 s0 dn l i n8 s'->JD.run (dF jA tA) (RJ jA tA) s' k=some r):uC.run (dF jA tA) (RJ jA tA) s k=some r:=by
 obtain ⟨e1,m1,e2,m2,e4,e5,e6,m5,⟨cm,cg,co,cn,cl⟩,lowE,lt⟩:=h;have zb:=xH (dn:=dn) hl (z:=(i:Int)) (by omega) (by omega);have g:l[i]?=some l[i]:=y5 hi;have gm:(l.map sD)[i]?=some (sD (DA l (i:Int))):=by simp [DA,g]
 have jb:dC l (i:Int)=8:=by rw [<- od]; simp [dC,DA,g]
 have ub:kB l (i:Int)={ pA.of 7 ⟨#[]⟩ with max:=(DA l (i:Int)).a % 4,elem:=(DA l (i:Int)).c % l.length }:=by simp only [kB,od]; rw [if_pos hc]
 have hx:=jF hl hi;rw [jb] at zb;generalize DA l (i:Int)=x at *
 have ab:=kD 8;obtain ⟨xk,xa,xb,xc,_⟩:=E5 x hx;have sw:x.a.tmod 4=x.a % 4:=yt xa.1;have kw:IntKind.i64.wrap (x.a % 4)=x.a % 4:=IntWalk.i64_in _ (by omega);have ll:IntKind.i64.wrap x.c=x.c:=IntWalk.i64_in _ (by simp only [u8] at xc; omega);have hmc:x.c.tmod l.length=x.c % l.length:=yt xc.1;have mr:¬ (l.length:Int)=0:=by omega
 have fh:¬ l=[]:=by intro e; rw [e] at hi; simp at hi
 have sc:=key_ev dn l hl x.b xb;simp only [gA,uG] at sc;simp only [gA,uG,sD] at zb gm;obtain ⟨z,hz⟩:∃ z:Int,z=i:=⟨_,rfl⟩;have ic:0<=z:=by omega
 rw [<- hz] at e6 zb;rw [show i=z.toNat from by omega] at gm;simp [uC,-J,-y4,-y3,y0,e1,m1,e4,e6,ic,gm,zb,ab,sw,kw,ll,hmc,mr,fh,sc,hc];refine hk (s.next + 1) _ ⟨⟨?_,?_,?_,?_,?_,?_,?_,?_,⟨?_,?_,?_,?_,?_⟩,?_,?_⟩,?_,?_,?_⟩
 ·simp [e1]
 ·simp [m1]
 ·simp [e2]
 ·simpa using m2
 ·simp [e4]
 ·simp [e5]
 ·simp [e6,hz]
 ·exact m5.keep (by simp) (fun N _=>by simp) (fun N _=>by simp) (by dsimp only; omega)
 ·repeat (first | exact cm | refine RC.set ?_ (by omega))
 ·exact cg
 ·exact co
 ·dsimp only; omega
 ·exact ((((((((cl.mono (by dsimp only; omega)).set dA).set dA).set dA).set dA).set dA).set dA).set dA).set dA
 ·dsimp only
  repeat (first | exact lowE.mono (by omega) | refine lB.put ?_ (fun _ _ _=>rfl) | refine lB.put ?_ (wD (by omega)))
 ·dsimp only; omega
 ·simp
 ·dsimp only; omega
 ·refine ⟨.sl true [],_,by simp; rfl,?_,.inl ⟨?_,rfl⟩⟩
  ·rw [ub]; simp [nF,pA.of]
  ·rw [ub]; rfl
theorem kind8p_ev (od:(DA l (i:Int)).kind=8) (hc:¬ NJ l (DA l (i:Int)).b<0) (hk:∀ n8 s',UM n0 s0 dn l i n8 s'->JD.run (dF jA tA) (RJ jA tA) s' k=some r):uC.run (dF jA tA) (RJ jA tA) s k=some r:=by
 obtain ⟨e1,m1,e2,m2,e4,e5,e6,m5,⟨cm,cg,co,cn,cl⟩,lowE,lt⟩:=h;have zb:=xH (dn:=dn) hl (z:=(i:Int)) (by omega) (by omega);have g:l[i]?=some l[i]:=y5 hi;have gm:(l.map sD)[i]?=some (sD (DA l (i:Int))):=by simp [DA,g]
 have jb:dC l (i:Int)=8:=by rw [<- od]; simp [dC,DA,g]
 have ub:kB l (i:Int)={ pA.of 8 ⟨#[]⟩ with max:=(DA l (i:Int)).a % 4,key:=NJ l (DA l (i:Int)).b,elem:=(DA l (i:Int)).c % l.length }:=by simp only [kB,od]; rw [if_neg hc]
 have hx:=jF hl hi;rw [jb] at zb;generalize DA l (i:Int)=x at *
 have ab:=kD 8;obtain ⟨xk,xa,xb,xc,_⟩:=E5 x hx;have sw:x.a.tmod 4=x.a % 4:=yt xa.1;have kw:IntKind.i64.wrap (x.a % 4)=x.a % 4:=IntWalk.i64_in _ (by omega);have ll:IntKind.i64.wrap x.c=x.c:=IntWalk.i64_in _ (by simp only [u8] at xc; omega);have hmc:x.c.tmod l.length=x.c % l.length:=yt xc.1;have mr:¬ (l.length:Int)=0:=by omega
 have fh:¬ l=[]:=by intro e; rw [e] at hi; simp at hi
 have sc:=key_ev dn l hl x.b xb;simp only [gA,uG] at sc;simp only [gA,uG,sD] at zb gm;obtain ⟨z,hz⟩:∃ z:Int,z=i:=⟨_,rfl⟩;have ic:0<=z:=by omega
 rw [<- hz] at e6 zb;rw [show i=z.toNat from by omega] at gm;simp [uC,-J,-y4,-y3,y0,e1,m1,e4,e6,ic,gm,zb,ab,sw,kw,ll,hmc,mr,fh,sc,hc];refine hk (s.next + 1) _ ⟨⟨?_,?_,?_,?_,?_,?_,?_,?_,⟨?_,?_,?_,?_,?_⟩,?_,?_⟩,?_,?_,?_⟩
 ·simp [e1]
 ·simp [m1]
 ·simp [e2]
 ·simpa using m2
 ·simp [e4]
 ·simp [e5]
 ·simp [e6,hz]
 ·exact m5.keep (by simp) (fun N _=>by simp) (fun N _=>by simp) (by dsimp only; omega)
 ·repeat (first | exact cm | refine RC.set ?_ (by omega))
 ·exact cg
 ·exact co
 ·dsimp only; omega
 ·exact (((((((cl.mono (by dsimp only; omega)).set dA).set dA).set dA).set dA).set dA).set dA).set dA
 ·dsimp only
  repeat (first | exact lowE.mono (by omega) | refine lB.put ?_ (fun _ _ _=>rfl) | refine lB.put ?_ (wD (by omega)))
 ·dsimp only; omega
 ·simp
 ·dsimp only; omega
 ·refine ⟨.sl true [],_,by simp; rfl,?_,.inl ⟨?_,rfl⟩⟩
  ·rw [ub]; simp [nF,pA.of]
  ·rw [ub]; rfl
end
end
section
set_option maxHeartbeats 4000000
theorem SY (l:List (List AV)):∀ x∈kA l,dM x:=fun x hx=>by
 obtain ⟨v,_,rfl⟩:=yp.1 hx;exact gT v
theorem KI.stay {ms:List zB} {c:AV} {s s':aA} (h:KI ms c s) (hm:∀ n r,s.mem 88 n=some r->(∀ x∈r,dM x)->s'.mem 88 n=some r) (hn:s.next<=s'.next):KI ms c s':=by
 rcases h with h | ⟨N,h1,h2,h3,h4⟩
 ·exact .inl h
 ·exact .inr ⟨N,h1,Nat.lt_of_lt_of_le h2 hn,h3,hm N _ h4 (SY _)⟩
theorem LI.stay {S:List pA} {L:List (List AV)} {s s':aA} (h:LI S L s) (hm:∀ n r,s.mem 88 n=some r->(∀ x∈r,dM x)->s'.mem 88 n=some r) (hn:s.next<=s'.next):LI S L s' :=
 ⟨h.1,fun i t c ht hc=>by obtain ⟨m,h1,h2⟩:=h.2 i t c ht hc; exact ⟨m,h1,h2.stay hm hn⟩⟩
theorem M5I.stay {n0:Nat} {l:List fC} {i:Nat} {s s':aA} (h:M5I n0 l i s) (hm:∀ t n r,(t=5\/t=88\/t=168)->s.mem t n=some r->(∀ x∈r,dM x)->s'.mem t n=some r) (hn:s.next<=s'.next):M5I n0 l i s':=by
 rcases h with ⟨h1,a,h2,h3⟩ | ⟨N,L,h1,h2,h0,h3,h4,h6,h7⟩
 ·exact .inl ⟨h1,a,hm 5 _ _ (.inl rfl) h2 (by simpa using h3),h3⟩
 ·exact .inr ⟨N,L,h1,hm 5 _ _ (.inl rfl) h2 (by simpa using gT _),h0,Nat.lt_of_lt_of_le h3 hn,hm 168 _ _ (.inr (.inr rfl)) h4 (SY _),h6,h7.stay (fun n r=>hm 88 n r (.inr (.inl rfl))) hn⟩
theorem kind4_ev {r:RV} {n0:Nat} {s0:aA} {dn:Bool} {l:List fC} (hl:oks l) (hG:QM s0.gh) (hP:PW n0 s0.mem) {i:Nat} (hi:i<l.length) {s:aA} {k:Ex->aA->Option RV} (h:A5 n0 s0 dn l i s) (od:(DA l (i:Int)).kind=4) (hk:∀ n8 s',UM n0 s0 dn l i n8 s'->JD.run (dF jA tA) (RJ jA tA) s' k=some r):uC.run (dF jA tA) (RJ jA tA) s k=some r:=by
 obtain ⟨e1,m1,e2,m2,e4,e5,e6,m5,⟨cm,cg,co,cn,cl⟩,lowE,lt⟩:=h;have zb:=xH (dn:=dn) hl (z:=(i:Int)) (by omega) (by omega);have g:l[i]?=some l[i]:=y5 hi;have gm:(l.map sD)[i]?=some (sD (DA l (i:Int))):=by simp [DA,g]
 have jb:dC l (i:Int)=4:=by rw [<- od]; simp [dC,DA,g]
 have ub:kB l (i:Int)={ pA.of 4 (GJ i) with opn:=decide ((DA l (i:Int)).b % 2=1),sn:=false,syms:=BH (DA l (i:Int)).a }:=by simp only [kB,od]
 have hx:=jF hl hi;have hN5:=hl.2.1;rw [jb] at zb;generalize DA l (i:Int)=x at *
 have ab:=kD 4;have ai:=ids7_ev x hx;obtain ⟨xk,xa,xb,xc,_⟩:=E5 x hx;have xw:x.b.tmod 2=x.b % 2:=yt xb.1;simp only [gA,uG,sD] at zb gm ai;obtain ⟨z,hz⟩:∃ z:Int,z=i:=⟨_,rfl⟩;have ic:0<=z:=by omega
 have ov:IntKind.i64.wrap (65 + z)=65 + z:=IntWalk.i64_in _ (by omega);have wn:IntKind.i32.wrap (65 + z)=65 + z:=gX _ (by omega);rw [<- hz] at e6 zb;rw [show i=z.toNat from by omega] at gm;simp [uC,-J,-y4,-y3,y0,e1,m1,e4,e6,ic,gm,zb,ab,ai,xw,ov,wn];refine esyms_ev (a:=x.a) (n8:=s.next + 1) (nm:=Utf8.encode (65 + z)) (op:=decide (x.b % 2=1)) _ _ ?_ ?_ ?_ ?_ ?_ ?_ ?_ ?_ (fun s' h1 h2 h3 h4 h5 h6 h7 h8=>?_)
 ·simp
 ·simp
 ·simp
 ·dsimp only; omega
 ·simp [aJ]
 ·show QM s.gh;rw [cg]; exact hG
 ·exact ((((((cl.mono (by dsimp only; omega)).set dA).set dA).set dA).set dA).set dA).set dA
 ·dsimp only
  repeat (first | exact lowE.mono (by omega) | refine lB.put ?_ (fun _ _ _=>rfl) | refine lB.put ?_ (wD (by omega)))
 ·obtain ⟨an,h8⟩:=h8;simp [-J,-y4,-y3,y0];have lc:∀ t n r,¬ t=8->¬ t=7->s.mem t n=some r->(∀ x∈r,dM x)->s'.mem t n=some r:=fun t n r t8 t7 hr hp=>by
   refine (h2 t n (by omega) fun r' xg=>?_).trans ?_
   ·simp [t7,t8,hr] at xg;subst xg;exact hp
   ·simp [t7,t8,hr]
  refine hk (s.next + 1) s' ⟨⟨(h1 1 (by omega)).trans (by simp [e1]),lc 1 n0 _ (by omega) (by omega) m1 (by simpa using gT _),(h1 2 (by omega)).trans (by simp [e2]),?_,(h1 4 (by omega)).trans (by simp [e4]),(h1 5 (by omega)).trans (by simp [e5]),(h1 6 (by omega)).trans (by simp [e6,hz]),?_,⟨?_,?_,?_,?_,h6⟩,h7,?_⟩,(h1 8 (by omega)).trans (by simp),?_,?_⟩
  ·obtain ⟨a,m2,p2⟩:=m2;exact ⟨a,lc 2 n0 _ (by omega) (by omega) m2 (by simpa using p2),p2⟩
  ·exact m5.stay (fun t n r ht=>lc t n r (by omega) (by omega)) (by dsimp only at h5; omega)
  ·intro t n hn;refine (h2 t n (by omega) fun r' xg=>?_).trans ?_
   ·simp [show ¬ n=s.next from by omega,show ¬ n=s.next + 1 from by omega,cm t n hn] at xg;exact hP t n r' hn xg
   ·simp [show ¬ n=s.next from by omega,show ¬ n=s.next + 1 from by omega,cm t n hn]
  ·rw [h3]; exact cg
  ·rw [h4]; exact co
  ·dsimp only at h5; omega
  ·dsimp only at h5; omega
  ·dsimp only at h5; omega
  ·refine ⟨.sl true [],_,h8,?_,.inl ⟨?_,rfl⟩⟩
   ·rw [ub,hz]; simp [nF,pA.of,aJ,GJ]
   ·rw [ub]; rfl
end
section
set_option maxHeartbeats 4000000
theorem lB.wait {m nt:Nat} {e g:Nat->wA} (h:lB m e) (h':lB m g):lB m (aZ nt e g):=fun t=>by
 rw [QE];split
 ·exact h t
 ·exact h' _
theorem lB.back {m nt:Nat} {g:Nat->wA} (h:lB m g):lB m (backE nt g):=fun t=>by
 rw [fN];split
 ·exact h t
 ·exact fun _ _ _=>rfl
theorem C2 (nt:Nat) (e g:Nat->wA):FV nt (aZ nt e g)=g:=funext fun t=>by
 rw [j8,QE,if_neg (by omega)];congr 1;omega
theorem RC.trans {m m':Nat} {A B C:Nat->Nat->Option (List wA)} (h:RC m A B) (h':RC m' B C) (hm:m<=m'):RC m A C:=fun t n hn=>(h' t n (by omega)).trans (h t n hn)
theorem KI.lowV {ms:List zB} {c:AV} {s:aA} (h:KI ms c s):lowV s.next c:=lowV_of h.low (by
 rcases h with ⟨_,rfl⟩ | ⟨N,_,_,rfl,_⟩ <;> rfl)
section
variable {r:RV} {n0:Nat} {s0:aA} {dn:Bool} {l:List fC} (hl:oks l) (hG:lB n0 s0.gh) {i:Nat} (hi:i<l.length) {s:aA} {k:Ex->aA->Option RV} (h:A5 n0 s0 dn l i s)
include r n0 s0 dn l hl hG i hi s k h
theorem kind5_ev (od:(DA l (i:Int)).kind=5) (hk:∀ n8 s',UM n0 s0 dn l i n8 s'->JD.run (dF jA tA) (RJ jA tA) s' k=some r):uC.run (dF jA tA) (RJ jA tA) s k=some r:=by
 obtain ⟨e1,m1,e2,m2,e4,e5,e6,m5,⟨cm,cg,co,cn,cl⟩,lowE,lt⟩:=h;have zb:=xH (dn:=dn) hl (z:=(i:Int)) (by omega) (by omega);have g:l[i]?=some l[i]:=y5 hi;have gm:(l.map sD)[i]?=some (sD (DA l (i:Int))):=by simp [DA,g]
 have gx:l[((i:Int)).toNat]?=some (DA l (i:Int)):=by simp [DA,g]
 have jb:dC l (i:Int)=5:=by rw [<- od]; simp [dC,DA,g]
 have ub:kB l (i:Int)={ pA.of 5 (GJ (i:Int)) with mn:=(lE l (i:Int) true (DA l (i:Int)).parts).isEmpty,mems:=(lE l (i:Int) true (DA l (i:Int)).parts) }:=by simp only [kB,od]
 have hx:=jF hl hi;have hN5:=hl.2.1;rw [jb] at zb;generalize DA l (i:Int)=x at *
 have ab:=kD 5;obtain ⟨xk,xa,xb,xc,_⟩:=E5 x hx;have xw:x.b.tmod 2=x.b % 2:=yt xb.1;simp only [gA,uG,sD] at zb gm;obtain ⟨z,hz⟩:∃ z:Int,z=i:=⟨_,rfl⟩;have ic:0<=z:=by omega
 have dj:z<l.length:=by omega
 have ov:IntKind.i64.wrap (65 + z)=65 + z:=IntWalk.i64_in _ (by omega);have wn:IntKind.i32.wrap (65 + z)=65 + z:=gX _ (by omega);rw [<- hz] at e6 zb gx ub;rw [show i=z.toNat from by omega] at gm;simp [uC,-J,-y4,-y3,y0,e1,m1,e4,e6,ic,gm,zb,ab,ov,wn,xw];refine C7 hl ic dj gx _ ?_ ?_ _ (fun y s' hc hli=>?_)
 ·exact (((((cl.mono (by dsimp only; omega)).set dA).set dA).set dA).set dA).set dA
 ·dsimp only;refine lB.wait ?_ (by rw [cg]; exact hG.mono (by omega))
  repeat (first | exact lowE.mono (by omega) | refine lB.put ?_ (fun _ _ _=>rfl) | refine lB.put ?_ (wD (by omega)))
 ·obtain ⟨ml,ik,co2,cn2,cl2⟩:=hc;dsimp only at ik co2 cn2 ml;have wr:=hli.mems;have jj:=wr.lowV;have g1:(s'.gh 1).v=.ptr 1 n0 0:=by rw [ik]; simp [QE,e1]
  have g2:(s'.gh 2).v=.ptr 2 n0 0:=by rw [ik]; simp [QE,e2]
  have g4:(s'.gh 4).v=.int .i64 l.length:=by rw [ik]; simp [QE,e4]
  have g5:(s'.gh 5).v=.ptr 5 (n0 + 3) 0:=by rw [ik]; simp [QE,e5]
  have g6:(s'.gh 6).v=.int .i64 z:=by rw [ik]; simp [QE,e6]
  have g8:(s'.gh 8).v=.ptr 8 (s.next + 1) 0:=by rw [ik]; simp [QE]
  have m8:s'.mem 8 (s.next + 1)=some [⟨.int .i64 5,.no⟩,⟨.str (Utf8.encode (65 + z)),.no⟩,⟨.int .i64 0,.no⟩,⟨.int .i64 0,.no⟩,⟨.int .i64 0,.no⟩,⟨.sl true [],.no⟩,⟨.sl true [],.no⟩,⟨.int .i64 0,.no⟩,⟨.int .i64 0,.no⟩,⟨.bool false,.no⟩]:=by rw [ml 8 (s.next + 1) (by omega)]; simp
  have hgl:lB s'.next s'.gh:=by
   rw [ik];refine lB.wait ?_ (by rw [cg]; exact hG.mono (by omega))
   repeat (first | exact lowE.mono (by omega) | refine lB.put ?_ (fun _ _ _=>rfl) | refine lB.put ?_ (wD (by omega)))
  have fin:∀ (E:Nat->wA) (M:Nat->Nat->Option (List wA)) (row:List wA) (nx:Nat),(∀ t,t<9->(E t).v=(s'.gh t).v)->lB s'.next E->s'.next<nx->(∀ t n,M t n=if t=8/\n=s.next + 1 then some row else s'.mem t n)->(∀ q∈row,lowV s'.next q.v)->(∃ m,row.map (·.v)=nF (kB l z) m/\KI (kB l z).mems m s')->UM n0 s0 dn l i (s.next + 1) ⟨E,M,nx,s'.obj,FV 171 s'.gh⟩:=fun E M row nx hE hEl dd hM hrl hr=>by
   refine ⟨⟨?_,?_,?_,?_,?_,?_,?_,?_,⟨?_,?_,?_,?_,?_⟩,?_,?_⟩,?_,?_,?_⟩
   ·exact (hE 1 (by omega)).trans g1
   ·simp [hM,ml 1 n0 (by omega),m1]
   ·exact (hE 2 (by omega)).trans g2
   ·simpa [hM,ml 2 n0 (by omega)] using m2
   ·exact (hE 4 (by omega)).trans g4
   ·exact (hE 5 (by omega)).trans g5
   ·exact (hE 6 (by omega)).trans (by rw [g6,hz])
   ·refine m5.keep (by simp [hM,ml 5 (n0 + 3) (by omega)]) (fun N hN=>by simp [hM,ml 168 N (by omega)]) (fun N hN=>by simp [hM,ml 88 N (by omega)]) (by dsimp only; omega)
   ·intro t n hn;show M t n=_;rw [hM,if_neg (by omega),ml t n (by omega)];simp [show ¬ n=s.next from by omega,show ¬ n=s.next + 1 from by omega,cm t n hn]
   ·show FV 171 s'.gh=s0.gh;rw [ik,C2];exact cg
   ·exact co2.trans co
   ·dsimp only; omega
   ·intro t n r' xg q hq;have xg:M t n=some r':=xg;rw [hM] at xg;split at xg
    ·injection xg with xg; subst xg;exact RI (by dsimp only; omega) (hrl q hq)
    ·exact RI (by dsimp only; omega) (cl2 t n r' xg q hq)
   ·exact hEl.mono (by dsimp only; omega)
   ·dsimp only; omega
   ·exact (hE 8 (by omega)).trans g8
   ·dsimp only; omega
   ·obtain ⟨m,kf,wi⟩:=hr;rw [<- hz];refine ⟨m,row,by show M 8 _=_; rw [hM,if_pos ⟨rfl,rfl⟩],kf,wi.keep (fun N hN=>?_) (by dsimp only; omega)⟩;show M 88 N=_;rw [hM,if_neg (by omega)]
  rcases wr with ⟨_,e⟩ | ⟨N,_,_,e,_⟩
  ·simp [-J,-y4,-y3,y0,g8,m8,e];refine hk _ _ (fin _ _ _ _ (fun t ht=>?_) ?_ (by omega) (fun t n=>by simp [uB]; rfl) (fun q hq=>?_) ?_)
   ·have q:∀ c,9<=c->¬ t=c:=fun c hc=>by omega
    simp [q,fN,show t<171 from by omega]
   ·repeat (first | exact hgl.back | refine lB.put ?_ (fun _ _ _=>rfl) | refine lB.put ?_ (wD (by omega)) | refine lB.put ?_ jj | refine lB.put ?_ (by rw [<- e]; exact jj))
   ·simp only [yg,yP,or_false] at hq;rcases hq with rfl | rfl | rfl | rfl | rfl | rfl | rfl | rfl | rfl | rfl <;> first | exact RN rfl | (rw [<- e]; exact jj)
   ·exact ⟨y.v,by rw [ub,e]; simp [nF,pA.of,GJ],by rw [ub]; exact hli.mems⟩
  ·simp [-J,-y4,-y3,y0,g8,m8,e];refine hk _ _ (fin _ _ _ _ (fun t ht=>?_) ?_ (by omega) (fun t n=>by simp [uB]; rfl) (fun q hq=>?_) ?_)
   ·have q:∀ c,9<=c->¬ t=c:=fun c hc=>by omega
    simp [q,fN,show t<171 from by omega]
   ·repeat (first | exact hgl.back | refine lB.put ?_ (fun _ _ _=>rfl) | refine lB.put ?_ (wD (by omega)) | refine lB.put ?_ jj | refine lB.put ?_ (by rw [<- e]; exact jj))
   ·simp only [yg,yP,or_false] at hq;rcases hq with rfl | rfl | rfl | rfl | rfl | rfl | rfl | rfl | rfl | rfl <;> first | exact RN rfl | (rw [<- e]; exact jj)
   ·exact ⟨y.v,by rw [ub,e]; simp [nF,pA.of,GJ],by rw [ub]; exact hli.mems⟩
theorem kind6_ev (od:(DA l (i:Int)).kind=6) (hk:∀ n8 s',UM n0 s0 dn l i n8 s'->JD.run (dF jA tA) (RJ jA tA) s' k=some r):uC.run (dF jA tA) (RJ jA tA) s k=some r:=by
 obtain ⟨e1,m1,e2,m2,e4,e5,e6,m5,⟨cm,cg,co,cn,cl⟩,lowE,lt⟩:=h;have zb:=xH (dn:=dn) hl (z:=(i:Int)) (by omega) (by omega);have g:l[i]?=some l[i]:=y5 hi;have gm:(l.map sD)[i]?=some (sD (DA l (i:Int))):=by simp [DA,g]
 have gx:l[((i:Int)).toNat]?=some (DA l (i:Int)):=by simp [DA,g]
 have jb:dC l (i:Int)=6:=by rw [<- od]; simp [dC,DA,g]
 have ub:kB l (i:Int)=if (lE l (i:Int) false (DA l (i:Int)).parts).isEmpty=true then .of 5 (GJ (i:Int)) else { pA.of 6 (GJ (i:Int)) with opn:=decide ((DA l (i:Int)).b % 2=1),mn:=false,mems:=(lE l (i:Int) false (DA l (i:Int)).parts) }:=by simp only [kB,od]
 have hx:=jF hl hi;have hN5:=hl.2.1;rw [jb] at zb;generalize DA l (i:Int)=x at *
 have ab:=kD 6;obtain ⟨xk,xa,xb,xc,_⟩:=E5 x hx;have xw:x.b.tmod 2=x.b % 2:=yt xb.1;simp only [gA,uG,sD] at zb gm;obtain ⟨z,hz⟩:∃ z:Int,z=i:=⟨_,rfl⟩;have ic:0<=z:=by omega
 have dj:z<l.length:=by omega
 have ov:IntKind.i64.wrap (65 + z)=65 + z:=IntWalk.i64_in _ (by omega);have wn:IntKind.i32.wrap (65 + z)=65 + z:=gX _ (by omega);rw [<- hz] at e6 zb gx ub;rw [show i=z.toNat from by omega] at gm;simp [uC,-J,-y4,-y3,y0,e1,m1,e4,e6,ic,gm,zb,ab,ov,wn,xw];refine C7 hl ic dj gx _ ?_ ?_ _ (fun y s' hc hli=>?_)
 ·exact ((((((cl.mono (by dsimp only; omega)).set dA).set dA).set dA).set dA).set dA).set dA
 ·dsimp only;refine lB.wait ?_ (by rw [cg]; exact hG.mono (by omega))
  repeat (first | exact lowE.mono (by omega) | refine lB.put ?_ (fun _ _ _=>rfl) | refine lB.put ?_ (wD (by omega)))
 ·obtain ⟨ml,ik,co2,cn2,cl2⟩:=hc;dsimp only at ik co2 cn2 ml;have wr:=hli.mems;have jj:=wr.lowV;have g1:(s'.gh 1).v=.ptr 1 n0 0:=by rw [ik]; simp [QE,e1]
  have g2:(s'.gh 2).v=.ptr 2 n0 0:=by rw [ik]; simp [QE,e2]
  have g4:(s'.gh 4).v=.int .i64 l.length:=by rw [ik]; simp [QE,e4]
  have g5:(s'.gh 5).v=.ptr 5 (n0 + 3) 0:=by rw [ik]; simp [QE,e5]
  have g6:(s'.gh 6).v=.int .i64 z:=by rw [ik]; simp [QE,e6]
  have g8:(s'.gh 8).v=.ptr 8 (s.next + 1) 0:=by rw [ik]; simp [QE]
  have m8:s'.mem 8 (s.next + 1)=some [⟨.int .i64 6,.no⟩,⟨.str (Utf8.encode (65 + z)),.no⟩,⟨.int .i64 0,.no⟩,⟨.int .i64 0,.no⟩,⟨.int .i64 0,.no⟩,⟨.sl true [],.no⟩,⟨.sl true [],.no⟩,⟨.int .i64 0,.no⟩,⟨.int .i64 0,.no⟩,⟨.bool (decide (x.b % 2=1)),.no⟩]:=by rw [ml 8 (s.next + 1) (by omega)]; simp
  have hgl:lB s'.next s'.gh:=by
   rw [ik];refine lB.wait ?_ (by rw [cg]; exact hG.mono (by omega))
   repeat (first | exact lowE.mono (by omega) | refine lB.put ?_ (fun _ _ _=>rfl) | refine lB.put ?_ (wD (by omega)))
  have fin:∀ (E:Nat->wA) (M:Nat->Nat->Option (List wA)) (row:List wA) (nx:Nat),(∀ t,t<9->(E t).v=(s'.gh t).v)->lB s'.next E->s'.next<nx->(∀ t n,M t n=if t=8/\n=s.next + 1 then some row else s'.mem t n)->(∀ q∈row,lowV s'.next q.v)->(∃ m,row.map (·.v)=nF (kB l z) m/\KI (kB l z).mems m s')->UM n0 s0 dn l i (s.next + 1) ⟨E,M,nx,s'.obj,FV 171 s'.gh⟩:=fun E M row nx hE hEl dd hM hrl hr=>by
   refine ⟨⟨?_,?_,?_,?_,?_,?_,?_,?_,⟨?_,?_,?_,?_,?_⟩,?_,?_⟩,?_,?_,?_⟩
   ·exact (hE 1 (by omega)).trans g1
   ·simp [hM,ml 1 n0 (by omega),m1]
   ·exact (hE 2 (by omega)).trans g2
   ·simpa [hM,ml 2 n0 (by omega)] using m2
   ·exact (hE 4 (by omega)).trans g4
   ·exact (hE 5 (by omega)).trans g5
   ·exact (hE 6 (by omega)).trans (by rw [g6,hz])
   ·refine m5.keep (by simp [hM,ml 5 (n0 + 3) (by omega)]) (fun N hN=>by simp [hM,ml 168 N (by omega)]) (fun N hN=>by simp [hM,ml 88 N (by omega)]) (by dsimp only; omega)
   ·intro t n hn;show M t n=_;rw [hM,if_neg (by omega),ml t n (by omega)];simp [show ¬ n=s.next from by omega,show ¬ n=s.next + 1 from by omega,cm t n hn]
   ·show FV 171 s'.gh=s0.gh;rw [ik,C2];exact cg
   ·exact co2.trans co
   ·dsimp only; omega
   ·intro t n r' xg q hq;have xg:M t n=some r':=xg;rw [hM] at xg;split at xg
    ·injection xg with xg; subst xg;exact RI (by dsimp only; omega) (hrl q hq)
    ·exact RI (by dsimp only; omega) (cl2 t n r' xg q hq)
   ·exact hEl.mono (by dsimp only; omega)
   ·dsimp only; omega
   ·exact (hE 8 (by omega)).trans g8
   ·dsimp only; omega
   ·obtain ⟨m,kf,wi⟩:=hr;rw [<- hz];refine ⟨m,row,by show M 8 _=_; rw [hM,if_pos ⟨rfl,rfl⟩],kf,wi.keep (fun N hN=>?_) (by dsimp only; omega)⟩;show M 88 N=_;rw [hM,if_neg (by omega)]
  rcases wr with ⟨h0,e⟩ | ⟨N,h0,_,e,_⟩
  ·simp [-J,-y4,-y3,y0,g8,m8,e];refine hk _ _ (fin _ _ _ _ (fun t ht=>?_) ?_ (by omega) (fun t n=>by simp [uB]; split <;> rfl) (fun q hq=>?_) ?_)
   ·have q:∀ c,9<=c->¬ t=c:=fun c hc=>by omega
    simp [q,fN,show t<171 from by omega]
   ·repeat (first | exact hgl.back | refine lB.put ?_ (fun _ _ _=>rfl) | refine lB.put ?_ (wD (by omega)) | refine lB.put ?_ jj | refine lB.put ?_ (by rw [<- e]; exact jj))
   ·simp only [yg,yP,or_false] at hq;rcases hq with rfl | rfl | rfl | rfl | rfl | rfl | rfl | rfl | rfl | rfl <;> first | exact RN rfl | (rw [<- e]; exact jj)
   ·refine ⟨.sl true [],?_,.inl ⟨?_,rfl⟩⟩
    ·rw [ub,if_pos (by simp [h0])]; simp [nF,pA.of,GJ]
    ·rw [ub,if_pos (by simp [h0])]; rfl
  ·have fh:¬ ((lE l z false x.parts).length:Int)=0:=by
    have:=Y02.2 h0;omega
   simp [-J,-y4,-y3,y0,g8,m8,e,fh,h0];refine hk _ _ (fin _ _ _ _ (fun t ht=>?_) ?_ (by omega) (fun t n=>by simp [uB]; rfl) (fun q hq=>?_) ?_)
   ·have q:∀ c,9<=c->¬ t=c:=fun c hc=>by omega
    simp [q,fN,show t<171 from by omega]
   ·repeat (first | exact hgl.back | refine lB.put ?_ (fun _ _ _=>rfl) | refine lB.put ?_ (wD (by omega)) | refine lB.put ?_ jj | refine lB.put ?_ (by rw [<- e]; exact jj))
   ·simp only [yg,yP,or_false] at hq;rcases hq with rfl | rfl | rfl | rfl | rfl | rfl | rfl | rfl | rfl | rfl <;> first | exact RN rfl | (rw [<- e]; exact jj)
   ·exact ⟨y.v,by rw [ub,if_neg (by simpa using h0),e]; simp [nF,pA.of,GJ],by rw [ub,if_neg (by simpa using h0)]; exact hli.mems⟩
end
end
section
set_option maxHeartbeats 4000000
structure OfJ (n0:Nat) (s0:aA) (dn:Bool) (l:List fC) (i j:Nat) (s:aA):Prop where
 e1:(s.env 1).v=.ptr 1 n0 0
 m1:s.mem 1 n0=some [⟨.sl dn (l.map sD),.no⟩]
 e2:(s.env 2).v=.ptr 2 n0 0
 m2:∃ a,s.mem 2 n0=some [⟨.sl true [],a⟩]/\dM ⟨.sl true [],a⟩
 e4:(s.env 4).v=.int .i64 l.length
 e5:(s.env 5).v=.ptr 5 (n0 + 3) 0
 e6:(s.env 6).v=.int .i64 i
 m5:M5I n0 l j s
 calm:Calm n0 s0 s
 lowE:lB s.next s.env
 lt:n0 + 3<s.next
theorem aG {sz:Nat} {L:List (List AV)} (h:∀ c∈L,c.length=sz):uH (kA L) sz 0 L.length=some L:=by
 have ia:∀ {L:List (List AV)},(∀ c∈L,c.length=sz)->L.flatten.length=L.length * sz:=by
  intro L h
  induction L with
  | nil=>simp
  | cons c r ih =>
   simp only [yI,yz,yF];rw [ih fun c hc=>h c (yo _ hc),h c yl,yy];omega
 have hv:∀ l:List AV,(l.map fun v=>(⟨v,An.no⟩:wA)).map (·.v)=l:=fun l=>by simp [Function.comp_def]
 unfold uH;rw [if_pos (by rw [kA,yu,ia h]; omega)];congr 1;refine List.ext_getElem (by simp) fun i h1 h2=>?_
 simp only [List.getElem_map,List.getElem_range,yK];simp only [kA];rw [<- List.map_drop,<- List.map_take,hv]
 induction L generalizing i with
 | nil=>simp at h2
 | cons c r ih =>
  have hc:=h c yl;cases i with
  | zero=>simp [<- hc]
  | succ i =>
   simp only [yI,List.getElem_cons_succ];rw [yy,Nat.add_comm,<- hc,<- List.drop_drop];rw [List.drop_left,hc];exact ih (fun c hc=>h c (yo _ hc)) i (by simpa using h2) (by simpa using h2)
theorem KI.stay2 {ms:List zB} {c:AV} {s s':aA} (h:KI ms c s) (hm:∀ n L,UD L=true->s.mem 88 n=some (kA L)->s'.mem 88 n=some (kA L)) (hn:s.next<=s'.next):KI ms c s':=by
 rcases h with h | ⟨N,h1,h2,h3,h4⟩
 ·exact .inl h
 ·exact .inr ⟨N,h1,Nat.lt_of_lt_of_le h2 hn,h3,hm N _ (T2 _) h4⟩
theorem LI.stay2 {S:List pA} {L:List (List AV)} {s s':aA} (h:LI S L s) (hm:∀ n L,UD L=true->s.mem 88 n=some (kA L)->s'.mem 88 n=some (kA L)) (hn:s.next<=s'.next):LI S L s' :=
 ⟨h.1,fun i t c ht hc=>by obtain ⟨m,h1,h2⟩:=h.2 i t c ht hc; exact ⟨m,h1,h2.stay2 hm hn⟩⟩
theorem tail_ev {r:RV} {n0:Nat} {s0:aA} {dn:Bool} {l:List fC} (hl:oks l) (hM0:dL n0 s0.mem) (hG:lB n0 s0.gh) {i:Nat} (hi:i<l.length) {n8:Nat} {s:aA} {k:Ex->aA->Option RV} (h:UM n0 s0 dn l i n8 s) (hk:∀ s',OfJ n0 s0 dn l i (i + 1) s'->k .nrm s'=some r):JD.run (dF jA tA) (RJ jA tA) s k=some r:=by
 obtain ⟨⟨e1,m1,e2,m2,e4,e5,e6,m5,⟨cm,cg,co,cn,cl⟩,lowE,lt⟩,e8,lt8,m,row,m8,na,wr⟩:=h;have hN5:=hl.2.1;generalize hT:kB l (i:Int)=T at *
 have xm:=wr;have ia:row.length=10:=by have:=congrArg List.length na; simpa [nF] using this
 have ku:RB true 10 0 row=some ⟨.agg (nF T m),.no⟩:=by
  unfold RB;simp [ia,<- na];rw [yB (by rw [yu]; omega)]
 have hCl:(nF T m).length=10:=rfl;have hmf:∀ t n,t≠88->m.noName t n=true:=fun t n ht=>by
  rcases wr with ⟨_,rfl⟩ | ⟨N,_,_,rfl,_⟩
  ·rfl
  ·simp [AV.noName];omega
 have hmw:m.leaf=true:=by
  rcases wr with ⟨_,rfl⟩ | ⟨N,_,_,rfl,_⟩ <;> rfl
 have sy:∀ t n,t≠88->(nF T m).all (AV.noName t n)=true:=fun t n ht=>by
  refine y6.2 fun c hc=>?_
  simp only [nF,yg,yP,or_false] at hc;rcases hc with rfl | rfl | rfl | rfl | rfl | rfl | rfl | rfl | rfl | rfl <;> first | exact hmf t n ht | rfl
 have aq:∀ c∈nF T m,x7 s.next c:=fun c hc=>by
  simp only [nF,yg,yP,or_false] at hc;rcases hc with rfl | rfl | rfl | rfl | rfl | rfl | rfl | rfl | rfl | rfl <;> first | exact xm.low | exact lQ rfl
 have nu:∀ c∈nF T m,c.leaf=true:=fun c hc=>by
  simp only [nF,yg,yP,or_false] at hc;rcases hc with rfl | rfl | rfl | rfl | rfl | rfl | rfl | rfl | rfl | rfl <;> first | exact hmw | rfl
 have oa:ZA 120 (i + 1)=true:=by rw [xA]; omega
 have br:(AV.agg (nF T m)).whole=true:=rfl;rcases m5 with ⟨jg,a,h5,hp5⟩ | ⟨N,L,jg,h5,mr,hN,ol,hLl,ub⟩
 ·subst jg;have helC:iB 10 [nF T m]=true:=rfl;have hraw:uH (kA [nF T m]) 10 0 1=some [nF T m]:=aG (L:=[nF T m]) (by simp [hCl]);generalize hC:nF T m=C at *
  have hC2:C.length=10:=hCl;simp [JD,-J,-y4,-y3,y0,-RB,-UA,qC,jC,fB,gB,e5,e8,h5,m8,ku,AV.raws,hraw,oa,helC,hC2];have wm:∀ x∈kA [C],lowV s.next x.v:=T4 (fun c hc=>by simp only [yO] at hc; subst hc; exact aq) (fun c hc=>by simp only [yO] at hc; subst hc; exact nu);refine hk _ ⟨?_,?_,?_,?_,?_,?_,?_,.inr ⟨s.next,[C],by omega,by simp,by omega,by dsimp only; omega,by simp,rfl,?_⟩,⟨?_,?_,?_,?_,?_⟩,?_,?_⟩
  ·simp [e1]
  ·simp [m1]
  ·simp [e2]
  ·simpa using m2
  ·simp [e4]
  ·simp [e5]
  ·simp [e6]
  ·refine ⟨rfl,fun j t c ht hc=>?_⟩;have hj:j=0:=by
    rcases yN j with h0 | h0
    ·exact h0
    ·rw [yY (by simp; omega)] at hc; cases hc
   subst hj;simp at ht hc;subst ht;subst hc;rw [show kB l (0:Int)=T from hT];exact ⟨m,hC.symm,wr.keep (fun N hN=>by simp) (by dsimp only; omega)⟩
  ·repeat (first | exact cm | refine RC.set ?_ (by omega))
  ·exact cg
  ·exact co
  ·dsimp only; omega
  ·exact ((((cl.set wm).set wm).mono (Nat.le_succ _)).set fun x hx=>by simp at hx; subst hx; exact OP (by omega))
  ·dsimp only;have xz:lowV s.next (.agg C):=UX aq
   repeat (first | exact lowE.mono (by omega) | refine lB.put ?_ (fun _ _ _=>rfl) | refine lB.put ?_ (wD (by omega)) | refine lB.put ?_ (OP (by omega)) | refine lB.put ?_ (RI (by omega) xz))
  ·dsimp only; omega
 ·have pf:∀ c∈L,c.length=10:=fun c hc=>by simpa using y6.1 ub.els c hc
  have helC:iB 10 [nF T m]=true:=rfl;have hraw:uH (kA [nF T m]) 10 0 1=some [nF T m]:=aG (L:=[nF T m]) (by simp [hCl]);have hraw2:uH (kA L) 10 0 i=some L:=by rw [<- hLl]; exact aG pf
  have hnn2:(L++[nF T m]).flatten.all (AV.noName 168 N)=true:=by
   rw [List.flatten_append,List.all_append,y7];refine ⟨y6.2 fun v hv=>?_,by simpa using sy 168 N (by omega)⟩;obtain ⟨c,hc,hv⟩:=List.mem_flatten.1 hv;obtain ⟨j,hj,rfl⟩:=yq hc;have hjS:j<((List.range i).map fun (j:Nat)=>kB l (j:Int)).length:=by rw [ub.1]; exact hj
   obtain ⟨m',h1,h2⟩:=ub.2 j _ _ (y5 hjS) (y5 hj);rw [h1] at hv;simp only [nF,yg,yP,or_false] at hv;rcases hv with rfl | rfl | rfl | rfl | rfl | rfl | rfl | rfl | rfl | rfl <;> first | rfl | skip
   rcases h2 with ⟨_,rfl⟩ | ⟨N',_,_,rfl,_⟩ <;> rfl
  generalize hC:nF T m=C at *
  have hC2:C.length=10:=hCl;simp [JD,-J,-y4,-y3,y0,-RB,-UA,qC,jC,fB,gB,e5,e8,h5,m8,ku,AV.raws,hraw,hraw2,ol,oa,helC,hC2,hnn2,-y6,-List.flatten_append,-List.all_flatten,-List.all_append];have im:QX 168 N s.gh=s.gh:=by rw [cg]; exact hG.same mr
  have lc:∀ (s':aA),s'.mem=XY (XY (C1 168 N (XY s.mem 167 s.next (kA [C]))) 168 s.next (kA (L++[C]))) 5 (n0 + 3) [⟨.ref 168 s.next 10 0 (i + 1) (i + 1),.no⟩]->∀ n L,UD L=true->s.mem 88 n=some (kA L)->s'.mem 88 n=some (kA L):=fun s' cj n L' hL' h'=>by
   rw [cj];simp [h',PY hL']
  have wm:∀ x∈kA [C],lowV s.next x.v:=T4 (fun c hc=>by simp only [yO] at hc; subst hc; exact aq) (fun c hc=>by simp only [yO] at hc; subst hc; exact nu);have hlowR2:∀ x∈kA (L++[C]),lowV s.next x.v:=fun x hx=>by
   rw [kA,List.flatten_append,yH] at hx;rcases yx.1 hx with hx | hx
   ·exact cl 168 N _ ol x hx
   ·exact wm x hx
  refine hk _ ⟨?_,?_,?_,?_,?_,?_,?_,.inr ⟨s.next,L++[C],by omega,by simp,by omega,by dsimp only; omega,by simp,by simp [hLl],?_⟩,⟨?_,?_,?_,?_,?_⟩,?_,?_⟩
  ·simp [pB,e1,AV.kill,AV.kill0]
  ·simp [nB,m1,AV.kill,AV.kill0]
  ·simp [pB,e2,AV.kill,AV.kill0]
  ·obtain ⟨a,m2,p2⟩:=m2;exact ⟨a,by simp [nB,m2,AV.kill,AV.kill0],p2⟩
  ·simp [pB,e4,AV.kill,AV.kill0]
  ·simp [pB,e5,AV.kill,AV.kill0]
  ·simp [pB,e6,AV.kill,AV.kill0]
  ·rw [y0,yH,yf,ym,hT];subst hC;exact (ub.stay2 (lc _ rfl) (by dsimp only; omega)).snoc (wr.stay2 (lc _ rfl) (by dsimp only; omega))
  ·exact (((cm.set (by omega)).kill hM0 mr).set (by omega)).set (by omega)
  ·show QX 168 N s.gh=s0.gh;rw [im];exact cg
  ·exact co
  ·dsimp only; omega
  ·exact ((((cl.set wm).kill.set hlowR2).mono (Nat.le_succ _)).set fun x hx=>by simp at hx; subst hx; exact OP (by omega))
  ·dsimp only;have xz:lowV s.next (.agg C):=UX aq;have hN':N<s.next + 1:=by omega
   repeat (first | exact lowE.mono (by omega) | refine lB.kill ?_ | refine lB.put ?_ (fun _ _ _=>rfl) | refine lB.put ?_ (wD (by omega)) | refine lB.put ?_ (OP (by omega)) | refine lB.put ?_ (RI (by omega) xz))
  ·dsimp only; omega
end
section
set_option maxHeartbeats 4000000
theorem head_ev {r:RV} {n0:Nat} {s0:aA} {dn:Bool} {l:List fC} (hl:oks l) (hM:dL n0 s0.mem) (hP:PW n0 s0.mem) (hG:lB n0 s0.gh) (hG':QM s0.gh) {i:Nat} (hi:i<l.length) {s:aA} {k:Ex->aA->Option RV} (h:A5 n0 s0 dn l i s) (hk:∀ s',OfJ n0 s0 dn l i (i + 1) s'->k .nrm s'=some r):uC.run (dF jA tA) (RJ jA tA) s k=some r:=by
 have ht:∀ n8 s',UM n0 s0 dn l i n8 s'->JD.run (dF jA tA) (RJ jA tA) s' k=some r:=fun n8 s' h'=>tail_ev hl hM hG hi h' hk
 have hx:=jF hl hi;have hr:1<=(DA l (i:Int)).kind/\(DA l (i:Int)).kind<=9:=by
  have:=hx.1.1;simp only [fC.kind];omega
 by_cases h1:(DA l (i:Int)).kind=1
 ·exact kind1_ev hl hi h h1 ht
 by_cases h2:(DA l (i:Int)).kind=2
 ·exact kind2_ev hl hi h h2 ht
 by_cases h3:(DA l (i:Int)).kind=3
 ·exact kind3_ev hl hi h h3 ht
 by_cases h4:(DA l (i:Int)).kind=4
 ·exact kind4_ev hl hG' hP hi h h4 ht
 by_cases h5:(DA l (i:Int)).kind=5
 ·exact kind5_ev hl hG hi h h5 ht
 by_cases h6:(DA l (i:Int)).kind=6
 ·exact kind6_ev hl hG hi h h6 ht
 by_cases h7:(DA l (i:Int)).kind=7
 ·exact kind7_ev hl hi h h7 ht
 by_cases h8:(DA l (i:Int)).kind=8
 ·by_cases hc:NJ l (DA l (i:Int)).b<0
  ·exact kind8n_ev hl hi h h8 hc ht
  ·exact kind8p_ev hl hi h h8 hc ht
 ·exact kind9_ev hl hi h (by omega) ht
theorem OfJ.toI {n0:Nat} {s0:aA} {dn:Bool} {l:List fC} {i j:Nat} {s:aA} (h:OfJ n0 s0 dn l i j s) {E:Nat->wA} {nx:Nat} (hE:∀ t,t<9->¬ t=6->(E t).v=(s.env t).v) (h6:(E 6).v=.int .i64 j) (hL:lB nx E) (hn:s.next<=nx):A5 n0 s0 dn l j ⟨E,s.mem,nx,s.obj,s.gh⟩:=by
 obtain ⟨e1,m1,e2,m2,e4,e5,e6,m5,⟨cm,cg,co,cn,cl⟩,lowE,lt⟩:=h;exact ⟨(hE 1 (by omega) (by omega)).trans e1,m1,(hE 2 (by omega) (by omega)).trans e2,m2,(hE 4 (by omega) (by omega)).trans e4,(hE 5 (by omega) (by omega)).trans e5,h6,m5.keep rfl (fun _ _=>rfl) (fun _ _=>rfl) hn,⟨cm,cg,co,by dsimp only; omega,cl.mono hn⟩,hL,by dsimp only; omega⟩
theorem A5.toJ {n0:Nat} {s0:aA} {dn:Bool} {l:List fC} {i:Nat} {s:aA} (h:A5 n0 s0 dn l i s):OfJ n0 s0 dn l i i s:=⟨h.e1,h.m1,h.e2,h.m2,h.e4,h.e5,h.e6,h.m5,h.calm,h.lowE,h.lt⟩
def lA (l:List fC):List pA:=(List.range l.length).map fun (j:Nat)=>kB l (j:Int)
structure OfEnd (s0:aA) (l:List fC) (s:aA):Prop where
 calm:Calm s0.next s0 s
 e2:(s.env 2).v=.ptr 2 s0.next 0
 e3:(s.env 3).v=.bool true
 lt:s0.next<s.next
 typs:∃ N L,s.mem 2 s0.next=some [⟨.ref 168 N 10 0 l.length l.length,.no⟩]/\s0.next<=N/\N<s.next/\s.mem 168 N=some (kA L)/\L.length=l.length/\LI (lA l) L s
theorem of_run {r:RV} {dn:Bool} {l:List fC} (hl:oks l) (s0:aA) (h0:(s0.env 0).v=.agg (uG dn l)) (hM:dL s0.next s0.mem) (hP:PW s0.next s0.mem) (hE:lB s0.next s0.env) (hG:lB s0.next s0.gh) (hG':QM s0.gh) (k:Ex->aA->Option RV) (hk:∀ s',OfEnd s0 l s'->k .ret s'=some r):lF.code.run (dF jA tA) (RJ jA tA) s0 k=some r:=by
 have hN1:=hl.1;have hN5:=hl.2.1;have c1:¬ (l.length:Int)<1:=by omega
 have c2:¬ 5<(l.length:Int):=by omega
 simp only [uG] at h0;simp [lF,-J,-y4,-y3,y0,h0,c1,c2];refine RA l.length (fun i s=>A5 s0.next s0 dn l i s) (fun e s=>e=.exit 0/\A5 s0.next s0 dn l l.length s) (fun i hi s k' h ih zc=>?_) _ _ ?_ (fun e s h=>?_)
 ·refine iA ?_;rw [of_L2];by_cases fa:i<l.length
  ·have ji:=WB (i:=i);simp [-J,-y4,-y3,y0,h.e4,h.e6,fa];refine head_ev hl hM hP hG hG' fa (h.toJ.toI (fun t ht h6=>?_) ?_ ?_ ?_) (fun s' hj=>?_)
   ·have q:∀ c,9<=c->¬ t=c:=fun c hc=>by omega
    simp [q]
   ·simp [h.e6]
   ·try dsimp only
    repeat (first | exact h.lowE.mono (by omega) | refine lB.put ?_ (fun _ _ _=>rfl))
   ·(try dsimp only); omega
   ·simp [-J,-y4,-y3,y0,hj.e6,ji];refine ih fa _ (hj.toI (fun t ht h6=>?_) ?_ ?_ ?_)
    ·have q:∀ c,9<=c->¬ t=c:=fun c hc=>by omega
     simp [q,h6]
    ·simp
    ·try dsimp only
     repeat (first | exact hj.lowE.mono (by omega) | refine lB.put ?_ (fun _ _ _=>rfl))
    ·(try dsimp only); omega
  ·have gj:i=l.length:=by omega
   subst gj;simp [-J,-y4,-y3,y0,h.e4,h.e6];refine zc _ _ ⟨rfl,h.toJ.toI (fun t ht h6=>?_) ?_ ?_ ?_⟩
   ·have q:∀ c,9<=c->¬ t=c:=fun c hc=>by omega
    simp [q]
   ·simp [h.e6]
   ·try dsimp only
    repeat (first | exact h.lowE.mono (by omega) | refine lB.put ?_ (fun _ _ _=>rfl))
   ·(try dsimp only); omega
 ·refine ⟨?_,?_,?_,⟨.ex,?_,N7 _⟩,?_,?_,?_,.inl ⟨rfl,.ex,?_,N7 _⟩,⟨?_,?_,?_,?_,?_⟩,?_,?_⟩
  all_goals first | (simp; done) | skip
  ·dsimp only
   repeat (first | exact RC.refl | refine RC.set ?_ (by omega))
  ·dsimp only; omega
  ·exact (((((hM.mono (by dsimp only; omega)).set dA).set dA).set dA))
  ·dsimp only
   repeat (first | exact hE.mono (by omega) | refine lB.put ?_ (fun _ _ _=>rfl) | refine lB.put ?_ (wD (by omega)))
 ·obtain ⟨rfl,h⟩:=h;obtain ⟨e1,m1,e2,⟨a2,m2,p2⟩,e4,e5,e6,m5,⟨cm,cg,co,cn,cl⟩,lowE,lt⟩:=h;rcases m5 with ⟨jg,_⟩ | ⟨N,L,jg,h5,mr,hN,ol,hLl,ub⟩
  ·omega
  simp [-J,-y4,-y3,y0,e5,h5,e2,m2];refine hk _ ⟨⟨?_,?_,?_,?_,?_⟩,?_,?_,?_,N,L,?_,mr,?_,?_,hLl,?_⟩
  ·exact cm.set (yj _)
  ·exact cg
  ·exact co
  ·dsimp only; omega
  ·exact (cl.mono (Nat.le_succ _)).set fun x hx=>by simp at hx; subst hx; exact OP (by omega)
  ·simp [e2]
  ·simp
  ·dsimp only; omega
  ·simp
  ·dsimp only; omega
  ·simp [ol]
  ·exact ub.keep (fun N _=>by simp) (by dsimp only; omega)
end
section
set_option maxHeartbeats 4000000
theorem of_bad {r:RV} {dn:Bool} {l:List fC} (hl:¬ (1<=l.length/\l.length<=5)) (s0:aA) (h0:(s0.env 0).v=.agg (uG dn l)) (hM:dL s0.next s0.mem) (k:Ex->aA->Option RV) (hk:∀ s',Calm s0.next s0 s'->(s'.env 2).v=.ptr 2 s0.next 0->(s'.env 3).v=.bool false->s'.mem 2 s0.next=some [⟨.sl true [],.no⟩]->k .ret s'=some r):lF.code.run (dF jA tA) (RJ jA tA) s0 k=some r:=by
 simp only [uG] at h0;by_cases c1:(l.length:Int)<1
 ·have th:l.length=0:=by omega
  have c1'':l=[]:=yM th;subst c1'';simp [lF,-J,-y4,-y3,y0,h0];refine hk _ ⟨?_,rfl,rfl,?_,?_⟩ ?_ ?_ ?_
  ·dsimp only
   repeat (first | exact RC.refl | refine RC.set ?_ (by omega))
  ·dsimp only; omega
  ·exact (((hM.mono (by dsimp only; omega)).set dA).set dA).set dA
  ·simp
  ·simp
  ·simp
 ·have c2:5<(l.length:Int):=by omega
  simp [lF,-J,-y4,-y3,y0,h0,c1,c2];refine hk _ ⟨?_,rfl,rfl,?_,?_⟩ ?_ ?_ ?_
  ·dsimp only
   repeat (first | exact RC.refl | refine RC.set ?_ (by omega))
  ·dsimp only; omega
  ·exact (((hM.mono (by dsimp only; omega)).set dA).set dA).set dA
  ·simp
  ·simp
  ·simp
end
theorem M2 {sz:Nat} {L:List (List AV)} (h:iB sz L=true) {k:Nat} {c:List AV} (hk:L[k]?=some c) :
  kA L=kA (L.take k)++(c.map (⟨·,.no⟩)++kA (L.drop (k + 1)))/\(kA (L.take k)).length=k * sz/\k<L.length/\c.length=sz:=by
 obtain ⟨fa,he⟩:=y9.1 hk;have h1:iB sz (L.take k)=true:=y6.2 fun x hx=>y6.1 h x (List.mem_of_mem_take hx)
 refine ⟨?_,?_,fa,?_⟩
 ·have:L=L.take k++(c :: L.drop (k + 1)):=by rw [<- he,<- yb fa,List.take_append_drop]
  have h2:=congrArg kA this;rw [cJ] at h2;rw [h2];simp [kA]
 ·rw [QH h1,yL,Nat.min_eq_left (by omega)]
 ·have:=y6.1 h c (yh hk);simpa using this
theorem row_join {L:List (List AV)} {k:Nat} (hk:k<L.length) (c:List AV):kA (L.take k)++(c.map (⟨·,.no⟩)++kA (L.drop (k + 1)))=kA (L.set k c):=by
 have:L.set k c=L.take k++(c :: L.drop (k + 1)):=by
  rw [List.set_eq_take_append_cons_drop,if_pos hk]
 rw [this,cJ];simp [kA]
section
variable {sz:Nat} {L:List (List AV)} (h:iB sz L=true) {k j:Nat} {c:List AV} (hk:L[k]?=some c)
include sz L h k j c hk
theorem row_get1 {v:AV} (hj:c[j]?=some v) (z:Nat):RB false z (k * sz + j) (kA L)=some ⟨v,.no⟩:=by
 obtain ⟨h1,h2,h3,h4⟩:=M2 h hk;obtain ⟨bi,_⟩:=y9.1 hj;rw [h1,qC,yQ (by omega),h2,Nat.add_sub_cancel_left,yG (by simpa using bi),yc,hj];rfl
theorem W8 (hj:j<c.length) {x:AV} (hx:x.leaf=true) (z:Nat):UA false z (k * sz + j) (kA L) x .no=some (kA (L.set k (c.set j x))):=by
 obtain ⟨h1,h2,h3,h4⟩:=M2 h hk;rw [<- row_join h3,h1];unfold UA;simp only [yA,if_false];rw [if_pos ⟨hx,by simp only [yz,yu,h2]; omega⟩];congr 1;rw [List.set_append_right (h:=by omega),h2,Nat.add_sub_cancel_left,List.set_append_left (h:=by simpa using hj),List.map_set]
end
theorem N2 (row:List wA) (sz off len:Nat):zE row sz off len=if row.all (fun x=>x.v.free0)=true then uH row sz off len else none:=by
 unfold zE uH;by_cases h1:off + len * sz<=row.length <;> by_cases h2:row.all (fun x=>x.v.free0)=true <;> simp only [h1,h2,true_and,false_and,and_true,and_false,if_true,if_false,yA]
theorem I1 {s:aA} {v:AV} (h:v.free0=true):AV.frz1 s v=v:=by
 cases v <;> first | rfl | (simp [AV.free0] at h; done)
theorem frz_row {s:aA} {t n sz c:Nat} {L:List (List AV)} (h:iB sz L=true) (hm:s.mem t n=some (kA L)) (hf:(L.map fun c=>c.map (AV.frz1 s)).flatten.all AV.free0=true):AV.frz0 s (.ref t n sz 0 L.length c)=.sl false (L.map fun c=>c.map (AV.frz1 s)):=by
 have hr:uH (kA L) sz 0 L.length=some L:=aG fun c hc=>by simpa using y6.1 h c hc
 simp only [AV.frz0,hm,J,N2];by_cases za:(kA L).all (fun x=>x.v.free0)=true
 ·rw [if_pos za,hr];have:(L.map fun c=>c.map (AV.frz1 s))=L.map id:=yw fun c hc=>by
   have:c.map (AV.frz1 s)=c.map id:=yw fun v hv=>I1 (by
    have:=y6.1 za ⟨v,.no⟩ (yp.2 ⟨v,List.mem_flatten.2 ⟨c,hc,hv⟩,rfl⟩);exact this)
   rwa [List.map_id] at this
  rw [this,List.map_id]
 ·rw [if_neg za];simp only [N4,hr,J];rw [if_pos hf]
def rwM (n:Nat) (a b:zB):Prop:=b.id=a.id/\b.name=a.name/\b.crit=a.crit/\(b=a\/(0<=b.ty/\b.ty<n/\b.has=false/\b.dflt=Vl.zero))
def rwL (n:Nat) (xs bs:List zB):Prop:=xs.length=bs.length/\∀ (i:Nat) a b,xs[i]?=some a->bs[i]?=some b->rwM n a b
theorem U8 (n:Nat) (xs:List zB):rwL n xs xs:=⟨rfl,fun i a b h h'=>by
 rw [h] at h';injection h' with h';subst h';exact ⟨rfl,rfl,rfl,.inl rfl⟩⟩
def zB.rewired (m:zB) (ty:Int):zB:=⟨m.id,m.name,ty,m.crit,false,Vl.zero⟩
theorem rwL_set {n:Nat} {xs bs:List zB} (h:rwL n xs bs) {k:Nat} {m:zB} (hk:bs[k]?=some m) {ty:Int} (h0:0<=ty) (h1:ty<n):rwL n xs (bs.set k (m.rewired ty)):=by
 obtain ⟨hl,h⟩:=h;refine ⟨by simpa using hl,fun i a b ha hb=>?_⟩;rw [List.getElem?_set] at hb;split at hb
 ·rename_i e;subst e;split at hb
  ·injection hb with hb;subst hb;obtain ⟨g1,g2,g3,_⟩:=h k a m ha hk;exact ⟨g1,g2,g3,.inr ⟨h0,h1,rfl,rfl⟩⟩
  ·cases hb
 ·exact h i a b ha hb
def MemsR (n:Nat) (xs:List zB) (c:AV) (s:aA):Prop :=
 (xs=[]/\c=.sl true [])\/∃ N bs,xs≠[]/\rwL n xs bs/\c=.ref 88 N 13 0 xs.length xs.length/\s.mem 88 N=some (kA (bs.map nA))
def BR (n:Nat) (S:List pA) (L:List (List AV)) (s:aA):Prop:=S.length=L.length/\∀ (i:Nat) (t:pA) (c:List AV),S[i]?=some t->L[i]?=some c->∃ m,c=nF t m/\MemsR n t.mems m s
theorem LI.toR {S:List pA} {L:List (List AV)} {s:aA} (h:LI S L s) (n:Nat):BR n S L s:=⟨h.1,fun i t c ht hc=>by
 obtain ⟨m,h1,h2⟩:=h.2 i t c ht hc;refine ⟨m,h1,?_⟩;rcases h2 with h2 | ⟨N,g1,_,g3,g4⟩
 ·exact .inl h2
 ·exact .inr ⟨N,_,g1,U8 n _,g3,g4⟩⟩
theorem BR.els {n:Nat} {S:List pA} {L:List (List AV)} {s:aA} (h:BR n S L s):iB 10 L=true:=by
 refine y6.2 fun c hc=>?_
 obtain ⟨i,hi,rfl⟩:=yq hc;have ia:=h.1;obtain ⟨m,h1,_⟩:=h.2 i S[i] L[i] (y5 (by omega)) (y5 hi);rw [h1];rfl
theorem BR.keep {n:Nat} {S:List pA} {L:List (List AV)} {s s':aA} (h:BR n S L s) (hm:∀ N,s'.mem 88 N=s.mem 88 N):BR n S L s':=⟨h.1,fun i t c ht hc=>by
 obtain ⟨m,h1,h2⟩:=h.2 i t c ht hc;refine ⟨m,h1,?_⟩;rcases h2 with h2 | ⟨N,bs,g1,g2,g3,g4⟩
 ·exact .inl h2
 ·exact .inr ⟨N,bs,g1,g2,g3,(hm N).trans g4⟩⟩
theorem memC_inj {a b:List zB} (h:kA (a.map nA)=kA (b.map nA)) (hl:a.length=b.length):a.map nA=b.map nA:=by
 have h1:=aG (sz:=13) (L:=a.map nA) (by simp [nA]);have h2:=aG (sz:=13) (L:=b.map nA) (by simp [nA]);rw [h] at h1;simp only [yu] at h1 h2;rw [hl,h2] at h1;injection h1 with h1;exact h1.symm
theorem BR.store {n:Nat} {S:List pA} {L:List (List AV)} {s s':aA} (h:BR n S L s) {N k:Nat} {bs:List zB} {m:zB} (hN:s.mem 88 N=some (kA (bs.map nA))) (hk:bs[k]?=some m) {ty:Int} (h0:0<=ty) (h1:ty<n) (hm:∀ N',s'.mem 88 N'=if N'=N then some (kA ((bs.set k (m.rewired ty)).map nA)) else s.mem 88 N'):BR n S L s':=⟨h.1,fun i t c ht hc=>by
 obtain ⟨m',g1,g2⟩:=h.2 i t c ht hc;refine ⟨m',g1,?_⟩;rcases g2 with g2 | ⟨N',kz,g2,g3,g4,g5⟩
 ·exact .inl g2
 ·by_cases e:N'=N
  ·subst e;rw [hN] at g5;injection g5 with g5;have ia:bs.length=kz.length:=by
    have e1:=congrArg List.length g5;rw [QH (cW _),QH (cW _)] at e1;simp only [yu] at e1;omega
   have xm:=memC_inj g5 ia;have zc:k<kz.length:=by rw [<- ia]; exact (y9.1 hk).1
   have hkm:nA kz[k]=nA m:=by
    have:=congrArg (·[k]?) xm;simp only [yc,hk,y5 zc,yr,Option.some.injEq] at this;exact this.symm
   refine .inr ⟨N',kz.set k (kz[k].rewired ty),g2,rwL_set g3 (y5 zc) h0 h1,g4,?_⟩;rw [hm,if_pos rfl,List.map_set,List.map_set,xm];have:nA (m.rewired ty)=nA (kz[k].rewired ty):=by
    simp only [nA,List.cons.injEq,AV.int.injEq,AV.str.injEq,AV.bool.injEq,true_and] at hkm;simp only [nA,zB.rewired,hkm.1,hkm.2.1,hkm.2.2.2.1]
   rw [this]
  ·exact .inr ⟨N',kz,g2,g3,g4,by rw [hm,if_neg e]; exact g5⟩⟩
def rwT (n:Nat) (a b:pA):Prop:=∃ bs,rwL n a.mems bs/\b={ a with mn:=bs.isEmpty,mems:=bs }
def rwS (n:Nat) (S T:List pA):Prop:=S.length=T.length/\∀ (i:Nat) a b,S[i]?=some a->T[i]?=some b->rwT n a b
section
set_option maxHeartbeats 4000000
structure Wire where
 ty:Int
 mem:Int
 to:Int
def Wire.ok (w:Wire):Prop:=u8 w.ty/\u8 w.mem/\u8 w.to
theorem PW.set {m:Nat} {M:Nat->Nat->Option (List wA)} (h:PW m M) {t n:Nat} {r:List wA} (hr:∀ x∈r,dM x):PW m (XY M t n r):=fun t' n' r' hn he=>by
 rw [uB] at he;split at he
 ·injection he with he; subst he; exact hr
 ·exact h t' n' r' hn he
theorem QM.put {e:Nat->wA} (h:QM e) {d:Nat} {x:wA} (hx:dM x):QM (putE e d x):=fun t=>by
 rw [nH];split
 ·exact hx
 ·exact h t
theorem QM.wait {nt:Nat} {e g:Nat->wA} (h:QM e) (h':QM g):QM (aZ nt e g):=fun t=>by
 rw [QE];split
 ·exact h t
 ·exact h' _
end
end Go.Proofs.YtbhbeakhognieaaGreat
