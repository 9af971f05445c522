/- A part of the proof. -/
import Derived.Test.YtbnlmgncbgaepaaGreatTf
set_option linter.all false
set_option maxRecDepth 100000
set_option maxHeartbeats 8000000
open Option renaming bind_some → V, map_eq_some_iff → yj, map_some → yx
open List renaming range_succ → y0, map_map → y3, getElem?_eq_getElem → y5, all_eq_true → y6, getElem_mem → y7, drop_eq_getElem_cons → y8, drop_eq_nil_of_le → yc, getElem?_map → ye, getElem?_eq_some_iff → yf, map_cons → yg, mem_cons → yh, map_nil → yk, mem_of_getElem? → yl, mem_cons_self → ym, mem_cons_of_mem → yo, mem_append → yp, length_map → yq, map_congr_left → yr, mem_map → yu, length_append → yy, getElem_of_mem → yz, take_of_length_le → yC, flatten_cons → yD, take_append_getElem → yE, length_take → yF, not_mem_nil → yH, length_cons → yI, getElem?_append_left → yL, map_append → yM, eq_nil_of_length_eq_zero → yO, getElem?_append_right → yR, mem_singleton → yS, getElem?_eq_none → yZ
open Int renaming toNat_lt → y4, tmod_eq_emod_of_nonneg → yw, emod_nonneg → yK, emod_lt_of_pos → yN
open Bool renaming and_eq_true → y9, false_eq_true → yt
open Nat renaming le_refl → yn, succ_mul → yA, zero_add → yG, eq_zero_or_pos → yJ
namespace Go.Proofs.YtbnlmgncbgaepaaGreat
open Go
structure dQ where
 id:Int
 ty:Int
 flag:Int
structure jC where
 k:Int
 a:Int
 b:Int
 c:Int
 pn:Bool
 parts:List dQ
def HD (x:dQ):List AV:=[.int .u8 x.id,.int .u8 x.ty,.int .u8 x.flag]
def CC (x:jC):List AV:=[.int .u8 x.k,.int .u8 x.a,.int .u8 x.b,.int .u8 x.c,.sl x.pn (x.parts.map HD)]
def FF (n:Bool) (l:List jC):List AV:=[.sl n (l.map CC)]
def u8 (n:Int):Prop:=0<=n/\n<=255
def dQ.ok (x:dQ):Prop:=u8 x.id/\u8 x.ty/\u8 x.flag
def jC.ok (x:jC):Prop:=u8 x.k/\u8 x.a/\u8 x.b/\u8 x.c/\x.parts.length<=9223372036854775807/\∀ p∈x.parts,p.ok
def jC.kind (x:jC):Int:=1 + x.k % 9
def jC.low (x:jC):Int:=x.a % 7 - 3
def jC.high (x:jC):Int:=x.low + x.b % 6
theorem R8 {x:jC} (h:x.ok):1<=x.kind/\x.kind<=9:=by
 obtain ⟨⟨h1,h2⟩,_⟩:=h;simp only [jC.kind];omega
theorem u8_mod (n m:Int) (h:u8 n) (hm:0<m) (lj:m<=255):n.tmod m=n % m/\IntKind.u8.wrap (n % m)=n % m:=by
 obtain ⟨h1,h2⟩:=h;have e:=yw h1 (b:=m);have g1:=yK n (b:=m) (by omega);have g2:=yN n hm;refine ⟨e,?_⟩;simp only [IntKind.wrap,IntKind.bits,IntKind.signed];simp;omega
theorem kind_ev (dn:Bool) (l:List jC) (z:Int) (x:jC) (hz:0<=z) (h:l[z.toNat]?=some x) (hx:x.ok):fA 87 [.agg (FF dn l),.int .i64 z] (.int .i64 x.kind):=by
 refine rA (c:=TL) rfl rfl ?_;have g:(l.map CC)[z.toNat]?=some (CC x):=by simp [h]
 obtain ⟨e1,e2⟩:=u8_mod x.k 9 hx.1 (by omega) (by omega);simp only [CC] at g;simp [TL,FF,-V,-y4,-y3,y0,g,hz,e1];have:=hx.1;simp only [u8] at this;rw [IntWalk.i64_in (x.k % 9) (by omega),IntWalk.i64_in _ (by omega)];rfl
theorem Z0 (k:Int):fA 172 [.int .i64 k] (.bool (decide (7<=k))):=by
 refine rA (c:=eJ) rfl rfl ?_;simp [eJ,-V,-y4,-y3,y0]
theorem low_ev (x:jC) (hx:x.ok):fA 89 [.agg (CC x)] (.int .i64 x.low):=by
 refine rA (c:=MM) rfl rfl ?_;obtain ⟨e1,e2⟩:=u8_mod x.a 7 hx.2.1 (by omega) (by omega);simp [MM,CC,-V,-y4,-y3,y0,e1];rw [IntWalk.i64_in (x.a % 7) (by omega),IntWalk.i64_in _ (by omega)];rfl
theorem high_ev (x:jC) (hx:x.ok):fA 90 [.agg (CC x)] (.int .i64 x.high):=by
 refine rA (c:=RL) rfl rfl ?_;obtain ⟨e1,e2⟩:=u8_mod x.b 6 hx.2.2.1 (by omega) (by omega);have:=low_ev x hx;simp only [CC] at this;simp [RL,CC,-V,-y4,-y3,y0,e1,this];rw [IntWalk.i64_in (x.b % 6) (by omega),IntWalk.i64_in _ (by simp only [jC.low]; omega)];rfl
def bitZ (a:Int) (i:Nat):Bool:=decide (a / 2 ^ i % 2=1)
def RW (a:Int):Nat->List Int
 | 0=>[]
 | i + 1=>RW a i++if bitZ a i then [((i + 1:Nat):Int)] else []
def aF (a:Int):List Int:=if RW a 6=[] then [1] else RW a 6
def wL (n:Int):List AV:=[.int .i64 n]
theorem TW (a:Int):∀ i,(RW a i).length<=i
 | 0=>yn _
 | i + 1=>by
  have:=TW a i;rw [RW,yy];split <;> simp <;> omega
theorem els_int (l:List Int):lB 1 (l.map wL)=true:=lC _ _ _ fun _=>rfl
theorem ids7_ev (x:jC) (hx:x.ok):fA 91 [.agg (CC x)] (.sl false ((aF x.a).map wL)):=by
 refine rA (c:=BM) rfl rfl ?_;obtain ⟨hk,ha,hb,hc,hp,hpp⟩:=hx;obtain ⟨ha1,ha2⟩:=ha;simp [BM,CC,-V,-y4,-y3,y0];refine gA 6 (fun i s=>(s.env 1).v=.ptr 1 1 0/\s.mem 1 1=some [⟨.int .u8 x.k,.no⟩,⟨.int .u8 x.a,.no⟩,⟨.int .u8 x.b,.no⟩,⟨.int .u8 x.c,.no⟩,⟨.sl x.pn (x.parts.map HD),.no⟩]/\(s.env 4).v=.int .i64 i/\(s.env 3).v=.sl (RW x.a i).isEmpty ((RW x.a i).map wL)/\(RW x.a i=[]/\(s.env 3).a=.ex\/¬ RW x.a i=[]/\(s.env 3).a=.own 19 3))
  (fun e s=>e=.exit 0/\(s.env 3).v=.sl (RW x.a 6).isEmpty ((RW x.a 6).map wL)/\(RW x.a 6=[]/\(s.env 3).a=.ex\/¬ RW x.a 6=[]/\(s.env 3).a=.own 19 3)) (fun i hi s k h ih hk=>?_) _ _ ?_ (fun e s h=>?_)
 ·obtain ⟨e1,m1,e4,e3,an⟩:=h;refine tA ?_;by_cases fa:i<6
  ·have ga:(i:Int)<6:=by omega
   have hsh:shN .u8 i=i:=by simp [shN,IntKind.bits]; omega
   have hy:x.a.fdiv (2 ^ i)=x.a / 2 ^ i:=Int.fdiv_eq_ediv_of_nonneg _ (Int.pow_nonneg (by omega));have rh:0<=x.a / 2 ^ i:=Int.ediv_nonneg ha1 (Int.pow_nonneg (by omega));have hm:(x.a / 2 ^ i).tmod 2=x.a / 2 ^ i % 2:=yw rh;have mg:=GA (i:=i);have hl:=TW x.a i;have ja:kB 8 ((RW x.a i).length + 1)=true:=by rw [PA]; omega
   have td:=els_int (RW x.a i);have et:RW x.a (i + 1)=RW x.a i++if bitZ x.a i then [((i + 1:Nat):Int)] else []:=rfl
   have hb:bitZ x.a i=decide (x.a / 2 ^ i % 2=1):=rfl;generalize hI:RW x.a i=L at *
   generalize hJ:RW x.a (i + 1)=L' at *
   generalize x.a / 2 ^ i=y at *
   by_cases c:y % 2=1
   ·rcases an with ⟨a0,a3⟩ | ⟨a0,a3⟩
    ·subst a0;have ff:kB 8 1=true:=by rw [PA]; omega
     simp [ZG,-V,-y4,-y3,y0,e1,m1,e4,e3,a3,ga,hsh,hy,hm,mg,c,ff];refine ih fa _ ⟨?_,?_,?_,?_,?_⟩ <;> simp [e1,m1,et,hb,c,wL,An.strip]
    ·have hem:L.isEmpty=false:=by
      cases L with
      | nil=>exact absurd rfl a0
      | cons=>rfl
     rw [hem] at e3;simp [ZG,-V,-y4,-y3,y0,e1,m1,e4,e3,a0,a3,ga,hsh,hy,hm,mg,c,ja,td];refine ih fa _ ⟨?_,?_,?_,?_,?_⟩ <;> simp [e1,m1,et,hb,c,wL,An.strip]
   ·simp [ZG,-V,-y4,-y3,y0,e1,m1,e4,e3,ga,hsh,hy,hm,mg,c];refine ih fa _ ⟨?_,?_,?_,?_,?_⟩ <;> simp [e1,m1,e3,an,et,hb,c,wL,An.strip]
  ·have hi6:i=6:=by omega
   subst hi6;simp [ZG,-V,-y4,-y3,y0,e4];exact hk _ _ ⟨rfl,by simpa using e3,by simpa using an⟩
 ·simp [RW]
 ·obtain ⟨rfl,e3,an⟩:=h;have hl:=TW x.a 6;generalize hI:RW x.a 6=L at *
  rcases an with ⟨a0,a3⟩ | ⟨a0,a3⟩
  ·subst a0;have ff:kB 8 1=true:=by rw [PA]; omega
   simp [-V,-y4,-y3,y0,e3,a3,ff,aF,hI,wL]
  ·simp [-V,-y4,-y3,y0,e3,a3,a0,aF,hI]
def fC (l:List jC) (z:Int):Int:=match l[z.toNat]? with
 | some x=>x.kind
 | none=>0
def oks (l:List jC):Prop:=1<=l.length/\l.length<=5/\∀ x∈l,x.ok
theorem cH {dn:Bool} {l:List jC} (hl:oks l) {z:Int} (h0:0<=z) (h1:z<l.length):fA 87 [.agg (FF dn l),.int .i64 z] (.int .i64 (fC l z)):=by
 have fa:z.toNat<l.length:=by omega
 have g:l[z.toNat]?=some l[z.toNat]:=y5 fa;have:=kind_ev dn l z _ h0 g (hl.2.2 _ (y7 fa));rw [fC,g];exact this
theorem W8 {l:List jC} (hl:oks l) {z:Int} (h0:0<=z) (h1:z<l.length):1<=fC l z/\fC l z<=9:=by
 have fa:z.toNat<l.length:=by omega
 have g:l[z.toNat]?=some l[z.toNat]:=y5 fa;rw [fC,g];exact R8 (hl.2.2 _ (y7 fa))
def TV (k:Int):Bool:=decide (1<=k/\k<=4)
def rG (l:List jC) (code:Int):Nat->Nat->Int
 | 0,_=>-1
 | n + 1,k=>if TV (fC l ((code + k) % l.length))=true then (code + k) % l.length else rG l code n (k + 1)
def gK (l:List jC) (code:Int):Int:=rG l code l.length 0
theorem UP {l:List jC} (hl:oks l) (code:Int):∀ n k,-1<=rG l code n k/\rG l code n k<l.length
 | 0,k=>by have:=hl.1; simp only [rG]; omega
 | n + 1,k=>by
  have hp:=hl.1;have h1:=yK (code + k) (b:=(l.length:Int)) (by omega);have h2:=yN (code + k) (b:=(l.length:Int)) (by omega);have:=UP hl code n (k + 1);simp only [rG];split <;> omega
theorem key_ev (dn:Bool) (l:List jC) (hl:oks l) (code:Int) (hc:u8 code):fA 93 [.agg (FF dn l),.int .u8 code] (.int .i64 (gK l code)):=by
 refine rA (c:=NM) rfl rfl ?_;obtain ⟨hc0,wq⟩:=hc;have hN:=hl.1;have hN5:=hl.2.1;have tb:=fun z h0 h1=>cH (dn:=dn) hl (z:=z) h0 h1
 simp only [fA,FF] at tb ⊢;simp [NM,-V,-y4,-y3,y0];refine gA l.length (fun i s=>(s.env 2).v=.ptr 2 1 0/\s.mem 2 1=some [⟨.sl dn (l.map CC),.no⟩]/\(s.env 1).v=.int .u8 code/\(s.env 5).v=.int .i64 l.length/\(s.env 6).v=.int .i64 i/\rG l code (l.length - i) i=gK l code)
  (fun e s=>(e=.exit 0/\gK l code=-1)\/(e=.ret/\(s.env 4).v=.int .i64 (gK l code))) (fun i hi s k h ih hk=>?_) _ _ ?_ (fun e s h=>?_)
 ·obtain ⟨e2,m2,e1,e5,e6,hs⟩:=h;refine tA ?_;by_cases fa:i<l.length
  ·have ga:(i:Int)<l.length:=by omega
   have mg:=GA (i:=i);have gk:IntKind.i64.wrap code=code:=IntWalk.i64_in _ (by omega);have hwa:IntKind.i64.wrap (code + i)=code + i:=IntWalk.i64_in _ (by omega);have hm:(code + (i:Int)).tmod l.length=(code + i) % l.length:=yw (by omega);have gc:=yK (code + i) (b:=(l.length:Int)) (by omega);have tn:=yN (code + i) (b:=(l.length:Int)) (by omega);have io:¬ (l.length:Int)=0:=by omega
   have rb:=tb _ gc tn;rw [show l.length - i=l.length - (i + 1) + 1 from by omega,rG] at hs;generalize (code + (i:Int)) % l.length=z at *
   have dc:=RX (fC l z);rw [show decide (1<=fC l z/\fC l z<=4)=TV (fC l z) from rfl] at dc;obtain ⟨N,ji⟩:∃ N:Int,N=l.length:=⟨_,rfl⟩;rw [<- ji] at e5 ga hm io;cases hb:TV (fC l z) with
   | true =>
    rw [hb] at dc;rw [if_pos hb] at hs;simp [rJ,-V,-y4,-y3,y0,e2,m2,e1,e5,e6,ga,gk,hwa,hm,io,rb,dc];exact hk _ _ (.inr ⟨rfl,by simp [hs]⟩)
   | false =>
    rw [hb] at dc;rw [hb,if_neg (by decide)] at hs;simp [rJ,-V,-y4,-y3,y0,e2,m2,e1,e5,e6,ga,gk,hwa,hm,io,rb,dc,mg];refine ih fa _ ⟨?_,?_,?_,?_,?_,hs⟩ <;> simp [e2,m2,e1,e5,ji]
  ·have ga:¬ (i:Int)<l.length:=by omega
   simp [rJ,-V,-y4,-y3,y0,e5,e6,ga];refine hk _ _ (.inl ⟨rfl,?_⟩);rw [<- hs,show l.length - i=0 from by omega,rG]
 ·simp [gK]
 ·rcases h with ⟨rfl,h1⟩ | ⟨rfl,h1⟩ <;> simp [-V,-y4,-y3,y0,h1]
def RF (l:List jC):Nat->Nat->Int
 | 0,_=>-1
 | n + 1,k=>if 7<=fC l k then k else RF l n (k + 1)
def SI (l:List jC) (i code:Int):Int:=if 7<=fC l (code % l.length)\/code % l.length<i then code % l.length else if 0<i then code % l.length % i else RF l l.length 0
theorem EV {l:List jC} (hl:oks l):∀ n k,n + k<=l.length->-1<=RF l n k/\RF l n k<l.length
 | 0,k,_=>by have:=hl.1; simp only [RF]; omega
 | n + 1,k,h=>by
  have:=EV hl n (k + 1) (by omega);simp only [RF];split <;> omega
theorem iQ {l:List jC} (hl:oks l) (i code:Int) (hi:i<l.length):-1<=SI l i code/\SI l i code<l.length:=by
 have hp:=hl.1;have h1:=yK code (b:=(l.length:Int)) (by omega);have h2:=yN code (b:=(l.length:Int)) (by omega);have h3:=EV hl l.length 0 (by omega);simp only [SI];split
 ·omega
 ·split
  ·rename_i h;have h4:=yK (code % l.length) (b:=i) (by omega);have h5:=yN (code % l.length) h;omega
  ·exact h3
theorem target_ev (dn:Bool) (l:List jC) (hl:oks l) (i0:Int) (ri:0<=i0) (oe:i0<l.length) (code:Int) (hc:u8 code):fA 141 [.agg (FF dn l),.int .i64 i0,.int .u8 code] (.int .i64 (SI l i0 code)):=by
 refine rA (c:=OE) rfl rfl ?_;obtain ⟨hc0,wq⟩:=hc;have hN:=hl.1;have hN5:=hl.2.1;have tb:=fun z h0 h1=>cH (dn:=dn) hl (z:=z) h0 h1
 simp only [fA,FF] at tb ⊢;have gc:=yK code (b:=(l.length:Int)) (by omega);have tn:=yN code (b:=(l.length:Int)) (by omega);have gk:IntKind.i64.wrap code=code:=IntWalk.i64_in _ (by omega);have hm:code.tmod l.length=code % l.length:=yw (by omega);have io:¬ (l.length:Int)=0:=by omega
 have fh:¬ l=[]:=by intro e; rw [e] at hN; simp at hN
 have rb:=tb _ gc tn;unfold SI;generalize code % (l.length:Int)=z at *
 have hh:=Z0 (fC l z);have hmi:0<i0->z.tmod i0=z % i0:=fun _=>yw gc
 by_cases c1:7<=fC l z
 ·simp [OE,-V,-y4,-y3,y0,gk,hm,fh,rb,hh,c1]
 ·rw [decide_eq_false c1] at hh;by_cases c2:z<i0
  ·simp [OE,-V,-y4,-y3,y0,gk,hm,fh,rb,hh,c1,c2]
  ·by_cases c3:0<i0
   ·simp [OE,-V,-y4,-y3,y0,gk,hm,fh,rb,hh,c1,c2,c3,hmi c3,show ¬ i0=0 from by omega]
   ·simp [OE,-V,-y4,-y3,y0,gk,hm,fh,rb,hh,c1,c2,c3];clear rb hh c1 c2;refine gA l.length (fun i s=>(s.env 3).v=.ptr 3 1 0/\s.mem 3 1=some [⟨.sl dn (l.map CC),.no⟩]/\(s.env 7).v=.int .i64 l.length/\(s.env 9).v=.int .i64 i/\RF l (l.length - i) i=RF l l.length 0)
     (fun e s=>(e=.exit 0/\RF l l.length 0=-1)\/(e=.ret/\(s.env 6).v=.int .i64 (RF l l.length 0))) (fun i hi s k h ih hk=>?_) _ _ ?_ (fun e s h=>?_)
    ·obtain ⟨e3,m3,e7,e9,hs⟩:=h;refine tA ?_;by_cases fa:i<l.length
     ·have ga:(i:Int)<l.length:=by omega
      have mg:=GA (i:=i);have rb:=tb i (by omega) ga;rw [show l.length - i=l.length - (i + 1) + 1 from by omega,RF] at hs;have hh:=Z0 (fC l i);by_cases hb:7<=fC l i
      ·rw [decide_eq_true hb] at hh;rw [if_pos hb] at hs;simp [OG,-V,-y4,-y3,y0,e3,m3,e7,e9,fa,rb,hh];exact hk _ _ (.inr ⟨rfl,by simp [hs]⟩)
      ·rw [decide_eq_false hb] at hh;rw [if_neg hb] at hs;simp [OG,-V,-y4,-y3,y0,e3,m3,e7,e9,fa,rb,hh,mg];refine ih fa _ ⟨?_,?_,?_,?_,hs⟩ <;> simp [e3,m3,e7]
     ·have ga:¬ (i:Int)<l.length:=by omega
      simp [OG,-V,-y4,-y3,y0,e7,e9,fa];refine hk _ _ (.inl ⟨rfl,?_⟩);rw [<- hs,show l.length - i=0 from by omega,RF]
    ·simp
    ·rcases h with ⟨rfl,h1⟩ | ⟨rfl,h1⟩ <;> simp [-V,-y4,-y3,y0,h1]
section
set_option maxHeartbeats 2000000
def Vl.of (k:Int) (b:Bool) (i:Int) (s:ByteArray) (d:Int):Vl:=.mk k b i s d true [] true [] true []
theorem JA (k:Int) (b:Bool) (i:Int) (s:ByteArray) (d:Int):lA (.of k b i s d)=[.int .i64 k,.bool b,.int .i64 i,.str s,.int .i64 d,.sl true [],.sl true [],.sl true []]:=by
 rw [uA];rfl
def FA (l:List jC) (z:Int):jC:=match l[z.toNat]? with
 | some x=>x
 | none=>⟨0,0,0,0,true,[]⟩
def inK (l:List jC) (t:Int):Int:=if fC l t=8/\gK l 0<0 then 7 else fC l t
def idAt (a code:Int):Int:=(aF a)[(code % (aF a).length).toNat]?.getD 0
def NJ (l:List jC) (t code:Int):Vl × Bool :=
 if fC l t=5\/fC l t=6 then (.of 0 false 0 ⟨#[]⟩ 0,false) else
 (.of (inK l t) (decide (fC l t=1/\code % 2=1)) (if fC l t=2 then (FA l t).low + code % ((FA l t).b % 6 + 1) else 0) (if fC l t=3/\0<(FA l t).a % 4/\code % 2=1 then ⟨#[97]⟩ else ⟨#[]⟩) (if fC l t=4 then idAt (FA l t).a code else 0),true)
theorem KS (a:Int):1<=(aF a).length/\(aF a).length<=6:=by
 have:=TW a 6;unfold aF;split
 ·simp
 ·rename_i h;refine ⟨?_,this⟩;cases h2:RW a 6 with
  | nil=>exact absurd h2 h
  | cons=>simp
theorem initial_ev (dn:Bool) (l:List jC) (hl:oks l) (t:Int) (lb:0<=t) (wa:t<l.length) (code:Int) (hc:u8 code):fA 142 [.agg (FF dn l),.int .i64 t,.int .u8 code] (.tup [.agg (lA (NJ l t code).1),.bool (NJ l t code).2]):=by
 refine rA (c:=FB) rfl rfl ?_;have tb:=cH (dn:=dn) hl lb wa;have pu:=W8 hl lb wa;have dc:=key_ev dn l hl 0 ⟨by omega,by omega⟩;have fa:t.toNat<l.length:=by omega
 have g:l[t.toNat]?=some l[t.toNat]:=y5 fa;have hx:(FA l t).ok:=by rw [FA,g]; exact hl.2.2 _ (y7 fa)
 have gm:(l.map CC)[t.toNat]?=some (CC (FA l t)):=by rw [FA,g]; simp [g]
 obtain ⟨hc0,wq⟩:=hc;unfold NJ inK;generalize FA l t=x at *
 generalize fC l t=kk at *
 have pe:=low_ev x hx;have jk:=high_ev x hx;have ug:=ids7_ev x hx;have hlr:-3<=x.low/\x.low<=3:=by have:=hx.2.1; simp only [jC.low,u8] at *; omega
 have hhr:x.low<=x.high/\x.high<=x.low + 5:=by have:=hx.2.2.1; simp only [jC.high,u8] at *; omega
 have hd:x.high - x.low + 1=x.b % 6 + 1:=by simp only [jC.high]; omega
 have gk:IntKind.i64.wrap code=code:=IntWalk.i64_in _ (by omega);have hws:IntKind.i64.wrap (x.high - x.low)=x.high - x.low:=IntWalk.i64_in _ (by omega);have hws1:IntKind.i64.wrap (x.high - x.low + 1)=x.high - x.low + 1:=IntWalk.i64_in _ (by omega);have hm:code.tmod (x.high - x.low + 1)=code % (x.b % 6 + 1):=by rw [hd]; exact yw hc0
 have hmz:=yK code (b:=x.b % 6 + 1) (by omega);have su:=yN code (b:=x.b % 6 + 1) (by omega);have hwl:IntKind.i64.wrap (x.low + code % (x.b % 6 + 1))=x.low + code % (x.b % 6 + 1):=IntWalk.i64_in _ (by omega);have la:¬ x.high - x.low + 1=0:=by omega
 have lj:code.tmod 2=code % 2:=yw hc0;have kv:x.a.tmod 4=x.a % 4:=yw hx.2.1.1;simp only [fA,FF,CC] at tb dc gm pe jk ug ⊢;have hk:kk=1\/kk=2\/kk=3\/kk=4\/kk=5\/kk=6\/kk=7\/kk=8\/kk=9:=by omega
 rcases hk with rfl | rfl | rfl | rfl | rfl | rfl | rfl | rfl | rfl
 ·simp [FB,-V,-y4,-y3,y0,gm,lb,tb,lj,JA]
 ·generalize code % (x.b % 6 + 1)=y at *
  simp [FB,-V,-y4,-y3,y0,gm,lb,tb,JA,pe,jk,gk,hws,hws1,hm,la,hwl]
 ·by_cases c1:0<x.a % 4 <;> by_cases c2:code % 2=1 <;> simp [FB,-V,-y4,-y3,y0,gm,lb,tb,lj,kv,c1,c2,JA]
 ·have rp:=KS x.a;have hmi:code.tmod (aF x.a).length=code % (aF x.a).length:=yw hc0;have gc:=yK code (b:=((aF x.a).length:Int)) (by omega);have tn:=yN code (b:=((aF x.a).length:Int)) (by omega);have fh:¬ ((aF x.a).length:Int)=0:=by omega
  unfold idAt;generalize code % ((aF x.a).length:Int)=z at *
  have gz:(aF x.a)[z.toNat]?=some (aF x.a)[z.toNat]:=y5 (by omega);have gi:((aF x.a).map wL)[z.toNat]?=some [.int .i64 (aF x.a)[z.toNat]]:=by rw [ye,gz]; rfl
  rw [gz];generalize (aF x.a)[z.toNat]=y at *
  have hlm:((aF x.a).map wL).length=(aF x.a).length:=by simp
  generalize (aF x.a).map wL=M at *
  obtain ⟨N,hN⟩:∃ N:Int,N=(aF x.a).length:=⟨_,rfl⟩;rw [<- hN] at hmi fh;simp [FB,-V,-y4,-y3,y0,gm,lb,tb,JA,ug,gk,hlm,<- hN,hmi,fh,gc,gi]
 ·simp [FB,-V,-y4,-y3,y0,gm,lb,tb,JA]
 ·simp [FB,-V,-y4,-y3,y0,gm,lb,tb,JA]
 ·simp [FB,-V,-y4,-y3,y0,gm,lb,tb,JA]
 ·by_cases c1:gK l 0<0 <;> simp [FB,-V,-y4,-y3,y0,gm,lb,tb,dc,c1,JA]
 ·simp [FB,-V,-y4,-y3,y0,gm,lb,tb,JA]
end
def D8 (m:Nat) (v:AV):Prop:=∀ t n,m<=n->v.kill0 t n=v
def lowV (m:Nat) (v:AV):Prop:=∀ t n,m<=n->v.kill t n=v
theorem JI {m m':Nat} (h:m<=m') {v:AV} (hv:lowV m v):lowV m' v:=fun t n hn=>hv t n (Nat.le_trans h hn)
theorem low0_ptr {m t n o:Nat} (h:n<m):D8 m (.ptr t n o):=fun t' n' h'=>by simp only [AV.kill0]; rw [if_neg (by omega)]
theorem F8 {m t n z o l c:Nat} (h:n<m):D8 m (.ref t n z o l c):=fun t' n' h'=>by simp only [AV.kill0]; rw [if_neg (by omega)]
theorem cQ {m:Nat} {v:AV} (h:v.free0=true):D8 m v:=fun t n _=>UX h t n
theorem SN {m:Nat} {v:AV} (h:v.free=true):lowV m v:=fun t n _=>P1 h t n
theorem lowV_of {m:Nat} {v:AV} (h:D8 m v):(v.leaf=true)->lowV m v:=fun hl t n hn=>by
 have:=h t n hn;cases v <;> first | exact this | (simp [AV.leaf] at hl; done)
theorem SX {m:Nat} {cs:List AV} (h:∀ c∈cs,D8 m c):lowV m (.agg cs):=fun t n hn=>by
 have:cs.map (AV.kill0 t n)=cs.map id:=yr fun c hc=>h c hc t n hn
 rw [List.map_id] at this;exact congrArg AV.agg this
theorem eD {m t n o:Nat} (h:n<m):lowV m (.ptr t n o):=low0_ptr h
theorem SP {m t n z o l c:Nat} (h:n<m):lowV m (.ref t n z o l c):=F8 h
theorem D1 {m t n:Nat} (hn:m<=n) {v:AV} (hv:lowV m v):v.kill t n=v:=hv t n hn
theorem kill0_comm (v:AV) (t n t' n':Nat):(v.kill0 t n).kill0 t' n'=(v.kill0 t' n').kill0 t n:=by
 cases v with
 | ptr a b o=>by_cases h1:(a=t/\b=n) <;> by_cases h2:(a=t'/\b=n') <;> first | (simp only [AV.kill0,if_pos h1,if_pos h2]; done) | (simp only [AV.kill0,if_pos h1,if_neg h2]; done) | (simp only [AV.kill0,if_neg h1,if_pos h2]; done) | (simp only [AV.kill0,if_neg h1,if_neg h2]; done)
 | ref a b z o l c=>by_cases h1:(a=t/\b=n) <;> by_cases h2:(a=t'/\b=n') <;> first | (simp only [AV.kill0,if_pos h1,if_pos h2]; done) | (simp only [AV.kill0,if_pos h1,if_neg h2]; done) | (simp only [AV.kill0,if_neg h1,if_pos h2]; done) | (simp only [AV.kill0,if_neg h1,if_neg h2]; done)
 | mp a b=>by_cases h1:(a=t/\b=n) <;> by_cases h2:(a=t'/\b=n') <;> first | (simp only [AV.kill0,if_pos h1,if_pos h2]; done) | (simp only [AV.kill0,if_pos h1,if_neg h2]; done) | (simp only [AV.kill0,if_neg h1,if_pos h2]; done) | (simp only [AV.kill0,if_neg h1,if_neg h2]; done)
 | _=>rfl
theorem OP (l:List AV) (t n t' n':Nat):(l.map (AV.kill0 t n)).map (AV.kill0 t' n')=(l.map (AV.kill0 t' n')).map (AV.kill0 t n):=by
 rw [y3,y3];exact yr fun x _=>kill0_comm x t n t' n'
theorem kill1_comm (v:AV) (t n t' n':Nat):(v.kill1 t n).kill1 t' n'=(v.kill1 t' n').kill1 t n:=by
 cases v with
 | agg cs=>exact congrArg AV.agg (OP cs t n t' n')
 | ptr a b o=>by_cases h1:(a=t/\b=n) <;> by_cases h2:(a=t'/\b=n') <;> first | (simp only [AV.kill1,AV.kill0,if_pos h1,if_pos h2]; done) | (simp only [AV.kill1,AV.kill0,if_pos h1,if_neg h2]; done) | (simp only [AV.kill1,AV.kill0,if_neg h1,if_pos h2]; done) | (simp only [AV.kill1,AV.kill0,if_neg h1,if_neg h2]; done)
 | ref a b z o l c=>by_cases h1:(a=t/\b=n) <;> by_cases h2:(a=t'/\b=n') <;> first | (simp only [AV.kill1,AV.kill0,if_pos h1,if_pos h2]; done) | (simp only [AV.kill1,AV.kill0,if_pos h1,if_neg h2]; done) | (simp only [AV.kill1,AV.kill0,if_neg h1,if_pos h2]; done) | (simp only [AV.kill1,AV.kill0,if_neg h1,if_neg h2]; done)
 | mp a b=>by_cases h1:(a=t/\b=n) <;> by_cases h2:(a=t'/\b=n') <;> first | (simp only [AV.kill1,AV.kill0,if_pos h1,if_pos h2]; done) | (simp only [AV.kill1,AV.kill0,if_pos h1,if_neg h2]; done) | (simp only [AV.kill1,AV.kill0,if_neg h1,if_pos h2]; done) | (simp only [AV.kill1,AV.kill0,if_neg h1,if_neg h2]; done)
 | _=>rfl
theorem kill_comm (v:AV) (t n t' n':Nat):(v.kill t n).kill t' n'=(v.kill t' n').kill t n:=by
 cases v with
 | agg cs=>exact congrArg AV.agg (OP cs t n t' n')
 | fn f cs=>exact congrArg (AV.fn f) (OP cs t n t' n')
 | tup vs =>
  refine congrArg AV.tup ?_;rw [y3,y3];exact yr fun x _=>kill1_comm x t n t' n'
 | ptr a b o=>by_cases h1:(a=t/\b=n) <;> by_cases h2:(a=t'/\b=n') <;> first | (simp only [AV.kill,AV.kill0,if_pos h1,if_pos h2]; done) | (simp only [AV.kill,AV.kill0,if_pos h1,if_neg h2]; done) | (simp only [AV.kill,AV.kill0,if_neg h1,if_pos h2]; done) | (simp only [AV.kill,AV.kill0,if_neg h1,if_neg h2]; done)
 | ref a b z o l c=>by_cases h1:(a=t/\b=n) <;> by_cases h2:(a=t'/\b=n') <;> first | (simp only [AV.kill,AV.kill0,if_pos h1,if_pos h2]; done) | (simp only [AV.kill,AV.kill0,if_pos h1,if_neg h2]; done) | (simp only [AV.kill,AV.kill0,if_neg h1,if_pos h2]; done) | (simp only [AV.kill,AV.kill0,if_neg h1,if_neg h2]; done)
 | mp a b=>by_cases h1:(a=t/\b=n) <;> by_cases h2:(a=t'/\b=n') <;> first | (simp only [AV.kill,AV.kill0,if_pos h1,if_pos h2]; done) | (simp only [AV.kill,AV.kill0,if_pos h1,if_neg h2]; done) | (simp only [AV.kill,AV.kill0,if_neg h1,if_pos h2]; done) | (simp only [AV.kill,AV.kill0,if_neg h1,if_neg h2]; done)
 | _=>rfl
theorem UV {m t n:Nat} {v:AV} (hv:lowV m v):lowV m (v.kill t n):=fun t' n' h=>by rw [kill_comm,hv t' n' h]
def uB (m:Nat) (e:Nat->wA):Prop:=∀ t,lowV m (e t).v
def QL (m:Nat) (M:Nat->Nat->Option (List wA)):Prop:=∀ t n r,M t n=some r->∀ x∈r,lowV m x.v
def nC (m:Nat) (M0 M:Nat->Nat->Option (List wA)):Prop:=∀ t n,n<m->M t n=M0 t n
theorem uB.put {m:Nat} {e:Nat->wA} {d:Nat} {x:wA} (h:uB m e) (hx:lowV m x.v):uB m (putE e d x):=fun t=>by
 rw [tG];split
 ·exact hx
 ·exact h t
theorem uB.mono {m m':Nat} (hm:m<=m') {e:Nat->wA} (h:uB m e):uB m' e:=fun t=>JI hm (h t)
theorem uB.kill {m:Nat} {e:Nat->wA} (h:uB m e) {t n:Nat}:uB m (IX t n e):=fun j=>by
 rw [eB,wA.kill_v];exact UV (h j)
theorem uB.same {m:Nat} {e:Nat->wA} (h:uB m e) {t n:Nat} (hn:m<=n):IX t n e=e:=funext fun j=>by
 rw [eB];show (⟨(e j).v.kill t n,(e j).a⟩:wA)=e j;rw [D1 hn (h j)]
theorem QL.set {m:Nat} {M:Nat->Nat->Option (List wA)} {t n:Nat} {r:List wA} (h:QL m M) (hr:∀ x∈r,lowV m x.v):QL m (FZ M t n r):=fun t' n' r' he=>by
 rw [wB] at he;split at he
 ·injection he with he; subst he; exact hr
 ·exact h t' n' r' he
theorem QL.mono {m m':Nat} (hm:m<=m') {M:Nat->Nat->Option (List wA)} (h:QL m M):QL m' M:=fun t n r he x hx=>JI hm (h t n r he x hx)
theorem QL.kill {m:Nat} {M:Nat->Nat->Option (List wA)} (h:QL m M) {t n:Nat}:QL m (O1 t n M):=fun t' n' r' he x hx=>by
 rw [dB] at he;split at he
 ·cases he
 ·obtain ⟨r,hr,rfl⟩:=yj.1 he;obtain ⟨y,hy,rfl⟩:=yu.1 hx;rw [wA.kill_v];exact UV (h t' n' r hr y hy)
theorem nC.refl {m:Nat} {M:Nat->Nat->Option (List wA)}:nC m M M:=fun _ _ _=>rfl
theorem nC.set {m:Nat} {M0 M:Nat->Nat->Option (List wA)} {t n:Nat} {r:List wA} (h:nC m M0 M) (hn:m<=n):nC m M0 (FZ M t n r):=fun t' n' h'=>by
 rw [wB,if_neg (by omega)];exact h t' n' h'
theorem nC.kill {m:Nat} {M0 M:Nat->Nat->Option (List wA)} (h:nC m M0 M) (h0:QL m M0) {t n:Nat} (hn:m<=n):nC m M0 (O1 t n M):=fun t' n' h'=>by
 rw [dB,if_neg (by omega),h t' n' h'];cases hr:M0 t' n' with
 | none=>rfl
 | some r =>
  refine congrArg some ?_;have:r.map (wA.kill t n)=r.map id:=yr fun x hx=>by
   show (⟨x.v.kill t n,x.a⟩:wA)=x;rw [D1 hn (h0 t' n' r hr x hx)]
  rwa [List.map_id] at this
theorem j4 {m:Nat} {l:List (List AV)} (h:∀ c∈l,∀ v∈c,D8 m v) (h2:∀ c∈l,∀ v∈c,v.leaf=true):∀ x∈xA l,lowV m x.v:=fun x hx=>by
 obtain ⟨v,hv,rfl⟩:=yu.1 hx;obtain ⟨c,hc,hv⟩:=List.mem_flatten.1 hv;exact lowV_of (h c hc v hv) (h2 c hc v hv)
theorem free0_leaf {v:AV} (h:v.free0=true):v.leaf=true:=by
 cases v <;> first | rfl | (simp [AV.free0] at h; done)
theorem nE {m:Nat} {l:List (List AV)} (h:XD l=true):∀ x∈xA l,lowV m x.v :=
 j4 (fun c hc v hv=>cQ (y6.1 (y6.1 h c hc) v hv)) (fun c hc v hv=>free0_leaf (y6.1 (y6.1 h c hc) v hv))
structure Calm (m:Nat) (s0 s:pA):Prop where
 mem:nC m s0.mem s.mem
 gh:s.gh=s0.gh
 obj:s.obj=s0.obj
 next:m<=s.next
 low:QL s.next s.mem
section
set_option maxHeartbeats 4000000
def DN (id:Int):ByteArray:=⟨#[109]⟩++Utf8.encode (97 + id)
def EJ (l:List jC) (i id:Int) (p:dQ):Bool:=decide (1 + p.id % 12=id/\0<=SI l i p.ty)
def LL (l:List jC) (i:Int) (rc:Bool) (id:Int) (p:dQ):SB :=
 ⟨id,DN id,SI l i p.ty,rc&&decide (p.flag % 4=1),rc&&decide (2<=p.flag % 4)&&(NJ l (SI l i p.ty) (p.flag / 4)).2,if (rc&&decide (2<=p.flag % 4))=true then (NJ l (SI l i p.ty) (p.flag / 4)).1 else Vl.zero⟩
def GP (l:List jC) (i:Int) (rc:Bool) (id:Int) (ps:List dQ):List SB:=match ps.find? (EJ l i id) with
 | some p=>[LL l i rc id p]
 | none=>[]
def IJ (l:List jC) (i:Int) (rc:Bool) (ps:List dQ):Nat->List SB
 | 0=>[]
 | n + 1=>IJ l i rc ps n++GP l i rc ((n + 1:Nat):Int) ps
def SE (l:List jC) (i:Int) (rc:Bool) (ps:List dQ):List SB:=IJ l i rc ps 12
theorem memAt_len (l:List jC) (i:Int) (rc:Bool) (id:Int) (ps:List dQ):(GP l i rc id ps).length<=1:=by
 unfold GP;split <;> simp
theorem pN (l:List jC) (i:Int) (rc:Bool) (ps:List dQ):∀ n,(IJ l i rc ps n).length<=n
 | 0=>yn _
 | n + 1=>by
  have:=pN l i rc ps n;have:=memAt_len l i rc ((n + 1:Nat):Int) ps;rw [IJ,yy];omega
def DW (n0:Nat) (ms:List SB) (x:wA) (s:pA):Prop :=
 (ms=[]/\x.v=.sl true []/\x.a=.ex)\/∃ N,ms≠[]/\n0<=N/\N<s.next/\x.v=.ref 88 N 13 0 ms.length ms.length/\s.mem 88 N=some (xA (ms.map zA))
structure sL (n0:Nat) (s0:pA) (dn:Bool) (l:List jC) (i0:Int) (rc:Bool) (x:jC) (id:Int) (ms:List SB) (s:pA):Prop where
 e1:(s.env 1).v=.int .i64 i0
 e2:(s.env 2).v=.bool rc
 e3:(s.env 3).v=.ptr 3 n0 0
 m3:s.mem 3 n0=some [⟨.sl dn (l.map CC),.no⟩]
 e7:(s.env 7).v=.ptr 7 (n0 + 1) 0
 m7:s.mem 7 (n0 + 1)=some [⟨.int .u8 x.k,.no⟩,⟨.int .u8 x.a,.no⟩,⟨.int .u8 x.b,.no⟩,⟨.int .u8 x.c,.no⟩,⟨.sl x.pn (x.parts.map HD),.no⟩]
 e9:(s.env 9).v=.int .i64 id
 lst:DW n0 ms (s.env 8) s
 calm:Calm n0 s0 s
 lt:n0 + 1<s.next
theorem DW.of {n0:Nat} {ms:List SB} {x x':wA} {s s':pA} (h:DW n0 ms x s) (hx:x'=x) (hm:∀ N,s'.mem 88 N=s.mem 88 N) (hn:s.next<=s'.next):DW n0 ms x' s':=by
 subst hx;rcases h with h | ⟨N,h1,h2,h3,h4,h5⟩
 ·exact .inl h
 ·exact .inr ⟨N,h1,h2,Nat.lt_of_lt_of_le h3 hn,h4,(hm N).trans h5⟩
theorem aA {m:Nat} {r:List wA} (h:r.all (fun x=>x.v.free)=true:=by simp [AV.free,AV.free0]):∀ x∈r,lowV m x.v:=fun x hx=>SN (y6.1 h x hx)
theorem tX (n:Int):(Utf8.encode n).size<=4:=by
 unfold Utf8.encode;dsimp only;generalize (if Utf8.valid n=true then n.toNat else Utf8.runeError)=c;split
 ·exact (by decide:(1:Nat)<=4)
 ·split
  ·exact (by decide:(2:Nat)<=4)
  ·split
   ·exact (by decide:(3:Nat)<=4)
   ·exact (by decide:(4:Nat)<=4)
theorem cX (n:Int) (h:-2147483648<=n/\n<=2147483647):IntKind.i32.wrap n=n:=by
 simp [IntKind.wrap,IntKind.bits,IntKind.signed];omega
theorem parts_in {r:RV} {n0:Nat} {s0:pA} {dn:Bool} {l:List jC} (hl:oks l) {i0:Int} (ri:0<=i0) (oe:i0<l.length) {rc:Bool} {x:jC} (hx:x.ok) (hM:QL n0 s0.mem) (hG:uB n0 s0.gh) {id:Int} (dP:1<=id/\id<=12) {ms:List SB} (kq:ms.length<=12) (s:pA) (k:Ex->pA->Option RV) (h:sL n0 s0 dn l i0 rc x id ms s) (sq:(s.env 10).v=.int .i64 0)
  (hk:∀ s',sL n0 s0 dn l i0 rc x id (ms++GP l i0 rc id x.parts) s'->k (.exit 2) s'=some r):GG dA eA aB s k=some r:=by
 refine gA x.parts.length (fun j s=>sL n0 s0 dn l i0 rc x id ms s/\(s.env 10).v=.int .i64 j/\(x.parts.drop j).find? (EJ l i0 id)=x.parts.find? (EJ l i0 id))
  (fun e s=>e=.exit 2/\sL n0 s0 dn l i0 rc x id (ms++GP l i0 rc id x.parts) s) (fun j hj s k h ih hk=>?_) s k ⟨h,by simpa using sq,rfl⟩ (fun e s h=>by obtain ⟨rfl,h⟩:=h; exact hk s h)
 obtain ⟨⟨e1,e2,e3,m3,e7,m7,e9,lst,calm,lt⟩,e10,hf⟩:=h;have oo:=hx.2.2.2.2.1;refine tA ?_;by_cases fa:j<x.parts.length
 ·have ga:(j:Int)<x.parts.length:=by omega
  have hwj:=GA (i:=j);have hp:=hx.2.2.2.2.2 _ (y7 fa);have g1:(x.parts.map HD)[j]?=some (HD x.parts[j]):=by simp [fa]
  rw [y8 fa,List.find?_cons] at hf;generalize x.parts[j]=p at *
  simp only [HD] at g1;have zt:=target_ev dn l hl i0 ri oe p.ty hp.2.1;have hti:=iQ hl i0 p.ty oe;have tp:=fun lb=>initial_ev dn l hl (SI l i0 p.ty) lb hti.2 (p.flag / 4) ⟨by have:=hp.2.2.1; omega,by have:=hp.2.2.2; omega⟩
  simp only [fA,FF] at zt tp;have th:p.id.tmod 12=p.id % 12:=yw hp.1.1;have so:IntKind.i64.wrap (p.id % 12)=p.id % 12:=IntWalk.i64_in _ (by omega);have di:IntKind.i64.wrap (1 + p.id % 12)=1 + p.id % 12:=IntWalk.i64_in _ (by omega);have pj:IntKind.i64.wrap id=id:=IntWalk.i64_in _ (by omega);obtain ⟨z,hz⟩:∃ z:Int,z=j:=⟨_,rfl⟩;have gc:0<=z:=by omega
  have mq:IntKind.i64.wrap (z + 1)=((j + 1:Nat):Int):=by rw [hz]; exact hwj
  rw [<- hz] at e10 ga;rw [show j=z.toNat from by omega] at g1;have calm':=calm;obtain ⟨cm,cg,co,cn,cl⟩:=calm;have next:∀ s',sL n0 s0 dn l i0 rc x id ms s'->(s'.env 10).v=.int .i64 ((j + 1:Nat):Int)->EJ l i0 id p=false->GG dA eA aB s' k=some r:=fun s' h1 h2 h3=>by
   rw [h3] at hf;exact ih fa s' ⟨h1,h2,hf⟩
  by_cases c1:1 + p.id % 12=id
  ·by_cases c2:SI l i0 p.ty<0
   ·have dt:EJ l i0 id p=false:=by simp [EJ,c1]; omega
    simp [aB,-V,-y4,-y3,y0,e1,e2,e3,m3,e7,m7,e9,e10,ga,g1,gc,zt,th,so,di,c1,c2,mq,pj];refine next _ ⟨?_,?_,?_,?_,?_,?_,?_,lst.of ?_ ?_ ?_,⟨?_,?_,?_,?_,?_⟩,?_⟩ ?_ dt
    ·simp [e1]
    ·simp [e2]
    ·simp [e3]
    ·simp [wB,m3]
    ·simp [e7]
    ·simp [wB,m7]
    ·simp [e9]
    ·simp
    ·intro N; simp [wB]
    ·simp only; omega
    ·exact (cm.set (by omega)).set (by omega)
    ·exact cg
    ·exact co
    ·simp only; omega
    ·exact ((cl.mono (by dsimp only; omega)).set aA).set aA
    ·simp only; omega
    ·simp
   ·have hip:EJ l i0 id p=true:=by simp [EJ,c1]; omega
    rw [hip] at hf;have hma:GP l i0 rc id x.parts=[LL l i0 rc id p]:=by rw [GP,<- hf]
    rw [hma] at hk;have tp:=tp (by omega);have hq4:p.flag.tmod 4=p.flag % 4:=yw hp.2.2.1;have hv4:p.flag.tdiv 4=p.flag / 4:=Int.tdiv_eq_ediv_of_nonneg hp.2.2.1;have tu:IntKind.u8.wrap (p.flag / 4)=p.flag / 4:=by have:=hp.2.2.1; have:=hp.2.2.2; simp [IntKind.wrap,IntKind.bits,IntKind.signed]; omega
    have fq:IntKind.i64.wrap (97 + id)=97 + id:=IntWalk.i64_in _ (by omega);have uu:IntKind.i32.wrap (97 + id)=97 + id:=cX _ (by omega);have ez:=tX (97 + id);have ac:(⟨#[109]⟩:ByteArray).size=1:=rfl;have eb:(⟨#[109]⟩:ByteArray).size + (Utf8.encode (97 + id)).size<=9223372036854775807:=by omega
    unfold LL DN at hk;generalize hE:Utf8.encode (97 + id)=nm at *
    generalize NJ l (SI l i0 p.ty) (p.flag / 4)=iz at *
    obtain ⟨iv,ib⟩:=iz;simp only [uA] at tp;generalize SI l i0 p.ty=t at *
    rcases lst with ⟨lm,l1,l2⟩ | ⟨N,lm,l1,l2,l3,l4⟩
    ·subst lm;have ja:kB 160 1=true:=by rw [PA]; omega
     cases rc with
     | false =>
      simp [aB,-V,-y4,-y3,y0,e1,e2,e3,m3,e7,m7,e9,e10,ga,g1,gc,zt,th,so,di,c1,c2,pj,fq,uu,hE,eb,l1,ja,l2];refine hk _ _ ⟨rfl,?_,?_,?_,?_,?_,?_,?_,.inr ⟨s.next + 1 + 1 + 1 + 1 + 1 + 1 + 1,?_,?_,?_,?_,?_⟩,⟨?_,?_,?_,?_,?_⟩,?_⟩
      ·simp [e1]
      ·simp [e2]
      ·simp [e3]
      ·simp [wB,m3]
      ·simp [e7]
      ·simp [wB,m7]
      ·simp [e9]
      ·simp
      ·omega
      ·dsimp only; omega
      ·simp
      ·simp [wB,zA,Vl.zero,Vl.kind,Vl.b,Vl.i,Vl.s,Vl.id,Vl.kn,Vl.keys,Vl.xn,Vl.items,Vl.rn,Vl.rest]
      ·repeat (first | exact cm | refine nC.set ?_ (by omega) | refine nC.kill ?_ hM (by omega))
      ·exact cg
      ·exact co
      ·dsimp only; omega
      ·exact (((((cl.mono (by dsimp only; omega)).set aA).set aA).set aA).set aA).set (nE (by simp [XD,AV.free0,zA]))
      ·dsimp only; omega
     | true =>
      by_cases f1:p.flag % 4=1
      ·simp [aB,-V,-y4,-y3,y0,e1,e2,e3,m3,e7,m7,e9,e10,ga,g1,gc,zt,th,so,di,c1,c2,pj,fq,uu,hE,eb,l1,ja,l2,hq4,f1];refine hk _ _ ⟨rfl,?_,?_,?_,?_,?_,?_,?_,.inr ⟨s.next + 1 + 1 + 1 + 1 + 1 + 1 + 1 + 1,?_,?_,?_,?_,?_⟩,⟨?_,?_,?_,?_,?_⟩,?_⟩
       ·simp [e1]
       ·simp [e2]
       ·simp [e3]
       ·simp [wB,m3]
       ·simp [e7]
       ·simp [wB,m7]
       ·simp [e9]
       ·simp
       ·omega
       ·dsimp only; omega
       ·simp
       ·simp [wB,zA,Vl.zero,Vl.kind,Vl.b,Vl.i,Vl.s,Vl.id,Vl.kn,Vl.keys,Vl.xn,Vl.items,Vl.rn,Vl.rest,f1]
       ·repeat (first | exact cm | refine nC.set ?_ (by omega) | refine nC.kill ?_ hM (by omega))
       ·exact cg
       ·exact co
       ·dsimp only; omega
       ·exact ((((((cl.mono (by dsimp only; omega)).set aA).set aA).set aA).set aA).set aA).set (nE (by simp [XD,AV.free0,zA]))
       ·dsimp only; omega
      ·by_cases f2:2<=p.flag % 4
       ·simp [aB,-V,-y4,-y3,y0,e1,e2,e3,m3,e7,m7,e9,e10,ga,g1,gc,zt,th,so,di,c1,c2,pj,fq,uu,hE,eb,l1,ja,l2,hq4,f1,f2,hv4,tu,tp];refine hk _ _ ⟨rfl,?_,?_,?_,?_,?_,?_,?_,.inr ⟨s.next + 1 + 1 + 1 + 1 + 1 + 1 + 1 + 1,?_,?_,?_,?_,?_⟩,⟨?_,?_,?_,?_,?_⟩,?_⟩
        ·simp [e1]
        ·simp [e2]
        ·simp [e3]
        ·simp [wB,m3]
        ·simp [e7]
        ·simp [wB,m7]
        ·simp [e9]
        ·simp
        ·omega
        ·dsimp only; omega
        ·simp
        ·simp [wB,zA,Vl.zero,Vl.kind,Vl.b,Vl.i,Vl.s,Vl.id,Vl.kn,Vl.keys,Vl.xn,Vl.items,Vl.rn,Vl.rest,f1,f2]
        ·repeat (first | exact cm | refine nC.set ?_ (by omega) | refine nC.kill ?_ hM (by omega))
        ·exact cg
        ·exact co
        ·dsimp only; omega
        ·exact (((((((cl.mono (by dsimp only; omega)).set aA).set aA).set aA).set aA).set aA).set aA).set (nE (by simp [XD,AV.free0,zA]))
        ·dsimp only; omega
       ·simp [aB,-V,-y4,-y3,y0,e1,e2,e3,m3,e7,m7,e9,e10,ga,g1,gc,zt,th,so,di,c1,c2,pj,fq,uu,hE,eb,l1,ja,l2,hq4,f1,f2];refine hk _ _ ⟨rfl,?_,?_,?_,?_,?_,?_,?_,.inr ⟨s.next + 1 + 1 + 1 + 1 + 1 + 1 + 1,?_,?_,?_,?_,?_⟩,⟨?_,?_,?_,?_,?_⟩,?_⟩
        ·simp [e1]
        ·simp [e2]
        ·simp [e3]
        ·simp [wB,m3]
        ·simp [e7]
        ·simp [wB,m7]
        ·simp [e9]
        ·simp
        ·omega
        ·dsimp only; omega
        ·simp
        ·simp [wB,zA,Vl.zero,Vl.kind,Vl.b,Vl.i,Vl.s,Vl.id,Vl.kn,Vl.keys,Vl.xn,Vl.items,Vl.rn,Vl.rest,f1,f2]
        ·repeat (first | exact cm | refine nC.set ?_ (by omega) | refine nC.kill ?_ hM (by omega))
        ·exact cg
        ·exact co
        ·dsimp only; omega
        ·exact (((((cl.mono (by dsimp only; omega)).set aA).set aA).set aA).set aA).set (nE (by simp [XD,AV.free0,zA]))
        ·dsimp only; omega
    ·have su:(ms.map zA).length=ms.length:=by simp
     have ja:kB 160 (ms.length + 1)=true:=by rw [PA]; omega
     have td:=EW ms;have hfr:XD (ms.map zA)=true:=tN zA ms fun m=>by simp [zA,AV.free0]
     have zj:DE (xA (ms.map zA)) 13 0 ms.length=some (ms.map zA):=by have:=cK td hfr; rwa [su] at this
     cases rc with
     | false =>
      simp [aB,-V,-y4,-y3,y0,e1,e2,e3,m3,e7,m7,e9,e10,ga,g1,gc,zt,th,so,di,c1,c2,pj,fq,uu,hE,eb,l3,ja,l4,zj];refine hk _ _ ⟨rfl,?_,?_,?_,?_,?_,?_,?_,.inr ⟨s.next + 1 + 1 + 1 + 1 + 1 + 1 + 1,?_,?_,?_,?_,?_⟩,⟨?_,?_,?_,?_,?_⟩,?_⟩
      ·simp [eB,dB,wA.kill_v,wA.kill_mk,AV.kill,AV.kill0,e1]
      ·simp [eB,dB,wA.kill_v,wA.kill_mk,AV.kill,AV.kill0,e2]
      ·simp [eB,dB,wA.kill_v,wA.kill_mk,AV.kill,AV.kill0,e3]
      ·simp [eB,dB,wA.kill_v,wA.kill_mk,AV.kill,AV.kill0,wB,m3]
      ·simp [eB,dB,wA.kill_v,wA.kill_mk,AV.kill,AV.kill0,e7]
      ·simp [eB,dB,wA.kill_v,wA.kill_mk,AV.kill,AV.kill0,wB,m7]
      ·simp [eB,dB,wA.kill_v,wA.kill_mk,AV.kill,AV.kill0,e9]
      ·simp
      ·omega
      ·dsimp only; omega
      ·simp
      ·simp [wB,zA,Vl.zero,Vl.kind,Vl.b,Vl.i,Vl.s,Vl.id,Vl.kn,Vl.keys,Vl.xn,Vl.items,Vl.rn,Vl.rest]
      ·repeat (first | exact cm | refine nC.set ?_ (by omega) | refine nC.kill ?_ hM (by omega))
      ·dsimp only; rw [cg]; exact hG.same (by omega)
      ·exact co
      ·dsimp only; omega
      ·exact ((((((cl.mono (by dsimp only; omega)).set aA).set aA).set aA).set aA).kill).set (nE (by simp [XD,AV.free0,zA]))
      ·dsimp only; omega
     | true =>
      by_cases f1:p.flag % 4=1
      ·simp [aB,-V,-y4,-y3,y0,e1,e2,e3,m3,e7,m7,e9,e10,ga,g1,gc,zt,th,so,di,c1,c2,pj,fq,uu,hE,eb,l3,ja,l4,zj,hq4,f1];refine hk _ _ ⟨rfl,?_,?_,?_,?_,?_,?_,?_,.inr ⟨s.next + 1 + 1 + 1 + 1 + 1 + 1 + 1 + 1,?_,?_,?_,?_,?_⟩,⟨?_,?_,?_,?_,?_⟩,?_⟩
       ·simp [eB,dB,wA.kill_v,wA.kill_mk,AV.kill,AV.kill0,e1]
       ·simp [eB,dB,wA.kill_v,wA.kill_mk,AV.kill,AV.kill0,e2]
       ·simp [eB,dB,wA.kill_v,wA.kill_mk,AV.kill,AV.kill0,e3]
       ·simp [eB,dB,wA.kill_v,wA.kill_mk,AV.kill,AV.kill0,wB,m3]
       ·simp [eB,dB,wA.kill_v,wA.kill_mk,AV.kill,AV.kill0,e7]
       ·simp [eB,dB,wA.kill_v,wA.kill_mk,AV.kill,AV.kill0,wB,m7]
       ·simp [eB,dB,wA.kill_v,wA.kill_mk,AV.kill,AV.kill0,e9]
       ·simp
       ·omega
       ·dsimp only; omega
       ·simp
       ·simp [wB,zA,Vl.zero,Vl.kind,Vl.b,Vl.i,Vl.s,Vl.id,Vl.kn,Vl.keys,Vl.xn,Vl.items,Vl.rn,Vl.rest,f1]
       ·repeat (first | exact cm | refine nC.set ?_ (by omega) | refine nC.kill ?_ hM (by omega))
       ·dsimp only; rw [cg]; exact hG.same (by omega)
       ·exact co
       ·dsimp only; omega
       ·exact (((((((cl.mono (by dsimp only; omega)).set aA).set aA).set aA).set aA).set aA).kill).set (nE (by simp [XD,AV.free0,zA]))
       ·dsimp only; omega
      ·by_cases f2:2<=p.flag % 4
       ·simp [aB,-V,-y4,-y3,y0,e1,e2,e3,m3,e7,m7,e9,e10,ga,g1,gc,zt,th,so,di,c1,c2,pj,fq,uu,hE,eb,l3,ja,l4,zj,hq4,f1,f2,hv4,tu,tp];refine hk _ _ ⟨rfl,?_,?_,?_,?_,?_,?_,?_,.inr ⟨s.next + 1 + 1 + 1 + 1 + 1 + 1 + 1 + 1,?_,?_,?_,?_,?_⟩,⟨?_,?_,?_,?_,?_⟩,?_⟩
        ·simp [eB,dB,wA.kill_v,wA.kill_mk,AV.kill,AV.kill0,e1]
        ·simp [eB,dB,wA.kill_v,wA.kill_mk,AV.kill,AV.kill0,e2]
        ·simp [eB,dB,wA.kill_v,wA.kill_mk,AV.kill,AV.kill0,e3]
        ·simp [eB,dB,wA.kill_v,wA.kill_mk,AV.kill,AV.kill0,wB,m3]
        ·simp [eB,dB,wA.kill_v,wA.kill_mk,AV.kill,AV.kill0,e7]
        ·simp [eB,dB,wA.kill_v,wA.kill_mk,AV.kill,AV.kill0,wB,m7]
        ·simp [eB,dB,wA.kill_v,wA.kill_mk,AV.kill,AV.kill0,e9]
        ·simp
        ·omega
        ·dsimp only; omega
        ·simp
        ·simp [wB,zA,Vl.zero,Vl.kind,Vl.b,Vl.i,Vl.s,Vl.id,Vl.kn,Vl.keys,Vl.xn,Vl.items,Vl.rn,Vl.rest,f1,f2]
        ·repeat (first | exact cm | refine nC.set ?_ (by omega) | refine nC.kill ?_ hM (by omega))
        ·dsimp only; rw [cg]; exact hG.same (by omega)
        ·exact co
        ·dsimp only; omega
        ·exact ((((((((cl.mono (by dsimp only; omega)).set aA).set aA).set aA).set aA).set aA).set aA).kill).set (nE (by simp [XD,AV.free0,zA]))
        ·dsimp only; omega
       ·simp [aB,-V,-y4,-y3,y0,e1,e2,e3,m3,e7,m7,e9,e10,ga,g1,gc,zt,th,so,di,c1,c2,pj,fq,uu,hE,eb,l3,ja,l4,zj,hq4,f1,f2];refine hk _ _ ⟨rfl,?_,?_,?_,?_,?_,?_,?_,.inr ⟨s.next + 1 + 1 + 1 + 1 + 1 + 1 + 1,?_,?_,?_,?_,?_⟩,⟨?_,?_,?_,?_,?_⟩,?_⟩
        ·simp [eB,dB,wA.kill_v,wA.kill_mk,AV.kill,AV.kill0,e1]
        ·simp [eB,dB,wA.kill_v,wA.kill_mk,AV.kill,AV.kill0,e2]
        ·simp [eB,dB,wA.kill_v,wA.kill_mk,AV.kill,AV.kill0,e3]
        ·simp [eB,dB,wA.kill_v,wA.kill_mk,AV.kill,AV.kill0,wB,m3]
        ·simp [eB,dB,wA.kill_v,wA.kill_mk,AV.kill,AV.kill0,e7]
        ·simp [eB,dB,wA.kill_v,wA.kill_mk,AV.kill,AV.kill0,wB,m7]
        ·simp [eB,dB,wA.kill_v,wA.kill_mk,AV.kill,AV.kill0,e9]
        ·simp
        ·omega
        ·dsimp only; omega
        ·simp
        ·simp [wB,zA,Vl.zero,Vl.kind,Vl.b,Vl.i,Vl.s,Vl.id,Vl.kn,Vl.keys,Vl.xn,Vl.items,Vl.rn,Vl.rest,f1,f2]
        ·repeat (first | exact cm | refine nC.set ?_ (by omega) | refine nC.kill ?_ hM (by omega))
        ·dsimp only; rw [cg]; exact hG.same (by omega)
        ·exact co
        ·dsimp only; omega
        ·exact ((((((cl.mono (by dsimp only; omega)).set aA).set aA).set aA).set aA).kill).set (nE (by simp [XD,AV.free0,zA]))
        ·dsimp only; omega
  ·have dt:EJ l i0 id p=false:=by simp [EJ,c1]
   simp [aB,-V,-y4,-y3,y0,e1,e2,e3,m3,e7,m7,e9,e10,ga,g1,gc,zt,th,so,di,c1,mq];refine next _ ⟨?_,?_,?_,?_,?_,?_,?_,lst.of ?_ ?_ ?_,⟨?_,?_,?_,?_,?_⟩,?_⟩ ?_ dt
   ·simp [e1]
   ·simp [e2]
   ·simp [e3]
   ·simp [wB,m3]
   ·simp [e7]
   ·simp [wB,m7]
   ·simp [e9]
   ·simp
   ·intro N; simp [wB]
   ·simp only; omega
   ·exact (cm.set (by omega)).set (by omega)
   ·exact cg
   ·exact co
   ·simp only; omega
   ·exact ((cl.mono (by dsimp only; omega)).set aA).set aA
   ·simp only; omega
   ·simp
 ·have ga:¬ (j:Int)<x.parts.length:=by omega
  simp [aB,-V,-y4,-y3,y0,e7,m7,e10,fa];rw [yc (by omega),List.find?_nil] at hf;have hnil:GP l i0 rc id x.parts=[]:=by rw [GP,<- hf]
  refine hk _ _ ⟨rfl,?_⟩;rw [hnil,List.append_nil];obtain ⟨cm,cg,co,cn,cl⟩:=calm;refine ⟨?_,?_,?_,?_,?_,?_,?_,lst.of ?_ ?_ ?_,⟨?_,?_,?_,?_,?_⟩,?_⟩
  ·simp [e1]
  ·simp [e2]
  ·simp [e3]
  ·simp [m3]
  ·simp [e7]
  ·simp [m7]
  ·simp [e9]
  ·simp
  ·intro N; simp
  ·simp
  ·exact cm
  ·exact cg
  ·exact co
  ·simp only; omega
  ·exact cl.mono (by dsimp only; omega)
  ·simp only; omega
end
section
set_option maxHeartbeats 4000000
theorem sL.of {n0:Nat} {s0:pA} {dn:Bool} {l:List jC} {i0:Int} {rc:Bool} {x:jC} {id id':Int} {ms:List SB} {s s':pA} (h:sL n0 s0 dn l i0 rc x id ms s)
  (h1:(s'.env 1).v=(s.env 1).v) (h2:(s'.env 2).v=(s.env 2).v) (h3:(s'.env 3).v=(s.env 3).v) (h7:(s'.env 7).v=(s.env 7).v) (h8:s'.env 8=s.env 8) (h9:(s'.env 9).v=.int .i64 id') (hm:s'.mem=s.mem) (hg:s'.gh=s.gh) (ho:s'.obj=s.obj) (hn:s.next<=s'.next):sL n0 s0 dn l i0 rc x id' ms s':=by
 obtain ⟨e1,e2,e3,m3,e7,m7,e9,lst,⟨cm,cg,co,cn,cl⟩,lt⟩:=h;refine ⟨by rw [h1,e1],by rw [h2,e2],by rw [h3,e3],by rw [hm,m3],by rw [h7,e7],by rw [hm,m7],h9,lst.of h8 (fun N=>by rw [hm]) hn,⟨by rw [hm]; exact cm,by rw [hg,cg],by rw [ho,co],by omega,by rw [hm]; exact cl.mono hn⟩,by omega⟩
theorem i9 {r:RV} {dn:Bool} {l:List jC} (hl:oks l) {i0:Int} (ri:0<=i0) (oe:i0<l.length) {rc:Bool} {x:jC} (hx:l[i0.toNat]?=some x) {a1 a2 a3:An} (s0:pA) (hM:QL s0.next s0.mem) (hG:uB s0.next s0.gh) (k:wA->pA->Option RV)
  (hk:∀ y s',Calm s0.next s0 s'->DW s0.next (SE l i0 rc x.parts) y s'->k y s'=some r):evH dA eA 92 [⟨.agg (FF dn l),a1⟩,⟨.int .i64 i0,a2⟩,⟨.bool rc,a3⟩] s0 k=some r:=by
 refine H0 TK rfl rfl ?_;have hxo:x.ok:=hl.2.2 _ (yl hx);have g:(l.map CC)[i0.toNat]?=some (CC x):=by simp [hx]
 simp only [CC] at g;simp [TK,FF,-V,-y4,-y3,y0,g,ri];refine gA 12 (fun i s=>sL s0.next s0 dn l i0 rc x ((i + 1:Nat):Int) (IJ l i0 rc x.parts i) s)
  (fun e s=>e=.exit 0/\∃ id,sL s0.next s0 dn l i0 rc x id (SE l i0 rc x.parts) s) (fun i hi s k' h ih hk=>?_) _ _ ?_ (fun e s h=>?_)
 ·refine tA ?_;by_cases fa:i<12
  ·have dP:((i + 1:Nat):Int)<=12:=by omega
   have e9:=h.e9;have hw:IntKind.i64.wrap (((i + 1:Nat):Int) + 1)=((i + 1 + 1:Nat):Int):=GA (by omega);obtain ⟨z,hz⟩:∃ z:Int,z=((i + 1:Nat):Int):=⟨_,rfl⟩;rw [<- hz] at e9 dP hw;simp [uK,-V,-y4,-y3,y0,e9,dP];refine parts_in hl ri oe hxo hM hG (id:=z) (by omega) (Nat.le_trans (pN l i0 rc x.parts i) hi) _ _ (h.of ?_ ?_ ?_ ?_ ?_ ?_ ?_ ?_ ?_ ?_) ?_ (fun s' h'=>?_)
   ·simp
   ·simp
   ·simp
   ·simp
   ·simp
   ·simp [e9]
   ·rfl
   ·rfl
   ·rfl
   ·dsimp only; omega
   ·simp
   ·have e9':=h'.e9;simp [-V,-y4,-y3,y0,e9',hw];rw [hz] at h';refine ih fa _ (sL.of (ms:=IJ l i0 rc x.parts (i + 1)) h' ?_ ?_ ?_ ?_ ?_ ?_ ?_ ?_ ?_ ?_)
    ·simp
    ·simp
    ·simp
    ·simp
    ·simp
    ·simp
    ·rfl
    ·rfl
    ·rfl
    ·dsimp only; omega
  ·have hi12:i=12:=by omega
   subst hi12;have e9:=h.e9;simp at e9;simp [uK,-V,-y4,-y3,y0,e9];refine hk _ _ ⟨rfl,13,sL.of (id':=13) h ?_ ?_ ?_ ?_ ?_ ?_ ?_ ?_ ?_ ?_⟩
   ·simp
   ·simp
   ·simp
   ·simp
   ·simp
   ·simp [e9]
   ·rfl
   ·rfl
   ·rfl
   ·dsimp only; omega
 ·refine ⟨?_,?_,?_,?_,?_,?_,?_,.inl ⟨rfl,?_,?_⟩,⟨?_,?_,?_,?_,?_⟩,?_⟩
  ·simp
  ·simp
  ·simp
  ·simp [wB]
  ·simp
  ·simp [wB]
  ·simp
  ·simp
  ·simp
  ·exact (((nC.refl).set (by omega)).set (by omega)).set (by omega)
  ·rfl
  ·rfl
  ·dsimp only; omega
  ·exact (((hM.mono (by dsimp only; omega)).set aA).set aA).set aA
  ·dsimp only; omega
 ·obtain ⟨rfl,id,h⟩:=h;obtain ⟨e1,e2,e3,m3,e7,m7,e9,lst,⟨cm,cg,co,cn,cl⟩,lt⟩:=h;simp [-V,-y4,-y3,y0,FQ,PZ,QY];refine hk _ _ ⟨cm,cg,co,?_,cl.mono ?_⟩ (lst.of ?_ (fun N=>?_) ?_)
  ·dsimp only; omega
  ·dsimp only; omega
  ·rfl
  ·rfl
  ·dsimp only; omega
end
def ZN (x:wA):Prop:=∀ k,x.strip k=x
def GW (e:Nat->wA):Prop:=∀ t,ZN (e t)
def PureM (m:Nat) (M:Nat->Nat->Option (List wA)):Prop:=∀ t n r,n<m->M t n=some r->∀ x∈r,ZN x
theorem ET (v:AV):ZN ⟨v,.no⟩:=fun _=>rfl
theorem s9 (v:AV):ZN ⟨v,.ex⟩:=fun _=>rfl
theorem GW.same {e:Nat->wA} (h:GW e) (k:Nat):wZ k e=e:=funext fun t=>by rw [F2]; exact h t k
theorem eZ (k:Nat) (M:Nat->Nat->Option (List wA)) (t n:Nat):eV k M t n=(M t n).map (·.map (wA.strip k)):=rfl
theorem nC.strip {m:Nat} {M0 M:Nat->Nat->Option (List wA)} (h:nC m M0 M) (h0:PureM m M0) (k:Nat):nC m M0 (eV k M):=fun t n hn=>by
 rw [eZ,h t n hn];cases hr:M0 t n with
 | none=>rfl
 | some r =>
  refine congrArg some ?_;have:r.map (wA.strip k)=r.map id:=yr fun x hx=>h0 t n r hn hr x hx k
  rwa [List.map_id] at this
theorem QL.strip {m:Nat} {M:Nat->Nat->Option (List wA)} (h:QL m M) (k:Nat):QL m (eV k M):=fun t n r he x hx=>by
 rw [eZ] at he;obtain ⟨r0,hr,rfl⟩:=yj.1 he;obtain ⟨y,hy,rfl⟩:=yu.1 hx;exact h t n r0 hr y hy
theorem uB.strip {m:Nat} {e:Nat->wA} (h:uB m e) (k:Nat):uB m (wZ k e):=fun t=>h t
theorem FY {l:List (List AV)} (h:XD l=true) (t n:Nat):(xA l).map (wA.kill t n)=xA l:=by
 have:(xA l).map (wA.kill t n)=(xA l).map id:=yr fun x hx=>by
  have:=nE (m:=0) h x hx t n (Nat.zero_le _);show (⟨x.v.kill t n,x.a⟩:wA)=x;rw [this]
 rwa [List.map_id] at this
def qK (i:Int):ByteArray:=Utf8.encode (65 + i)
def sName (d:Int):ByteArray:=⟨#[115]⟩++Utf8.encode (97 + d)
def rI (a:Int):List aN:=(aF a).map fun d=>⟨d,sName d⟩
def sA.of (k:Int) (nm:ByteArray):sA:=⟨k,nm,0,0,0,true,[],true,[],0,0,false⟩
def zB (l:List jC) (i:Int):sA :=
 let x:=FA l i
 let n:Int:=l.length
 match x.kind with
 | 1=>.of 1 ⟨#[]⟩
 | 2=>{ sA.of 2 ⟨#[]⟩ with low:=x.low,high:=x.high }
 | 3=>{ sA.of 3 ⟨#[]⟩ with max:=x.a % 4 }
 | 4=>{ sA.of 4 (qK i) with opn:=decide (x.b % 2=1),sn:=false,syms:=rI x.a }
 | 5=>{ sA.of 5 (qK i) with mn:=(SE l i true x.parts).isEmpty,mems:=SE l i true x.parts }
 | 6=>if (SE l i false x.parts).isEmpty=true then .of 5 (qK i) else { sA.of 6 (qK i) with opn:=decide (x.b % 2=1),mn:=false,mems:=SE l i false x.parts }
 | 7=>{ sA.of 7 ⟨#[]⟩ with max:=x.a % 4,elem:=x.c % n }
 | 8=>if gK l x.b<0 then { sA.of 7 ⟨#[]⟩ with max:=x.a % 4,elem:=x.c % n } else { sA.of 8 ⟨#[]⟩ with max:=x.a % 4,key:=gK l x.b,elem:=x.c % n }
 | _=>{ sA.of 9 ⟨#[]⟩ with elem:=x.c % n }
def xF (t:sA) (c:AV):List AV:=[.int .i64 t.kind,.str t.name,.int .i64 t.low,.int .i64 t.high,.int .i64 t.max,.sl t.sn (t.syms.map DC),c,.int .i64 t.key,.int .i64 t.elem,.bool t.opn]
theorem typL_C (t:sA):xF t (.sl t.mn (t.mems.map zA))=qA t:=rfl
def XI (ms:List SB) (c:AV) (s:pA):Prop :=
 (ms=[]/\c=.sl true [])\/∃ N,ms≠[]/\N<s.next/\c=.ref 88 N 13 0 ms.length ms.length/\s.mem 88 N=some (xA (ms.map zA))
theorem DW.mems {n0:Nat} {ms:List SB} {x:wA} {s:pA} (h:DW n0 ms x s):XI ms x.v s:=by
 rcases h with ⟨h1,h2,_⟩ | ⟨N,h1,_,h3,h4,h5⟩
 ·exact .inl ⟨h1,h2⟩
 ·exact .inr ⟨N,h1,h3,h4,h5⟩
theorem G1 (ms:List SB):XD (ms.map zA)=true:=tN zA ms fun m=>by simp [zA,AV.free0]
theorem XI.keep {ms:List SB} {c:AV} {s s':pA} (h:XI ms c s) (hm:∀ N,N<s.next->s'.mem 88 N=s.mem 88 N) (hn:s.next<=s'.next):XI ms c s':=by
 rcases h with h | ⟨N,h1,h2,h3,h4⟩
 ·exact .inl h
 ·exact .inr ⟨N,h1,Nat.lt_of_lt_of_le h2 hn,h3,(hm N h2).trans h4⟩
theorem XI.low {ms:List SB} {c:AV} {s:pA} (h:XI ms c s):D8 s.next c:=by
 rcases h with ⟨_,rfl⟩ | ⟨N,_,h2,rfl,_⟩
 ·exact cQ rfl
 ·exact F8 h2
def CI (S:List sA) (L:List (List AV)) (s:pA):Prop:=S.length=L.length/\∀ (i:Nat) (t:sA) (c:List AV),S[i]?=some t->L[i]?=some c->∃ m,c=xF t m/\XI t.mems m s
theorem CI.snoc {S:List sA} {L:List (List AV)} {s:pA} (h:CI S L s) {t:sA} {m:AV} (hm:XI t.mems m s):CI (S++[t]) (L++[xF t m]) s:=by
 obtain ⟨h1,h2⟩:=h;refine ⟨by simp [h1],fun i t' c' ht hc=>?_⟩;rcases Nat.lt_or_ge i S.length with fa | mf
 ·rw [yL fa] at ht;rw [yL (by omega)] at hc;exact h2 i t' c' ht hc
 ·rw [yR mf] at ht;rw [yR (by omega)] at hc;have hi:i - S.length=0:=by
   rcases yJ (i - S.length) with h0 | h0
   ·exact h0
   ·rw [yZ (by simp; omega)] at ht; cases ht
  rw [hi] at ht;rw [<- h1,hi] at hc;injection ht with ht;injection hc with hc;exact ⟨m,by rw [<- ht,<- hc],by rw [<- ht]; exact hm⟩
theorem CI.keep {S:List sA} {L:List (List AV)} {s s':pA} (h:CI S L s) (hm:∀ N,N<s.next->s'.mem 88 N=s.mem 88 N) (hn:s.next<=s'.next):CI S L s' :=
 ⟨h.1,fun i t c ht hc=>by obtain ⟨m,h1,h2⟩:=h.2 i t c ht hc; exact ⟨m,h1,h2.keep hm hn⟩⟩
theorem CI.els {S:List sA} {L:List (List AV)} {s:pA} (h:CI S L s):lB 10 L=true:=by
 refine y6.2 fun c hc=>?_
 obtain ⟨i,hi,rfl⟩:=yz hc;have ia:=h.1;have hiS:i<S.length:=by omega
 obtain ⟨m,h1,_⟩:=h.2 i S[i] L[i] (y5 (by omega)) (y5 hi);rw [h1];rfl
section
set_option maxHeartbeats 4000000
def TQ (p n8:Nat) (M M':Nat->Nat->Option (List wA)):Prop:=∀ t n,¬ (t=p/\n=n8)->(∀ r,M t n=some r->∀ x∈r,ZN x)->M' t n=M t n
theorem TQ.refl {p n8:Nat} {M:Nat->Nat->Option (List wA)}:TQ p n8 M M:=fun _ _ _ _=>rfl
theorem TQ.strip {p n8:Nat} {M M':Nat->Nat->Option (List wA)} (h:TQ p n8 M M') (k:Nat):TQ p n8 M (eV k M'):=fun t n h1 h2=>by
 rw [G2,h t n h1 h2];cases hr:M t n with
 | none=>rfl
 | some r =>
  refine congrArg some ?_;have:r.map (wA.strip k)=r.map id:=yr fun x hx=>h2 r hr x hx k
  rwa [List.map_id] at this
theorem TQ.set {p n8:Nat} {M M':Nat->Nat->Option (List wA)} (h:TQ p n8 M M') {r:List wA}:TQ p n8 M (FZ M' p n8 r):=fun t n h1 h2=>by
 rw [wB,if_neg h1];exact h t n h1 h2
def WJ (nm:ByteArray) (op:Bool) (S:List aN) (b:Bool) (a:An):List wA:=[⟨.int .i64 4,.no⟩,⟨.str nm,.no⟩,⟨.int .i64 0,.no⟩,⟨.int .i64 0,.no⟩,⟨.int .i64 0,.no⟩,⟨.sl b (S.map DC),a⟩,⟨.sl true [],.no⟩,⟨.int .i64 0,.no⟩,⟨.int .i64 0,.no⟩,⟨.bool op,.no⟩]
theorem idl_rng (a:Int):∀ i,∀ d∈RW a i,1<=d/\d<=i
 | 0,d,h=>by cases h
 | i + 1,d,h=>by
  rw [RW] at h;rcases yp.1 h with h | h
  ·have:=idl_rng a i d h; omega
  ·split at h
   ·simp at h; omega
   ·cases h
theorem idsZ_rng (a:Int):∀ d∈aF a,1<=d/\d<=6:=fun d h=>by
 unfold aF at h;split at h
 ·simp at h; omega
 ·have:=idl_rng a 6 d h; omega
theorem esyms_ev {r:RV} {a:Int} {n8:Nat} {nm:ByteArray} {op:Bool} (s0:pA) (k:Ex->pA->Option RV)
  (h9:(s0.env 9).v=.sl false ((aF a).map wL)) (sq:(s0.env 10).v=.int .i64 0) (h8:(s0.env 8).v=.ptr 8 n8 0) (fa:n8<s0.next) (hm:s0.mem 8 n8=some (WJ nm op [] true .no)) (hG:GW s0.gh) (hL:QL s0.next s0.mem) (hE:uB s0.next s0.env)
  (hk:∀ s',(∀ t,t<9->(s'.env t).v=(s0.env t).v)->TQ 8 n8 s0.mem s'.mem->s'.gh=s0.gh->s'.obj=s0.obj->s0.next<=s'.next->QL s'.next s'.mem->uB s'.next s'.env->(∃ an,s'.mem 8 n8=some (WJ nm op (rI a) false an))->k (.exit 3) s'=some r):GG dA eA nG s0 k=some r:=by
 have rp:=KS a;refine gA (aF a).length (fun i s=>(∀ t,t<10->(s.env t).v=(s0.env t).v)/\(s.env 10).v=.int .i64 i/\TQ 8 n8 s0.mem s.mem/\s.gh=s0.gh/\s.obj=s0.obj/\s0.next<=s.next/\QL s.next s.mem/\uB s.next s.env/\(i=0/\s.mem 8 n8=some (WJ nm op [] true .no)\/¬ i=0/\s.mem 8 n8=some (WJ nm op ((rI a).take i) false (.own 91 137))))
  (fun e s=>e=.exit 3/\(∀ t,t<9->(s.env t).v=(s0.env t).v)/\TQ 8 n8 s0.mem s.mem/\s.gh=s0.gh/\s.obj=s0.obj/\s0.next<=s.next/\QL s.next s.mem/\uB s.next s.env/\∃ an,s.mem 8 n8=some (WJ nm op (rI a) false an)) (fun i hi s k h ih hk=>?_) s0 k ⟨fun _ _=>rfl,by simpa using sq,TQ.refl,rfl,rfl,yn _,hL,hE,.inl ⟨rfl,hm⟩⟩ (fun e s h=>by obtain ⟨rfl,h1,h2,h3,h4,h5,h6,h7,h8⟩:=h; exact hk s h1 h2 h3 h4 h5 h6 h7 h8)
 obtain ⟨he,e10,pb,hg,ho,hn,hL,hE,ka⟩:=h;have e9:=(he 9 (by omega)).trans h9;have e8:=(he 8 (by omega)).trans h8;refine tA ?_;by_cases ga:i<(aF a).length
 ·have aw:(i:Int)<(aF a).length:=by omega
  have mg:=GA (i:=i);have g1:((aF a).map wL)[i]?=some (wL (aF a)[i]):=by simp [ga]
  have hd:=idsZ_rng a _ (y7 ga);have nj:(rI a).take (i + 1)=(rI a).take i++[⟨(aF a)[i],sName (aF a)[i]⟩]:=by
   have hl:i<(rI a).length:=by simpa [rI] using ga
   rw [<- yE hl];simp [rI]
  have sd:((rI a).take i).length=i:=by simp [rI]; omega
  generalize (aF a)[i]=d at *
  have hlm:((aF a).map wL).length=(aF a).length:=by simp
  generalize (aF a).map wL=D at *
  generalize hS:(rI a).take i=S at *
  obtain ⟨z,hz⟩:∃ z:Int,z=i:=⟨_,rfl⟩;have gc:0<=z:=by omega
  have mq:IntKind.i64.wrap (z + 1)=((i + 1:Nat):Int):=by rw [hz]; exact mg
  rw [<- hz] at e10 aw;rw [show i=z.toNat from by omega] at g1;simp only [wL] at g1;have hw97:IntKind.i64.wrap (97 + d)=97 + d:=IntWalk.i64_in _ (by omega);have zk:IntKind.i32.wrap (97 + d)=97 + d:=cX _ (by omega);have ez:=tX (97 + d);have ac:(⟨#[115]⟩:ByteArray).size=1:=rfl;have eb:(⟨#[115]⟩:ByteArray).size + (Utf8.encode (97 + d)).size<=9223372036854775807:=by omega
  unfold sName at nj;generalize hEn:Utf8.encode (97 + d)=en at *
  have ja:kB 24 (i + 1)=true:=by rw [PA]; omega
  have td:=els_sym S;rcases ka with ⟨ri,hr⟩ | ⟨ri,hr⟩
  ·have hS0:S=[]:=by rw [<- hS,ri]; rfl
   subst hS0;subst ri;simp only [WJ,yk] at hr;simp [nG,-V,-y4,-y3,y0,e8,e9,e10,hlm,aw,gc,g1,hw97,zk,hEn,eb,hr,ja,mq];refine ih ga _ ⟨fun t ht=>?_,?_,?_,?_,ho,?_,?_,?_,.inr ⟨by omega,?_⟩⟩
   ·have:=he t ht;have q:∀ c,10<=c->¬ t=c:=fun c hc=>by omega
    simp [q,this]
   ·simp
   ·repeat (first | exact pb | refine TQ.set ?_ | refine TQ.strip ?_ _)
   ·simp only [hg,hG.same]
   ·dsimp only; omega
   ·exact ((hL.mono (by dsimp only; omega)).strip 91).set aA
   ·dsimp only
    repeat (first | exact hE.mono (by omega) | refine uB.put ?_ (fun _ _ _=>rfl) | refine uB.put ?_ (eD (by omega)) | refine uB.strip ?_ _)
   ·simp [WJ,nj,DC]
  ·simp only [WJ] at hr;simp [nG,-V,-y4,-y3,y0,e8,e9,e10,hlm,aw,gc,g1,hw97,zk,hEn,eb,hr,sd,td,ja,mq];refine ih ga _ ⟨fun t ht=>?_,?_,?_,?_,ho,?_,?_,?_,.inr ⟨by omega,?_⟩⟩
   ·have:=he t ht;have q:∀ c,10<=c->¬ t=c:=fun c hc=>by omega
    simp [q,this]
   ·simp
   ·repeat (first | exact pb | refine TQ.set ?_ | refine TQ.strip ?_ _)
   ·simp only [hg,hG.same]
   ·dsimp only; omega
   ·exact (((hL.mono (by dsimp only; omega)).strip 91).strip 91).set aA
   ·dsimp only
    repeat (first | exact hE.mono (by omega) | refine uB.put ?_ (fun _ _ _=>rfl) | refine uB.put ?_ (eD (by omega)) | refine uB.strip ?_ _)
   ·simp [WJ,nj,DC]
 ·have bg:i=(aF a).length:=by omega
  have aw:¬ (i:Int)<(aF a).length:=by omega
  simp [nG,-V,-y4,-y3,y0,e9,e10,ga];have ri:¬ i=0:=by omega
  rcases ka with ⟨h0,_⟩ | ⟨_,hr⟩
  ·exact absurd h0 ri
  ·rw [yC (by simp [rI]; omega)] at hr;refine hk _ _ ⟨rfl,fun t ht=>?_,pb,hg,ho,by dsimp only; omega,hL.mono (by dsimp only; omega),?_,_,hr⟩
   ·have:=he t (by omega);simp [show ¬ t=69 from by omega,show ¬ t=70 from by omega,show ¬ t=71 from by omega,show ¬ t=72 from by omega,this]
   ·dsimp only
    repeat (first | exact hE.mono (by omega) | refine uB.put ?_ (fun _ _ _=>rfl))
end
section
set_option maxHeartbeats 4000000
def SD:C:=.reg [oF 164 0 5,oL 165 164,oA 166 10 8,oS 167 (.bslr 10 zze 1 [(0,(.t 166))]),oS 168 (.appn .any 132 10 120 (.t 165) (.t 167)),oF 169 0 5,oW 169 168]
def CB:C:=oR [oF 26 0 1,oL 27 26,oM 28 6,oI 29 5 27 28,oA 30 5 29,oY 7 zzd,oV 5 7 30] (oR [oA 31 1 1,oM 32 6,oC2 33 87 31 32,oS 34 (.build zze [(0,(1,(.t 33)))]),oY 8 zze,oV 10 8 34] (.seq (oR [oF 35 0 8,oL 36 35,oC1 37 88 36] (oD 37 (.reg [oM 38 6,oS 39 (.bin .add false (.c (.int .i64 65)) (.t 38)),oS 40 (.conv (.some .i32) (.t 39)),oS 41 (.rstr (.t 40)),oF 42 1 8,oW 42 41]) .skip)) (.seq (oR [oF 43 0 8,oL 44 43] (.block 2 (oR [oC 46 .eql 44 2,oM 45 46] (oD 45 (.reg [oS 47 (.load (.root 7) true 5 (.t 7)),oC1 48 89 47,oS 49 (.load (.root 7) true 5 (.t 7)),oC1 50 90 49,oF 51 2 8,oN (.store (.root 8) false 1 (.t 51) (.t 48)),oF 52 3 8,oN (.store (.root 8) false 1 (.t 52) (.t 50))]) (oR [oC 54 .eql 44 3,oM 53 54] (oD 53 (.reg [oF 55 1 7,oL 56 55,oS 57 (.bin .rem false (.t 56) (.c (.int .u8 4))),oS 58 (.conv (.some .i64) (.t 57)),oF 59 4 8,oW 59 58]) (oR [oC 61 .eql 44 4,oM 60 61] (oD 60 (oR [oF 62 2 7,oL 63 62,oS 64 (.bin .rem false (.t 63) (.c (.int .u8 2))),oS 65 (.bin .eql false (.t 64) (.c (.int .u8 1))),oF 66 9 8,oW 66 65] (oR [oA 67 5 7,oC1 68 91 67,oM 9 68] (oR [oJ 10 0] (.block 3 (.loop nG))))) (oR [oC 94 .eql 44 5,oM 93 94] (oD 93 (.reg [oA 95 1 1,oM 96 6,oS 97 (.callh 171 (.c (.fn 92 [])) [(.t 95),(.t 96),(.c (.bool true))]),oF 98 6 8,oW 98 97]) (oR [oC 100 .eql 44 6,oM 99 100] (oD 99 (oR [oF 101 2 7,oL 102 101,oS 103 (.bin .rem false (.t 102) (.c (.int .u8 2))),oS 104 (.bin .eql false (.t 103) (.c (.int .u8 1))),oF 105 9 8,oW 105 104] (oR [oA 106 1 1,oM 107 6,oS 108 (.callh 171 (.c (.fn 92 [])) [(.t 106),(.t 107),(.c (.bool false))]),oF 109 6 8,oW 109 108] (oR [oF 110 6 8,oL 111 110,oH 112 111,oC 113 .eql 112 0] (oD 113 (.reg [oF 114 1 8,oL 115 114,oS 116 (.build zze [(0,(1,(.c (.int .i64 5)))),(1,(1,(.t 115)))]),oV 10 8 116]) .skip)))) (oR [oC 118 .eql 44 7,oM 117 118] (oD 117 (.reg [oF 119 1 7,oLr 120 7 1 119,oS 121 (.bin .rem false (.t 120) (.c (.int .u8 4))),oS 122 (.conv (.some .i64) (.t 121)),oF 123 3 7,oLr 124 7 1 123,oS 125 (.conv (.some .i64) (.t 124)),oM 126 4,oB 127 .rem 125 126,oF 128 4 8,oN (.store (.root 8) false 1 (.t 128) (.t 122)),oF 129 8 8,oN (.store (.root 8) false 1 (.t 129) (.t 127))]) (oR [oC 131 .eql 44 8,oM 130 131] (oD 130 (oR [oF 132 1 7,oLr 133 7 1 132,oS 134 (.bin .rem false (.t 133) (.c (.int .u8 4))),oS 135 (.conv (.some .i64) (.t 134)),oS 136 (.load (.root 1) true 1 (.t 1)),oF 137 2 7,oLr 138 7 1 137,oC2 139 93 136 138,oF 140 3 7,oLr 141 7 1 140,oS 142 (.conv (.some .i64) (.t 141)),oM 143 4,oB 144 .rem 142 143,oF 145 4 8,oN (.store (.root 8) false 1 (.t 145) (.t 135)),oF 146 7 8,oN (.store (.root 8) false 1 (.t 146) (.t 139)),oF 147 8 8,oN (.store (.root 8) false 1 (.t 147) (.t 144))] (oR [oF 148 7 8,oL 149 148,oC 150 .lss 149 0] (oD 150 (.reg [oF 151 4 8,oL 152 151,oF 153 8 8,oL 154 153,oS 155 (.build zze [(0,(1,(.c (.int .i64 7)))),(4,(1,(.t 152))),(8,(1,(.t 154)))]),oV 10 8 155]) .skip))) (oR [oC 157 .eql 44 9,oM 156 157] (oD 156 (.reg [oF 158 3 7,oL 159 158,oS 160 (.conv (.some .i64) (.t 159)),oM 161 4,oB 162 .rem 160 161,oF 163 8 8,oW 163 162]) .skip)))))))))))))))))) SD)))
theorem of_L2:dR=.seq (.seq (.reg [⟨(.some 21),(.mv (.t 6)),.none⟩,⟨(.some 22),(.mv (.t 4)),.none⟩,⟨(.some 23),(.bin .lss .false (.t 21) (.t 22)),.none⟩]) (.cond (.t 23) .skip (.exit 0))) (.seq (.block 1 CB) (.reg [⟨(.some 24),(.mv (.t 6)),.none⟩,⟨(.some 25),(.bin .add .false (.t 24) (.c (.int .i64 1))),.none⟩,⟨(.some 6),(.mv (.t 25)),.none⟩])):=rfl
def M5I (n0:Nat) (l:List jC) (i:Nat) (s:pA):Prop :=
 (i=0/\∃ a,s.mem 5 (n0 + 3)=some [⟨.sl true [],a⟩]/\ZN ⟨.sl true [],a⟩)\/∃ N L,¬ i=0/\s.mem 5 (n0 + 3)=some [⟨.ref 168 N 10 0 i i,.no⟩]/\n0<=N/\N<s.next/\s.mem 168 N=some (xA L)/\L.length=i/\CI ((List.range i).map fun (j:Nat)=>zB l (j:Int)) L s
theorem M5I.keep {n0:Nat} {l:List jC} {i:Nat} {s s':pA} (h:M5I n0 l i s) (h5:s'.mem 5 (n0 + 3)=s.mem 5 (n0 + 3)) (ak:∀ N,N<s.next->s'.mem 168 N=s.mem 168 N) (h88:∀ N,N<s.next->s'.mem 88 N=s.mem 88 N) (hn:s.next<=s'.next):M5I n0 l i s':=by
 rcases h with ⟨h1,a,h2,h3⟩ | ⟨N,L,h1,h2,h0,h3,h4,h6,h7⟩
 ·exact .inl ⟨h1,a,h5.trans h2,h3⟩
 ·exact .inr ⟨N,L,h1,h5.trans h2,h0,Nat.lt_of_lt_of_le h3 hn,(ak N h3).trans h4,h6,h7.keep h88 hn⟩
structure s5 (n0:Nat) (s0:pA) (dn:Bool) (l:List jC) (i:Nat) (s:pA):Prop where
 e1:(s.env 1).v=.ptr 1 n0 0
 m1:s.mem 1 n0=some [⟨.sl dn (l.map CC),.no⟩]
 e2:(s.env 2).v=.ptr 2 n0 0
 m2:∃ a,s.mem 2 n0=some [⟨.sl true [],a⟩]/\ZN ⟨.sl true [],a⟩
 e4:(s.env 4).v=.int .i64 l.length
 e5:(s.env 5).v=.ptr 5 (n0 + 3) 0
 e6:(s.env 6).v=.int .i64 i
 m5:M5I n0 l i s
 calm:Calm n0 s0 s
 lowE:uB s.next s.env
 lt:n0 + 3<s.next
structure KM (n0:Nat) (s0:pA) (dn:Bool) (l:List jC) (i:Nat) (n8:Nat) (s:pA):Prop where
 ofI:s5 n0 s0 dn l i s
 e8:(s.env 8).v=.ptr 8 n8 0
 lt8:n8<s.next
 row:∃ m r,s.mem 8 n8=some r/\r.map (·.v)=xF (zB l (i:Int)) m/\XI (zB l (i:Int)).mems m s
theorem kind1_ev {r:RV} {n0:Nat} {s0:pA} {dn:Bool} {l:List jC} (hl:oks l) {i:Nat} (hi:i<l.length) {s:pA} {k:Ex->pA->Option RV} (h:s5 n0 s0 dn l i s) (wb:(FA l (i:Int)).kind=1) (hk:∀ n8 s',KM n0 s0 dn l i n8 s'->SD.run (cE dA eA) (BJ dA eA) s' k=some r):CB.run (cE dA eA) (BJ dA eA) s k=some r:=by
 obtain ⟨e1,m1,e2,m2,e4,e5,e6,m5,⟨cm,cg,co,cn,cl⟩,lowE,lt⟩:=h;have tb:=cH (dn:=dn) hl (z:=(i:Int)) (by omega) (by omega);have g:l[i]?=some l[i]:=y5 hi;have gm:(l.map CC)[i]?=some (CC (FA l (i:Int))):=by simp [FA,g]
 have rb:fC l (i:Int)=1:=by rw [<- wb]; simp [fC,FA,g]
 have nb:zB l (i:Int)=sA.of 1 ⟨#[]⟩:=by simp only [zB,wb]
 rw [rb] at tb;generalize FA l (i:Int)=x at *
 have eb:=rD 1;simp only [fA,FF,CC] at tb gm;obtain ⟨z,hz⟩:∃ z:Int,z=i:=⟨_,rfl⟩;have gc:0<=z:=by omega
 rw [<- hz] at e6 tb;rw [show i=z.toNat from by omega] at gm;simp [CB,-V,-y4,-y3,y0,e1,m1,e4,e6,gc,gm,tb,eb];refine hk (s.next + 1) _ ⟨⟨?_,?_,?_,?_,?_,?_,?_,?_,⟨?_,?_,?_,?_,?_⟩,?_,?_⟩,?_,?_,?_⟩
 ·simp [e1]
 ·simp [m1]
 ·simp [e2]
 ·simpa using m2
 ·simp [e4]
 ·simp [e5]
 ·simp [e6,hz]
 ·exact m5.keep (by simp) (fun N _=>by simp) (fun N _=>by simp) (by dsimp only; omega)
 ·repeat (first | exact cm | refine nC.set ?_ (by omega))
 ·exact cg
 ·exact co
 ·dsimp only; omega
 ·exact ((((cl.mono (by dsimp only; omega)).set aA).set aA).set aA).set aA
 ·dsimp only
  repeat (first | exact lowE.mono (by omega) | refine uB.put ?_ (fun _ _ _=>rfl) | refine uB.put ?_ (eD (by omega)))
 ·dsimp only; omega
 ·simp
 ·dsimp only; omega
 ·refine ⟨.sl true [],_,by simp; rfl,?_,.inl ⟨?_,rfl⟩⟩
  ·rw [nb]; simp [xF,sA.of]
  ·rw [nb]; rfl
end
section
set_option maxHeartbeats 4000000
theorem hx0 (x:jC) (hx:x.ok):u8 x.k/\u8 x.a/\u8 x.b/\u8 x.c/\True:=⟨hx.1,hx.2.1,hx.2.2.1,hx.2.2.2.1,trivial⟩
theorem TF {l:List jC} (hl:oks l) {i:Nat} (hi:i<l.length):(FA l (i:Int)).ok:=by
 have g:l[i]?=some l[i]:=y5 hi;simp only [FA,Int.toNat_natCast,g];exact hl.2.2 _ (y7 hi)
section
variable {r:RV} {n0:Nat} {s0:pA} {dn:Bool} {l:List jC} (hl:oks l) {i:Nat} (hi:i<l.length) {s:pA} {k:Ex->pA->Option RV} (h:s5 n0 s0 dn l i s)
include r n0 s0 dn l hl i hi s k h
theorem kind2_ev (wb:(FA l (i:Int)).kind=2) (hk:∀ n8 s',KM n0 s0 dn l i n8 s'->SD.run (cE dA eA) (BJ dA eA) s' k=some r):CB.run (cE dA eA) (BJ dA eA) s k=some r:=by
 obtain ⟨e1,m1,e2,m2,e4,e5,e6,m5,⟨cm,cg,co,cn,cl⟩,lowE,lt⟩:=h;have tb:=cH (dn:=dn) hl (z:=(i:Int)) (by omega) (by omega);have g:l[i]?=some l[i]:=y5 hi;have gm:(l.map CC)[i]?=some (CC (FA l (i:Int))):=by simp [FA,g]
 have rb:fC l (i:Int)=2:=by rw [<- wb]; simp [fC,FA,g]
 have nb:zB l (i:Int)={ sA.of 2 ⟨#[]⟩ with low:=(FA l (i:Int)).low,high:=(FA l (i:Int)).high }:=by simp only [zB,wb]
 have hx:=TF hl hi;rw [rb] at tb;generalize FA l (i:Int)=x at *
 have eb:=rD 2;obtain ⟨xk,xa,xb,xc,_⟩:=hx0 x hx;have pe:=low_ev x hx;have jk:=high_ev x hx;simp only [fA,CC] at pe jk;simp only [fA,FF,CC] at tb gm;obtain ⟨z,hz⟩:∃ z:Int,z=i:=⟨_,rfl⟩;have gc:0<=z:=by omega
 rw [<- hz] at e6 tb;rw [show i=z.toNat from by omega] at gm;simp [CB,-V,-y4,-y3,y0,e1,m1,e4,e6,gc,gm,tb,eb,pe,jk];refine hk (s.next + 1) _ ⟨⟨?_,?_,?_,?_,?_,?_,?_,?_,⟨?_,?_,?_,?_,?_⟩,?_,?_⟩,?_,?_,?_⟩
 ·simp [e1]
 ·simp [m1]
 ·simp [e2]
 ·simpa using m2
 ·simp [e4]
 ·simp [e5]
 ·simp [e6,hz]
 ·exact m5.keep (by simp) (fun N _=>by simp) (fun N _=>by simp) (by dsimp only; omega)
 ·repeat (first | exact cm | refine nC.set ?_ (by omega))
 ·exact cg
 ·exact co
 ·dsimp only; omega
 ·exact ((((((cl.mono (by dsimp only; omega)).set aA).set aA).set aA).set aA).set aA).set aA
 ·dsimp only
  repeat (first | exact lowE.mono (by omega) | refine uB.put ?_ (fun _ _ _=>rfl) | refine uB.put ?_ (eD (by omega)))
 ·dsimp only; omega
 ·simp
 ·dsimp only; omega
 ·refine ⟨.sl true [],_,by simp; rfl,?_,.inl ⟨?_,rfl⟩⟩
  ·rw [nb]; simp [xF,sA.of]
  ·rw [nb]; rfl
theorem kind3_ev (wb:(FA l (i:Int)).kind=3) (hk:∀ n8 s',KM n0 s0 dn l i n8 s'->SD.run (cE dA eA) (BJ dA eA) s' k=some r):CB.run (cE dA eA) (BJ dA eA) s k=some r:=by
 obtain ⟨e1,m1,e2,m2,e4,e5,e6,m5,⟨cm,cg,co,cn,cl⟩,lowE,lt⟩:=h;have tb:=cH (dn:=dn) hl (z:=(i:Int)) (by omega) (by omega);have g:l[i]?=some l[i]:=y5 hi;have gm:(l.map CC)[i]?=some (CC (FA l (i:Int))):=by simp [FA,g]
 have rb:fC l (i:Int)=3:=by rw [<- wb]; simp [fC,FA,g]
 have nb:zB l (i:Int)={ sA.of 3 ⟨#[]⟩ with max:=(FA l (i:Int)).a % 4 }:=by simp only [zB,wb]
 have hx:=TF hl hi;rw [rb] at tb;generalize FA l (i:Int)=x at *
 have eb:=rD 3;obtain ⟨xk,xa,xb,xc,_⟩:=hx0 x hx;have kv:x.a.tmod 4=x.a % 4:=yw xa.1;have tu:IntKind.i64.wrap (x.a % 4)=x.a % 4:=IntWalk.i64_in _ (by omega);simp only [fA,FF,CC] at tb gm;obtain ⟨z,hz⟩:∃ z:Int,z=i:=⟨_,rfl⟩;have gc:0<=z:=by omega
 rw [<- hz] at e6 tb;rw [show i=z.toNat from by omega] at gm;simp [CB,-V,-y4,-y3,y0,e1,m1,e4,e6,gc,gm,tb,eb,kv,tu];refine hk (s.next + 1) _ ⟨⟨?_,?_,?_,?_,?_,?_,?_,?_,⟨?_,?_,?_,?_,?_⟩,?_,?_⟩,?_,?_,?_⟩
 ·simp [e1]
 ·simp [m1]
 ·simp [e2]
 ·simpa using m2
 ·simp [e4]
 ·simp [e5]
 ·simp [e6,hz]
 ·exact m5.keep (by simp) (fun N _=>by simp) (fun N _=>by simp) (by dsimp only; omega)
 ·repeat (first | exact cm | refine nC.set ?_ (by omega))
 ·exact cg
 ·exact co
 ·dsimp only; omega
 ·exact (((((cl.mono (by dsimp only; omega)).set aA).set aA).set aA).set aA).set aA
 ·dsimp only
  repeat (first | exact lowE.mono (by omega) | refine uB.put ?_ (fun _ _ _=>rfl) | refine uB.put ?_ (eD (by omega)))
 ·dsimp only; omega
 ·simp
 ·dsimp only; omega
 ·refine ⟨.sl true [],_,by simp; rfl,?_,.inl ⟨?_,rfl⟩⟩
  ·rw [nb]; simp [xF,sA.of]
  ·rw [nb]; rfl
theorem kind7_ev (wb:(FA l (i:Int)).kind=7) (hk:∀ n8 s',KM n0 s0 dn l i n8 s'->SD.run (cE dA eA) (BJ dA eA) s' k=some r):CB.run (cE dA eA) (BJ dA eA) s k=some r:=by
 obtain ⟨e1,m1,e2,m2,e4,e5,e6,m5,⟨cm,cg,co,cn,cl⟩,lowE,lt⟩:=h;have tb:=cH (dn:=dn) hl (z:=(i:Int)) (by omega) (by omega);have g:l[i]?=some l[i]:=y5 hi;have gm:(l.map CC)[i]?=some (CC (FA l (i:Int))):=by simp [FA,g]
 have rb:fC l (i:Int)=7:=by rw [<- wb]; simp [fC,FA,g]
 have nb:zB l (i:Int)={ sA.of 7 ⟨#[]⟩ with max:=(FA l (i:Int)).a % 4,elem:=(FA l (i:Int)).c % l.length }:=by simp only [zB,wb]
 have hx:=TF hl hi;rw [rb] at tb;generalize FA l (i:Int)=x at *
 have eb:=rD 7;obtain ⟨xk,xa,xb,xc,_⟩:=hx0 x hx;have kv:x.a.tmod 4=x.a % 4:=yw xa.1;have tu:IntKind.i64.wrap (x.a % 4)=x.a % 4:=IntWalk.i64_in _ (by omega);have gk:IntKind.i64.wrap x.c=x.c:=IntWalk.i64_in _ (by simp only [u8] at xc; omega);have wz:x.c.tmod l.length=x.c % l.length:=yw xc.1;have bq:¬ (l.length:Int)=0:=by omega
 have fh:¬ l=[]:=by intro e; rw [e] at hi; simp at hi
 simp only [fA,FF,CC] at tb gm;obtain ⟨z,hz⟩:∃ z:Int,z=i:=⟨_,rfl⟩;have gc:0<=z:=by omega
 rw [<- hz] at e6 tb;rw [show i=z.toNat from by omega] at gm;simp [CB,-V,-y4,-y3,y0,e1,m1,e4,e6,gc,gm,tb,eb,kv,tu,gk,wz,bq,fh];refine hk (s.next + 1) _ ⟨⟨?_,?_,?_,?_,?_,?_,?_,?_,⟨?_,?_,?_,?_,?_⟩,?_,?_⟩,?_,?_,?_⟩
 ·simp [e1]
 ·simp [m1]
 ·simp [e2]
 ·simpa using m2
 ·simp [e4]
 ·simp [e5]
 ·simp [e6,hz]
 ·exact m5.keep (by simp) (fun N _=>by simp) (fun N _=>by simp) (by dsimp only; omega)
 ·repeat (first | exact cm | refine nC.set ?_ (by omega))
 ·exact cg
 ·exact co
 ·dsimp only; omega
 ·exact ((((((cl.mono (by dsimp only; omega)).set aA).set aA).set aA).set aA).set aA).set aA
 ·dsimp only
  repeat (first | exact lowE.mono (by omega) | refine uB.put ?_ (fun _ _ _=>rfl) | refine uB.put ?_ (eD (by omega)))
 ·dsimp only; omega
 ·simp
 ·dsimp only; omega
 ·refine ⟨.sl true [],_,by simp; rfl,?_,.inl ⟨?_,rfl⟩⟩
  ·rw [nb]; simp [xF,sA.of]
  ·rw [nb]; rfl
theorem kind9_ev (wb:(FA l (i:Int)).kind=9) (hk:∀ n8 s',KM n0 s0 dn l i n8 s'->SD.run (cE dA eA) (BJ dA eA) s' k=some r):CB.run (cE dA eA) (BJ dA eA) s k=some r:=by
 obtain ⟨e1,m1,e2,m2,e4,e5,e6,m5,⟨cm,cg,co,cn,cl⟩,lowE,lt⟩:=h;have tb:=cH (dn:=dn) hl (z:=(i:Int)) (by omega) (by omega);have g:l[i]?=some l[i]:=y5 hi;have gm:(l.map CC)[i]?=some (CC (FA l (i:Int))):=by simp [FA,g]
 have rb:fC l (i:Int)=9:=by rw [<- wb]; simp [fC,FA,g]
 have nb:zB l (i:Int)={ sA.of 9 ⟨#[]⟩ with elem:=(FA l (i:Int)).c % l.length }:=by simp only [zB,wb]
 have hx:=TF hl hi;rw [rb] at tb;generalize FA l (i:Int)=x at *
 have eb:=rD 9;obtain ⟨xk,xa,xb,xc,_⟩:=hx0 x hx;have gk:IntKind.i64.wrap x.c=x.c:=IntWalk.i64_in _ (by simp only [u8] at xc; omega);have wz:x.c.tmod l.length=x.c % l.length:=yw xc.1;have bq:¬ (l.length:Int)=0:=by omega
 have fh:¬ l=[]:=by intro e; rw [e] at hi; simp at hi
 simp only [fA,FF,CC] at tb gm;obtain ⟨z,hz⟩:∃ z:Int,z=i:=⟨_,rfl⟩;have gc:0<=z:=by omega
 rw [<- hz] at e6 tb;rw [show i=z.toNat from by omega] at gm;simp [CB,-V,-y4,-y3,y0,e1,m1,e4,e6,gc,gm,tb,eb,gk,wz,bq,fh];refine hk (s.next + 1) _ ⟨⟨?_,?_,?_,?_,?_,?_,?_,?_,⟨?_,?_,?_,?_,?_⟩,?_,?_⟩,?_,?_,?_⟩
 ·simp [e1]
 ·simp [m1]
 ·simp [e2]
 ·simpa using m2
 ·simp [e4]
 ·simp [e5]
 ·simp [e6,hz]
 ·exact m5.keep (by simp) (fun N _=>by simp) (fun N _=>by simp) (by dsimp only; omega)
 ·repeat (first | exact cm | refine nC.set ?_ (by omega))
 ·exact cg
 ·exact co
 ·dsimp only; omega
 ·exact (((((cl.mono (by dsimp only; omega)).set aA).set aA).set aA).set aA).set aA
 ·dsimp only
  repeat (first | exact lowE.mono (by omega) | refine uB.put ?_ (fun _ _ _=>rfl) | refine uB.put ?_ (eD (by omega)))
 ·dsimp only; omega
 ·simp
 ·dsimp only; omega
 ·refine ⟨.sl true [],_,by simp; rfl,?_,.inl ⟨?_,rfl⟩⟩
  ·rw [nb]; simp [xF,sA.of]
  ·rw [nb]; rfl
theorem kind8n_ev (wb:(FA l (i:Int)).kind=8) (hc:gK l (FA l (i:Int)).b<0) (hk:∀ n8 s',KM n0 s0 dn l i n8 s'->SD.run (cE dA eA) (BJ dA eA) s' k=some r):CB.run (cE dA eA) (BJ dA eA) s k=some r:=by
 obtain ⟨e1,m1,e2,m2,e4,e5,e6,m5,⟨cm,cg,co,cn,cl⟩,lowE,lt⟩:=h;have tb:=cH (dn:=dn) hl (z:=(i:Int)) (by omega) (by omega);have g:l[i]?=some l[i]:=y5 hi;have gm:(l.map CC)[i]?=some (CC (FA l (i:Int))):=by simp [FA,g]
 have rb:fC l (i:Int)=8:=by rw [<- wb]; simp [fC,FA,g]
 have nb:zB l (i:Int)={ sA.of 7 ⟨#[]⟩ with max:=(FA l (i:Int)).a % 4,elem:=(FA l (i:Int)).c % l.length }:=by simp only [zB,wb]; rw [if_pos hc]
 have hx:=TF hl hi;rw [rb] at tb;generalize FA l (i:Int)=x at *
 have eb:=rD 8;obtain ⟨xk,xa,xb,xc,_⟩:=hx0 x hx;have kv:x.a.tmod 4=x.a % 4:=yw xa.1;have tu:IntKind.i64.wrap (x.a % 4)=x.a % 4:=IntWalk.i64_in _ (by omega);have gk:IntKind.i64.wrap x.c=x.c:=IntWalk.i64_in _ (by simp only [u8] at xc; omega);have wz:x.c.tmod l.length=x.c % l.length:=yw xc.1;have bq:¬ (l.length:Int)=0:=by omega
 have fh:¬ l=[]:=by intro e; rw [e] at hi; simp at hi
 have dc:=key_ev dn l hl x.b xb;simp only [fA,FF] at dc;simp only [fA,FF,CC] at tb gm;obtain ⟨z,hz⟩:∃ z:Int,z=i:=⟨_,rfl⟩;have gc:0<=z:=by omega
 rw [<- hz] at e6 tb;rw [show i=z.toNat from by omega] at gm;simp [CB,-V,-y4,-y3,y0,e1,m1,e4,e6,gc,gm,tb,eb,kv,tu,gk,wz,bq,fh,dc,hc];refine hk (s.next + 1) _ ⟨⟨?_,?_,?_,?_,?_,?_,?_,?_,⟨?_,?_,?_,?_,?_⟩,?_,?_⟩,?_,?_,?_⟩
 ·simp [e1]
 ·simp [m1]
 ·simp [e2]
 ·simpa using m2
 ·simp [e4]
 ·simp [e5]
 ·simp [e6,hz]
 ·exact m5.keep (by simp) (fun N _=>by simp) (fun N _=>by simp) (by dsimp only; omega)
 ·repeat (first | exact cm | refine nC.set ?_ (by omega))
 ·exact cg
 ·exact co
 ·dsimp only; omega
 ·exact ((((((((cl.mono (by dsimp only; omega)).set aA).set aA).set aA).set aA).set aA).set aA).set aA).set aA
 ·dsimp only
  repeat (first | exact lowE.mono (by omega) | refine uB.put ?_ (fun _ _ _=>rfl) | refine uB.put ?_ (eD (by omega)))
 ·dsimp only; omega
 ·simp
 ·dsimp only; omega
 ·refine ⟨.sl true [],_,by simp; rfl,?_,.inl ⟨?_,rfl⟩⟩
  ·rw [nb]; simp [xF,sA.of]
  ·rw [nb]; rfl
theorem kind8p_ev (wb:(FA l (i:Int)).kind=8) (hc:¬ gK l (FA l (i:Int)).b<0) (hk:∀ n8 s',KM n0 s0 dn l i n8 s'->SD.run (cE dA eA) (BJ dA eA) s' k=some r):CB.run (cE dA eA) (BJ dA eA) s k=some r:=by
 obtain ⟨e1,m1,e2,m2,e4,e5,e6,m5,⟨cm,cg,co,cn,cl⟩,lowE,lt⟩:=h;have tb:=cH (dn:=dn) hl (z:=(i:Int)) (by omega) (by omega);have g:l[i]?=some l[i]:=y5 hi;have gm:(l.map CC)[i]?=some (CC (FA l (i:Int))):=by simp [FA,g]
 have rb:fC l (i:Int)=8:=by rw [<- wb]; simp [fC,FA,g]
 have nb:zB l (i:Int)={ sA.of 8 ⟨#[]⟩ with max:=(FA l (i:Int)).a % 4,key:=gK l (FA l (i:Int)).b,elem:=(FA l (i:Int)).c % l.length }:=by simp only [zB,wb]; rw [if_neg hc]
 have hx:=TF hl hi;rw [rb] at tb;generalize FA l (i:Int)=x at *
 have eb:=rD 8;obtain ⟨xk,xa,xb,xc,_⟩:=hx0 x hx;have kv:x.a.tmod 4=x.a % 4:=yw xa.1;have tu:IntKind.i64.wrap (x.a % 4)=x.a % 4:=IntWalk.i64_in _ (by omega);have gk:IntKind.i64.wrap x.c=x.c:=IntWalk.i64_in _ (by simp only [u8] at xc; omega);have wz:x.c.tmod l.length=x.c % l.length:=yw xc.1;have bq:¬ (l.length:Int)=0:=by omega
 have fh:¬ l=[]:=by intro e; rw [e] at hi; simp at hi
 have dc:=key_ev dn l hl x.b xb;simp only [fA,FF] at dc;simp only [fA,FF,CC] at tb gm;obtain ⟨z,hz⟩:∃ z:Int,z=i:=⟨_,rfl⟩;have gc:0<=z:=by omega
 rw [<- hz] at e6 tb;rw [show i=z.toNat from by omega] at gm;simp [CB,-V,-y4,-y3,y0,e1,m1,e4,e6,gc,gm,tb,eb,kv,tu,gk,wz,bq,fh,dc,hc];refine hk (s.next + 1) _ ⟨⟨?_,?_,?_,?_,?_,?_,?_,?_,⟨?_,?_,?_,?_,?_⟩,?_,?_⟩,?_,?_,?_⟩
 ·simp [e1]
 ·simp [m1]
 ·simp [e2]
 ·simpa using m2
 ·simp [e4]
 ·simp [e5]
 ·simp [e6,hz]
 ·exact m5.keep (by simp) (fun N _=>by simp) (fun N _=>by simp) (by dsimp only; omega)
 ·repeat (first | exact cm | refine nC.set ?_ (by omega))
 ·exact cg
 ·exact co
 ·dsimp only; omega
 ·exact (((((((cl.mono (by dsimp only; omega)).set aA).set aA).set aA).set aA).set aA).set aA).set aA
 ·dsimp only
  repeat (first | exact lowE.mono (by omega) | refine uB.put ?_ (fun _ _ _=>rfl) | refine uB.put ?_ (eD (by omega)))
 ·dsimp only; omega
 ·simp
 ·dsimp only; omega
 ·refine ⟨.sl true [],_,by simp; rfl,?_,.inl ⟨?_,rfl⟩⟩
  ·rw [nb]; simp [xF,sA.of]
  ·rw [nb]; rfl
end
end
section
set_option maxHeartbeats 4000000
theorem GY (l:List (List AV)):∀ x∈xA l,ZN x:=fun x hx=>by
 obtain ⟨v,_,rfl⟩:=yu.1 hx;exact ET v
theorem XI.stay {ms:List SB} {c:AV} {s s':pA} (h:XI ms c s) (hm:∀ n r,s.mem 88 n=some r->(∀ x∈r,ZN x)->s'.mem 88 n=some r) (hn:s.next<=s'.next):XI ms c s':=by
 rcases h with h | ⟨N,h1,h2,h3,h4⟩
 ·exact .inl h
 ·exact .inr ⟨N,h1,Nat.lt_of_lt_of_le h2 hn,h3,hm N _ h4 (GY _)⟩
theorem CI.stay {S:List sA} {L:List (List AV)} {s s':pA} (h:CI S L s) (hm:∀ n r,s.mem 88 n=some r->(∀ x∈r,ZN x)->s'.mem 88 n=some r) (hn:s.next<=s'.next):CI S L s' :=
 ⟨h.1,fun i t c ht hc=>by obtain ⟨m,h1,h2⟩:=h.2 i t c ht hc; exact ⟨m,h1,h2.stay hm hn⟩⟩
theorem M5I.stay {n0:Nat} {l:List jC} {i:Nat} {s s':pA} (h:M5I n0 l i s) (hm:∀ t n r,(t=5\/t=88\/t=168)->s.mem t n=some r->(∀ x∈r,ZN x)->s'.mem t n=some r) (hn:s.next<=s'.next):M5I n0 l i s':=by
 rcases h with ⟨h1,a,h2,h3⟩ | ⟨N,L,h1,h2,h0,h3,h4,h6,h7⟩
 ·exact .inl ⟨h1,a,hm 5 _ _ (.inl rfl) h2 (by simpa using h3),h3⟩
 ·exact .inr ⟨N,L,h1,hm 5 _ _ (.inl rfl) h2 (by simpa using ET _),h0,Nat.lt_of_lt_of_le h3 hn,hm 168 _ _ (.inr (.inr rfl)) h4 (GY _),h6,h7.stay (fun n r=>hm 88 n r (.inr (.inl rfl))) hn⟩
theorem kind4_ev {r:RV} {n0:Nat} {s0:pA} {dn:Bool} {l:List jC} (hl:oks l) (hG:GW s0.gh) (hP:PureM n0 s0.mem) {i:Nat} (hi:i<l.length) {s:pA} {k:Ex->pA->Option RV} (h:s5 n0 s0 dn l i s) (wb:(FA l (i:Int)).kind=4) (hk:∀ n8 s',KM n0 s0 dn l i n8 s'->SD.run (cE dA eA) (BJ dA eA) s' k=some r):CB.run (cE dA eA) (BJ dA eA) s k=some r:=by
 obtain ⟨e1,m1,e2,m2,e4,e5,e6,m5,⟨cm,cg,co,cn,cl⟩,lowE,lt⟩:=h;have tb:=cH (dn:=dn) hl (z:=(i:Int)) (by omega) (by omega);have g:l[i]?=some l[i]:=y5 hi;have gm:(l.map CC)[i]?=some (CC (FA l (i:Int))):=by simp [FA,g]
 have rb:fC l (i:Int)=4:=by rw [<- wb]; simp [fC,FA,g]
 have nb:zB l (i:Int)={ sA.of 4 (qK i) with opn:=decide ((FA l (i:Int)).b % 2=1),sn:=false,syms:=rI (FA l (i:Int)).a }:=by simp only [zB,wb]
 have hx:=TF hl hi;have hN5:=hl.2.1;rw [rb] at tb;generalize FA l (i:Int)=x at *
 have eb:=rD 4;have ug:=ids7_ev x hx;obtain ⟨xk,xa,xb,xc,_⟩:=hx0 x hx;have uy:x.b.tmod 2=x.b % 2:=yw xb.1;simp only [fA,FF,CC] at tb gm ug;obtain ⟨z,hz⟩:∃ z:Int,z=i:=⟨_,rfl⟩;have gc:0<=z:=by omega
 have du:IntKind.i64.wrap (65 + z)=65 + z:=IntWalk.i64_in _ (by omega);have zk:IntKind.i32.wrap (65 + z)=65 + z:=cX _ (by omega);rw [<- hz] at e6 tb;rw [show i=z.toNat from by omega] at gm;simp [CB,-V,-y4,-y3,y0,e1,m1,e4,e6,gc,gm,tb,eb,ug,uy,du,zk];refine esyms_ev (a:=x.a) (n8:=s.next + 1) (nm:=Utf8.encode (65 + z)) (op:=decide (x.b % 2=1)) _ _ ?_ ?_ ?_ ?_ ?_ ?_ ?_ ?_ (fun s' h1 h2 h3 h4 h5 h6 h7 h8=>?_)
 ·simp
 ·simp
 ·simp
 ·dsimp only; omega
 ·simp [WJ]
 ·show GW s.gh;rw [cg]; exact hG
 ·exact ((((((cl.mono (by dsimp only; omega)).set aA).set aA).set aA).set aA).set aA).set aA
 ·dsimp only
  repeat (first | exact lowE.mono (by omega) | refine uB.put ?_ (fun _ _ _=>rfl) | refine uB.put ?_ (eD (by omega)))
 ·obtain ⟨an,h8⟩:=h8;simp [-V,-y4,-y3,y0];have pb:∀ t n r,¬ t=8->¬ t=7->s.mem t n=some r->(∀ x∈r,ZN x)->s'.mem t n=some r:=fun t n r t8 t7 hr hp=>by
   refine (h2 t n (by omega) fun r' ze=>?_).trans ?_
   ·simp [t7,t8,hr] at ze;subst ze;exact hp
   ·simp [t7,t8,hr]
  refine hk (s.next + 1) s' ⟨⟨(h1 1 (by omega)).trans (by simp [e1]),pb 1 n0 _ (by omega) (by omega) m1 (by simpa using ET _),(h1 2 (by omega)).trans (by simp [e2]),?_,(h1 4 (by omega)).trans (by simp [e4]),(h1 5 (by omega)).trans (by simp [e5]),(h1 6 (by omega)).trans (by simp [e6,hz]),?_,⟨?_,?_,?_,?_,h6⟩,h7,?_⟩,(h1 8 (by omega)).trans (by simp),?_,?_⟩
  ·obtain ⟨a,m2,p2⟩:=m2;exact ⟨a,pb 2 n0 _ (by omega) (by omega) m2 (by simpa using p2),p2⟩
  ·exact m5.stay (fun t n r ht=>pb t n r (by omega) (by omega)) (by dsimp only at h5; omega)
  ·intro t n hn;refine (h2 t n (by omega) fun r' ze=>?_).trans ?_
   ·simp [show ¬ n=s.next from by omega,show ¬ n=s.next + 1 from by omega,cm t n hn] at ze;exact hP t n r' hn ze
   ·simp [show ¬ n=s.next from by omega,show ¬ n=s.next + 1 from by omega,cm t n hn]
  ·rw [h3]; exact cg
  ·rw [h4]; exact co
  ·dsimp only at h5; omega
  ·dsimp only at h5; omega
  ·dsimp only at h5; omega
  ·refine ⟨.sl true [],_,h8,?_,.inl ⟨?_,rfl⟩⟩
   ·rw [nb,hz]; simp [xF,sA.of,WJ,qK]
   ·rw [nb]; rfl
end
section
set_option maxHeartbeats 4000000
theorem uB.wait {m nt:Nat} {e g:Nat->wA} (h:uB m e) (h':uB m g):uB m (N2 nt e g):=fun t=>by
 rw [GE];split
 ·exact h t
 ·exact h' _
theorem uB.back {m nt:Nat} {g:Nat->wA} (h:uB m g):uB m (backE nt g):=fun t=>by
 rw [bN];split
 ·exact h t
 ·exact fun _ _ _=>rfl
theorem E2 (nt:Nat) (e g:Nat->wA):SV nt (N2 nt e g)=g:=funext fun t=>by
 rw [j9,GE,if_neg (by omega)];congr 1;omega
theorem nC.trans {m m':Nat} {A B C:Nat->Nat->Option (List wA)} (h:nC m A B) (h':nC m' B C) (hm:m<=m'):nC m A C:=fun t n hn=>(h' t n (by omega)).trans (h t n hn)
theorem XI.lowV {ms:List SB} {c:AV} {s:pA} (h:XI ms c s):lowV s.next c:=lowV_of h.low (by
 rcases h with ⟨_,rfl⟩ | ⟨N,_,_,rfl,_⟩ <;> rfl)
section
variable {r:RV} {n0:Nat} {s0:pA} {dn:Bool} {l:List jC} (hl:oks l) (hG:uB n0 s0.gh) {i:Nat} (hi:i<l.length) {s:pA} {k:Ex->pA->Option RV} (h:s5 n0 s0 dn l i s)
include r n0 s0 dn l hl hG i hi s k h
theorem kind5_ev (wb:(FA l (i:Int)).kind=5) (hk:∀ n8 s',KM n0 s0 dn l i n8 s'->SD.run (cE dA eA) (BJ dA eA) s' k=some r):CB.run (cE dA eA) (BJ dA eA) s k=some r:=by
 obtain ⟨e1,m1,e2,m2,e4,e5,e6,m5,⟨cm,cg,co,cn,cl⟩,lowE,lt⟩:=h;have tb:=cH (dn:=dn) hl (z:=(i:Int)) (by omega) (by omega);have g:l[i]?=some l[i]:=y5 hi;have gm:(l.map CC)[i]?=some (CC (FA l (i:Int))):=by simp [FA,g]
 have gx:l[((i:Int)).toNat]?=some (FA l (i:Int)):=by simp [FA,g]
 have rb:fC l (i:Int)=5:=by rw [<- wb]; simp [fC,FA,g]
 have nb:zB l (i:Int)={ sA.of 5 (qK (i:Int)) with mn:=(SE l (i:Int) true (FA l (i:Int)).parts).isEmpty,mems:=(SE l (i:Int) true (FA l (i:Int)).parts) }:=by simp only [zB,wb]
 have hx:=TF hl hi;have hN5:=hl.2.1;rw [rb] at tb;generalize FA l (i:Int)=x at *
 have eb:=rD 5;obtain ⟨xk,xa,xb,xc,_⟩:=hx0 x hx;have uy:x.b.tmod 2=x.b % 2:=yw xb.1;simp only [fA,FF,CC] at tb gm;obtain ⟨z,hz⟩:∃ z:Int,z=i:=⟨_,rfl⟩;have gc:0<=z:=by omega
 have tn:z<l.length:=by omega
 have du:IntKind.i64.wrap (65 + z)=65 + z:=IntWalk.i64_in _ (by omega);have zk:IntKind.i32.wrap (65 + z)=65 + z:=cX _ (by omega);rw [<- hz] at e6 tb gx nb;rw [show i=z.toNat from by omega] at gm;simp [CB,-V,-y4,-y3,y0,e1,m1,e4,e6,gc,gm,tb,eb,du,zk,uy];refine i9 hl gc tn gx _ ?_ ?_ _ (fun y s' hc hli=>?_)
 ·exact (((((cl.mono (by dsimp only; omega)).set aA).set aA).set aA).set aA).set aA
 ·dsimp only;refine uB.wait ?_ (by rw [cg]; exact hG.mono (by omega))
  repeat (first | exact lowE.mono (by omega) | refine uB.put ?_ (fun _ _ _=>rfl) | refine uB.put ?_ (eD (by omega)))
 ·obtain ⟨dk,ej,co2,cn2,cl2⟩:=hc;dsimp only at ej co2 cn2 dk;have kq:=hli.mems;have dq:=kq.lowV;have g1:(s'.gh 1).v=.ptr 1 n0 0:=by rw [ej]; simp [GE,e1]
  have g2:(s'.gh 2).v=.ptr 2 n0 0:=by rw [ej]; simp [GE,e2]
  have g4:(s'.gh 4).v=.int .i64 l.length:=by rw [ej]; simp [GE,e4]
  have g5:(s'.gh 5).v=.ptr 5 (n0 + 3) 0:=by rw [ej]; simp [GE,e5]
  have g6:(s'.gh 6).v=.int .i64 z:=by rw [ej]; simp [GE,e6]
  have g8:(s'.gh 8).v=.ptr 8 (s.next + 1) 0:=by rw [ej]; simp [GE]
  have m8:s'.mem 8 (s.next + 1)=some [⟨.int .i64 5,.no⟩,⟨.str (Utf8.encode (65 + z)),.no⟩,⟨.int .i64 0,.no⟩,⟨.int .i64 0,.no⟩,⟨.int .i64 0,.no⟩,⟨.sl true [],.no⟩,⟨.sl true [],.no⟩,⟨.int .i64 0,.no⟩,⟨.int .i64 0,.no⟩,⟨.bool false,.no⟩]:=by rw [dk 8 (s.next + 1) (by omega)]; simp
  have bz:uB s'.next s'.gh:=by
   rw [ej];refine uB.wait ?_ (by rw [cg]; exact hG.mono (by omega))
   repeat (first | exact lowE.mono (by omega) | refine uB.put ?_ (fun _ _ _=>rfl) | refine uB.put ?_ (eD (by omega)))
  have uO:∀ (E:Nat->wA) (M:Nat->Nat->Option (List wA)) (row:List wA) (nx:Nat),(∀ t,t<9->(E t).v=(s'.gh t).v)->uB s'.next E->s'.next<nx->(∀ t n,M t n=if t=8/\n=s.next + 1 then some row else s'.mem t n)->(∀ q∈row,lowV s'.next q.v)->(∃ m,row.map (·.v)=xF (zB l z) m/\XI (zB l z).mems m s')->KM n0 s0 dn l i (s.next + 1) ⟨E,M,nx,s'.obj,SV 171 s'.gh⟩:=fun E M row nx hE hEl ld hM hrl hr=>by
   refine ⟨⟨?_,?_,?_,?_,?_,?_,?_,?_,⟨?_,?_,?_,?_,?_⟩,?_,?_⟩,?_,?_,?_⟩
   ·exact (hE 1 (by omega)).trans g1
   ·simp [hM,dk 1 n0 (by omega),m1]
   ·exact (hE 2 (by omega)).trans g2
   ·simpa [hM,dk 2 n0 (by omega)] using m2
   ·exact (hE 4 (by omega)).trans g4
   ·exact (hE 5 (by omega)).trans g5
   ·exact (hE 6 (by omega)).trans (by rw [g6,hz])
   ·refine m5.keep (by simp [hM,dk 5 (n0 + 3) (by omega)]) (fun N hN=>by simp [hM,dk 168 N (by omega)]) (fun N hN=>by simp [hM,dk 88 N (by omega)]) (by dsimp only; omega)
   ·intro t n hn;show M t n=_;rw [hM,if_neg (by omega),dk t n (by omega)];simp [show ¬ n=s.next from by omega,show ¬ n=s.next + 1 from by omega,cm t n hn]
   ·show SV 171 s'.gh=s0.gh;rw [ej,E2];exact cg
   ·exact co2.trans co
   ·dsimp only; omega
   ·intro t n r' ze q hq;have ze:M t n=some r':=ze;rw [hM] at ze;split at ze
    ·injection ze with ze; subst ze;exact JI (by dsimp only; omega) (hrl q hq)
    ·exact JI (by dsimp only; omega) (cl2 t n r' ze q hq)
   ·exact hEl.mono (by dsimp only; omega)
   ·dsimp only; omega
   ·exact (hE 8 (by omega)).trans g8
   ·dsimp only; omega
   ·obtain ⟨m,ff,ah⟩:=hr;rw [<- hz];refine ⟨m,row,by show M 8 _=_; rw [hM,if_pos ⟨rfl,rfl⟩],ff,ah.keep (fun N hN=>?_) (by dsimp only; omega)⟩;show M 88 N=_;rw [hM,if_neg (by omega)]
  rcases kq with ⟨_,e⟩ | ⟨N,_,_,e,_⟩
  ·simp [-V,-y4,-y3,y0,g8,m8,e];refine hk _ _ (uO _ _ _ _ (fun t ht=>?_) ?_ (by omega) (fun t n=>by simp [wB]; rfl) (fun q hq=>?_) ?_)
   ·have q:∀ c,9<=c->¬ t=c:=fun c hc=>by omega
    simp [q,bN,show t<171 from by omega]
   ·repeat (first | exact bz.back | refine uB.put ?_ (fun _ _ _=>rfl) | refine uB.put ?_ (eD (by omega)) | refine uB.put ?_ dq | refine uB.put ?_ (by rw [<- e]; exact dq))
   ·simp only [yh,yH,or_false] at hq;rcases hq with rfl | rfl | rfl | rfl | rfl | rfl | rfl | rfl | rfl | rfl <;> first | exact SN rfl | (rw [<- e]; exact dq)
   ·exact ⟨y.v,by rw [nb,e]; simp [xF,sA.of,qK],by rw [nb]; exact hli.mems⟩
  ·simp [-V,-y4,-y3,y0,g8,m8,e];refine hk _ _ (uO _ _ _ _ (fun t ht=>?_) ?_ (by omega) (fun t n=>by simp [wB]; rfl) (fun q hq=>?_) ?_)
   ·have q:∀ c,9<=c->¬ t=c:=fun c hc=>by omega
    simp [q,bN,show t<171 from by omega]
   ·repeat (first | exact bz.back | refine uB.put ?_ (fun _ _ _=>rfl) | refine uB.put ?_ (eD (by omega)) | refine uB.put ?_ dq | refine uB.put ?_ (by rw [<- e]; exact dq))
   ·simp only [yh,yH,or_false] at hq;rcases hq with rfl | rfl | rfl | rfl | rfl | rfl | rfl | rfl | rfl | rfl <;> first | exact SN rfl | (rw [<- e]; exact dq)
   ·exact ⟨y.v,by rw [nb,e]; simp [xF,sA.of,qK],by rw [nb]; exact hli.mems⟩
theorem kind6_ev (wb:(FA l (i:Int)).kind=6) (hk:∀ n8 s',KM n0 s0 dn l i n8 s'->SD.run (cE dA eA) (BJ dA eA) s' k=some r):CB.run (cE dA eA) (BJ dA eA) s k=some r:=by
 obtain ⟨e1,m1,e2,m2,e4,e5,e6,m5,⟨cm,cg,co,cn,cl⟩,lowE,lt⟩:=h;have tb:=cH (dn:=dn) hl (z:=(i:Int)) (by omega) (by omega);have g:l[i]?=some l[i]:=y5 hi;have gm:(l.map CC)[i]?=some (CC (FA l (i:Int))):=by simp [FA,g]
 have gx:l[((i:Int)).toNat]?=some (FA l (i:Int)):=by simp [FA,g]
 have rb:fC l (i:Int)=6:=by rw [<- wb]; simp [fC,FA,g]
 have nb:zB l (i:Int)=if (SE l (i:Int) false (FA l (i:Int)).parts).isEmpty=true then .of 5 (qK (i:Int)) else { sA.of 6 (qK (i:Int)) with opn:=decide ((FA l (i:Int)).b % 2=1),mn:=false,mems:=(SE l (i:Int) false (FA l (i:Int)).parts) }:=by simp only [zB,wb]
 have hx:=TF hl hi;have hN5:=hl.2.1;rw [rb] at tb;generalize FA l (i:Int)=x at *
 have eb:=rD 6;obtain ⟨xk,xa,xb,xc,_⟩:=hx0 x hx;have uy:x.b.tmod 2=x.b % 2:=yw xb.1;simp only [fA,FF,CC] at tb gm;obtain ⟨z,hz⟩:∃ z:Int,z=i:=⟨_,rfl⟩;have gc:0<=z:=by omega
 have tn:z<l.length:=by omega
 have du:IntKind.i64.wrap (65 + z)=65 + z:=IntWalk.i64_in _ (by omega);have zk:IntKind.i32.wrap (65 + z)=65 + z:=cX _ (by omega);rw [<- hz] at e6 tb gx nb;rw [show i=z.toNat from by omega] at gm;simp [CB,-V,-y4,-y3,y0,e1,m1,e4,e6,gc,gm,tb,eb,du,zk,uy];refine i9 hl gc tn gx _ ?_ ?_ _ (fun y s' hc hli=>?_)
 ·exact ((((((cl.mono (by dsimp only; omega)).set aA).set aA).set aA).set aA).set aA).set aA
 ·dsimp only;refine uB.wait ?_ (by rw [cg]; exact hG.mono (by omega))
  repeat (first | exact lowE.mono (by omega) | refine uB.put ?_ (fun _ _ _=>rfl) | refine uB.put ?_ (eD (by omega)))
 ·obtain ⟨dk,ej,co2,cn2,cl2⟩:=hc;dsimp only at ej co2 cn2 dk;have kq:=hli.mems;have dq:=kq.lowV;have g1:(s'.gh 1).v=.ptr 1 n0 0:=by rw [ej]; simp [GE,e1]
  have g2:(s'.gh 2).v=.ptr 2 n0 0:=by rw [ej]; simp [GE,e2]
  have g4:(s'.gh 4).v=.int .i64 l.length:=by rw [ej]; simp [GE,e4]
  have g5:(s'.gh 5).v=.ptr 5 (n0 + 3) 0:=by rw [ej]; simp [GE,e5]
  have g6:(s'.gh 6).v=.int .i64 z:=by rw [ej]; simp [GE,e6]
  have g8:(s'.gh 8).v=.ptr 8 (s.next + 1) 0:=by rw [ej]; simp [GE]
  have m8:s'.mem 8 (s.next + 1)=some [⟨.int .i64 6,.no⟩,⟨.str (Utf8.encode (65 + z)),.no⟩,⟨.int .i64 0,.no⟩,⟨.int .i64 0,.no⟩,⟨.int .i64 0,.no⟩,⟨.sl true [],.no⟩,⟨.sl true [],.no⟩,⟨.int .i64 0,.no⟩,⟨.int .i64 0,.no⟩,⟨.bool (decide (x.b % 2=1)),.no⟩]:=by rw [dk 8 (s.next + 1) (by omega)]; simp
  have bz:uB s'.next s'.gh:=by
   rw [ej];refine uB.wait ?_ (by rw [cg]; exact hG.mono (by omega))
   repeat (first | exact lowE.mono (by omega) | refine uB.put ?_ (fun _ _ _=>rfl) | refine uB.put ?_ (eD (by omega)))
  have uO:∀ (E:Nat->wA) (M:Nat->Nat->Option (List wA)) (row:List wA) (nx:Nat),(∀ t,t<9->(E t).v=(s'.gh t).v)->uB s'.next E->s'.next<nx->(∀ t n,M t n=if t=8/\n=s.next + 1 then some row else s'.mem t n)->(∀ q∈row,lowV s'.next q.v)->(∃ m,row.map (·.v)=xF (zB l z) m/\XI (zB l z).mems m s')->KM n0 s0 dn l i (s.next + 1) ⟨E,M,nx,s'.obj,SV 171 s'.gh⟩:=fun E M row nx hE hEl ld hM hrl hr=>by
   refine ⟨⟨?_,?_,?_,?_,?_,?_,?_,?_,⟨?_,?_,?_,?_,?_⟩,?_,?_⟩,?_,?_,?_⟩
   ·exact (hE 1 (by omega)).trans g1
   ·simp [hM,dk 1 n0 (by omega),m1]
   ·exact (hE 2 (by omega)).trans g2
   ·simpa [hM,dk 2 n0 (by omega)] using m2
   ·exact (hE 4 (by omega)).trans g4
   ·exact (hE 5 (by omega)).trans g5
   ·exact (hE 6 (by omega)).trans (by rw [g6,hz])
   ·refine m5.keep (by simp [hM,dk 5 (n0 + 3) (by omega)]) (fun N hN=>by simp [hM,dk 168 N (by omega)]) (fun N hN=>by simp [hM,dk 88 N (by omega)]) (by dsimp only; omega)
   ·intro t n hn;show M t n=_;rw [hM,if_neg (by omega),dk t n (by omega)];simp [show ¬ n=s.next from by omega,show ¬ n=s.next + 1 from by omega,cm t n hn]
   ·show SV 171 s'.gh=s0.gh;rw [ej,E2];exact cg
   ·exact co2.trans co
   ·dsimp only; omega
   ·intro t n r' ze q hq;have ze:M t n=some r':=ze;rw [hM] at ze;split at ze
    ·injection ze with ze; subst ze;exact JI (by dsimp only; omega) (hrl q hq)
    ·exact JI (by dsimp only; omega) (cl2 t n r' ze q hq)
   ·exact hEl.mono (by dsimp only; omega)
   ·dsimp only; omega
   ·exact (hE 8 (by omega)).trans g8
   ·dsimp only; omega
   ·obtain ⟨m,ff,ah⟩:=hr;rw [<- hz];refine ⟨m,row,by show M 8 _=_; rw [hM,if_pos ⟨rfl,rfl⟩],ff,ah.keep (fun N hN=>?_) (by dsimp only; omega)⟩;show M 88 N=_;rw [hM,if_neg (by omega)]
  rcases kq with ⟨h0,e⟩ | ⟨N,h0,_,e,_⟩
  ·simp [-V,-y4,-y3,y0,g8,m8,e];refine hk _ _ (uO _ _ _ _ (fun t ht=>?_) ?_ (by omega) (fun t n=>by simp [wB]; split <;> rfl) (fun q hq=>?_) ?_)
   ·have q:∀ c,9<=c->¬ t=c:=fun c hc=>by omega
    simp [q,bN,show t<171 from by omega]
   ·repeat (first | exact bz.back | refine uB.put ?_ (fun _ _ _=>rfl) | refine uB.put ?_ (eD (by omega)) | refine uB.put ?_ dq | refine uB.put ?_ (by rw [<- e]; exact dq))
   ·simp only [yh,yH,or_false] at hq;rcases hq with rfl | rfl | rfl | rfl | rfl | rfl | rfl | rfl | rfl | rfl <;> first | exact SN rfl | (rw [<- e]; exact dq)
   ·refine ⟨.sl true [],?_,.inl ⟨?_,rfl⟩⟩
    ·rw [nb,if_pos (by simp [h0])]; simp [xF,sA.of,qK]
    ·rw [nb,if_pos (by simp [h0])]; rfl
  ·have fh:¬ ((SE l z false x.parts).length:Int)=0:=by
    have:=List.length_pos_iff.2 h0;omega
   simp [-V,-y4,-y3,y0,g8,m8,e,fh,h0];refine hk _ _ (uO _ _ _ _ (fun t ht=>?_) ?_ (by omega) (fun t n=>by simp [wB]; rfl) (fun q hq=>?_) ?_)
   ·have q:∀ c,9<=c->¬ t=c:=fun c hc=>by omega
    simp [q,bN,show t<171 from by omega]
   ·repeat (first | exact bz.back | refine uB.put ?_ (fun _ _ _=>rfl) | refine uB.put ?_ (eD (by omega)) | refine uB.put ?_ dq | refine uB.put ?_ (by rw [<- e]; exact dq))
   ·simp only [yh,yH,or_false] at hq;rcases hq with rfl | rfl | rfl | rfl | rfl | rfl | rfl | rfl | rfl | rfl <;> first | exact SN rfl | (rw [<- e]; exact dq)
   ·exact ⟨y.v,by rw [nb,if_neg (by simpa using h0),e]; simp [xF,sA.of,qK],by rw [nb,if_neg (by simpa using h0)]; exact hli.mems⟩
end
end
section
set_option maxHeartbeats 4000000
structure OfJ (n0:Nat) (s0:pA) (dn:Bool) (l:List jC) (i j:Nat) (s:pA):Prop where
 e1:(s.env 1).v=.ptr 1 n0 0
 m1:s.mem 1 n0=some [⟨.sl dn (l.map CC),.no⟩]
 e2:(s.env 2).v=.ptr 2 n0 0
 m2:∃ a,s.mem 2 n0=some [⟨.sl true [],a⟩]/\ZN ⟨.sl true [],a⟩
 e4:(s.env 4).v=.int .i64 l.length
 e5:(s.env 5).v=.ptr 5 (n0 + 3) 0
 e6:(s.env 6).v=.int .i64 i
 m5:M5I n0 l j s
 calm:Calm n0 s0 s
 lowE:uB s.next s.env
 lt:n0 + 3<s.next
theorem uG {sz:Nat} {L:List (List AV)} (h:∀ c∈L,c.length=sz):qH (xA L) sz 0 L.length=some L:=by
 have ia:∀ {L:List (List AV)},(∀ c∈L,c.length=sz)->L.flatten.length=L.length * sz:=by
  intro L h
  induction L with
  | nil=>simp
  | cons c r ih =>
   simp only [yD,yy,yI];rw [ih fun c hc=>h c (yo _ hc),h c ym,yA];omega
 have hv:∀ l:List AV,(l.map fun v=>(⟨v,An.no⟩:wA)).map (·.v)=l:=fun l=>by simp [Function.comp_def]
 unfold qH;rw [if_pos (by rw [xA,yq,ia h]; omega)];congr 1;refine List.ext_getElem (by simp) fun i h1 h2=>?_
 simp only [List.getElem_map,List.getElem_range,yG];simp only [xA];rw [<- List.map_drop,<- List.map_take,hv]
 induction L generalizing i with
 | nil=>simp at h2
 | cons c r ih =>
  have hc:=h c ym;cases i with
  | zero=>simp [<- hc]
  | succ i =>
   simp only [yD,List.getElem_cons_succ];rw [yA,Nat.add_comm,<- hc,<- List.drop_drop];rw [List.drop_left,hc];exact ih (fun c hc=>h c (yo _ hc)) i (by simpa using h2) (by simpa using h2)
theorem XI.stay2 {ms:List SB} {c:AV} {s s':pA} (h:XI ms c s) (hm:∀ n L,XD L=true->s.mem 88 n=some (xA L)->s'.mem 88 n=some (xA L)) (hn:s.next<=s'.next):XI ms c s':=by
 rcases h with h | ⟨N,h1,h2,h3,h4⟩
 ·exact .inl h
 ·exact .inr ⟨N,h1,Nat.lt_of_lt_of_le h2 hn,h3,hm N _ (G1 _) h4⟩
theorem CI.stay2 {S:List sA} {L:List (List AV)} {s s':pA} (h:CI S L s) (hm:∀ n L,XD L=true->s.mem 88 n=some (xA L)->s'.mem 88 n=some (xA L)) (hn:s.next<=s'.next):CI S L s' :=
 ⟨h.1,fun i t c ht hc=>by obtain ⟨m,h1,h2⟩:=h.2 i t c ht hc; exact ⟨m,h1,h2.stay2 hm hn⟩⟩
theorem tail_ev {r:RV} {n0:Nat} {s0:pA} {dn:Bool} {l:List jC} (hl:oks l) (hM0:QL n0 s0.mem) (hG:uB n0 s0.gh) {i:Nat} (hi:i<l.length) {n8:Nat} {s:pA} {k:Ex->pA->Option RV} (h:KM n0 s0 dn l i n8 s) (hk:∀ s',OfJ n0 s0 dn l i (i + 1) s'->k .nrm s'=some r):SD.run (cE dA eA) (BJ dA eA) s k=some r:=by
 obtain ⟨⟨e1,m1,e2,m2,e4,e5,e6,m5,⟨cm,cg,co,cn,cl⟩,lowE,lt⟩,e8,lt8,m,row,m8,ka,kq⟩:=h;have hN5:=hl.2.1;generalize hT:zB l (i:Int)=T at *
 have zr:=kq;have ia:row.length=10:=by have:=congrArg List.length ka; simpa [xF] using this
 have nr:jB true 10 0 row=some ⟨.agg (xF T m),.no⟩:=by
  unfold jB;simp [ia,<- ka];rw [yC (by rw [yq]; omega)]
 have hCl:(xF T m).length=10:=rfl;have hmf:∀ t n,t≠88->m.noName t n=true:=fun t n ht=>by
  rcases kq with ⟨_,rfl⟩ | ⟨N,_,_,rfl,_⟩
  ·rfl
  ·simp [AV.noName];omega
 have hmw:m.leaf=true:=by
  rcases kq with ⟨_,rfl⟩ | ⟨N,_,_,rfl,_⟩ <;> rfl
 have lq:∀ t n,t≠88->(xF T m).all (AV.noName t n)=true:=fun t n ht=>by
  refine y6.2 fun c hc=>?_
  simp only [xF,yh,yH,or_false] at hc;rcases hc with rfl | rfl | rfl | rfl | rfl | rfl | rfl | rfl | rfl | rfl <;> first | exact hmf t n ht | rfl
 have jo:∀ c∈xF T m,D8 s.next c:=fun c hc=>by
  simp only [xF,yh,yH,or_false] at hc;rcases hc with rfl | rfl | rfl | rfl | rfl | rfl | rfl | rfl | rfl | rfl <;> first | exact zr.low | exact cQ rfl
 have sr:∀ c∈xF T m,c.leaf=true:=fun c hc=>by
  simp only [xF,yh,yH,or_false] at hc;rcases hc with rfl | rfl | rfl | rfl | rfl | rfl | rfl | rfl | rfl | rfl <;> first | exact hmw | rfl
 have ja:kB 120 (i + 1)=true:=by rw [PA]; omega
 have so:(AV.agg (xF T m)).whole=true:=rfl;rcases m5 with ⟨ri,a,h5,hp5⟩ | ⟨N,L,ri,h5,bq,hN,ak,hLl,nb⟩
 ·subst ri;have zy:lB 10 [xF T m]=true:=rfl;have hraw:qH (xA [xF T m]) 10 0 1=some [xF T m]:=uG (L:=[xF T m]) (by simp [hCl]);generalize hC:xF T m=C at *
  have hC2:C.length=10:=hCl;simp [SD,-V,-y4,-y3,y0,-jB,-EA,cB,WB,ZA,XA,e5,e8,h5,m8,nr,AV.raws,hraw,ja,zy,hC2];have pk:∀ x∈xA [C],lowV s.next x.v:=j4 (fun c hc=>by simp only [yS] at hc; subst hc; exact jo) (fun c hc=>by simp only [yS] at hc; subst hc; exact sr);refine hk _ ⟨?_,?_,?_,?_,?_,?_,?_,.inr ⟨s.next,[C],by omega,by simp,by omega,by dsimp only; omega,by simp,rfl,?_⟩,⟨?_,?_,?_,?_,?_⟩,?_,?_⟩
  ·simp [e1]
  ·simp [m1]
  ·simp [e2]
  ·simpa using m2
  ·simp [e4]
  ·simp [e5]
  ·simp [e6]
  ·refine ⟨rfl,fun j t c ht hc=>?_⟩;have hj:j=0:=by
    rcases yJ j with h0 | h0
    ·exact h0
    ·rw [yZ (by simp; omega)] at hc; cases hc
   subst hj;simp at ht hc;subst ht;subst hc;rw [show zB l (0:Int)=T from hT];exact ⟨m,hC.symm,kq.keep (fun N hN=>by simp) (by dsimp only; omega)⟩
  ·repeat (first | exact cm | refine nC.set ?_ (by omega))
  ·exact cg
  ·exact co
  ·dsimp only; omega
  ·exact ((((cl.set pk).set pk).mono (Nat.le_succ _)).set fun x hx=>by simp at hx; subst hx; exact SP (by omega))
  ·dsimp only;have my:lowV s.next (.agg C):=SX jo
   repeat (first | exact lowE.mono (by omega) | refine uB.put ?_ (fun _ _ _=>rfl) | refine uB.put ?_ (eD (by omega)) | refine uB.put ?_ (SP (by omega)) | refine uB.put ?_ (JI (by omega) my))
  ·dsimp only; omega
 ·have td:∀ c∈L,c.length=10:=fun c hc=>by simpa using y6.1 nb.els c hc
  have zy:lB 10 [xF T m]=true:=rfl;have hraw:qH (xA [xF T m]) 10 0 1=some [xF T m]:=uG (L:=[xF T m]) (by simp [hCl]);have hraw2:qH (xA L) 10 0 i=some L:=by rw [<- hLl]; exact uG td
  have hnn2:(L++[xF T m]).flatten.all (AV.noName 168 N)=true:=by
   rw [List.flatten_append,List.all_append,y9];refine ⟨y6.2 fun v hv=>?_,by simpa using lq 168 N (by omega)⟩;obtain ⟨c,hc,hv⟩:=List.mem_flatten.1 hv;obtain ⟨j,hj,rfl⟩:=yz hc;have hjS:j<((List.range i).map fun (j:Nat)=>zB l (j:Int)).length:=by rw [nb.1]; exact hj
   obtain ⟨m',h1,h2⟩:=nb.2 j _ _ (y5 hjS) (y5 hj);rw [h1] at hv;simp only [xF,yh,yH,or_false] at hv;rcases hv with rfl | rfl | rfl | rfl | rfl | rfl | rfl | rfl | rfl | rfl <;> first | rfl | skip
   rcases h2 with ⟨_,rfl⟩ | ⟨N',_,_,rfl,_⟩ <;> rfl
  generalize hC:xF T m=C at *
  have hC2:C.length=10:=hCl;simp [SD,-V,-y4,-y3,y0,-jB,-EA,cB,WB,ZA,XA,e5,e8,h5,m8,nr,AV.raws,hraw,hraw2,ak,ja,zy,hC2,hnn2,-y6,-List.flatten_append,-List.all_flatten,-List.all_append];have te:IX 168 N s.gh=s.gh:=by rw [cg]; exact hG.same bq
  have pb:∀ (s':pA),s'.mem=FZ (FZ (O1 168 N (FZ s.mem 167 s.next (xA [C]))) 168 s.next (xA (L++[C]))) 5 (n0 + 3) [⟨.ref 168 s.next 10 0 (i + 1) (i + 1),.no⟩]->∀ n L,XD L=true->s.mem 88 n=some (xA L)->s'.mem 88 n=some (xA L):=fun s' xf n L' hL' h'=>by
   rw [xf];simp [h',FY hL']
  have pk:∀ x∈xA [C],lowV s.next x.v:=j4 (fun c hc=>by simp only [yS] at hc; subst hc; exact jo) (fun c hc=>by simp only [yS] at hc; subst hc; exact sr);have tz:∀ x∈xA (L++[C]),lowV s.next x.v:=fun x hx=>by
   rw [xA,List.flatten_append,yM] at hx;rcases yp.1 hx with hx | hx
   ·exact cl 168 N _ ak x hx
   ·exact pk x hx
  refine hk _ ⟨?_,?_,?_,?_,?_,?_,?_,.inr ⟨s.next,L++[C],by omega,by simp,by omega,by dsimp only; omega,by simp,by simp [hLl],?_⟩,⟨?_,?_,?_,?_,?_⟩,?_,?_⟩
  ·simp [eB,e1,AV.kill,AV.kill0]
  ·simp [dB,m1,AV.kill,AV.kill0]
  ·simp [eB,e2,AV.kill,AV.kill0]
  ·obtain ⟨a,m2,p2⟩:=m2;exact ⟨a,by simp [dB,m2,AV.kill,AV.kill0],p2⟩
  ·simp [eB,e4,AV.kill,AV.kill0]
  ·simp [eB,e5,AV.kill,AV.kill0]
  ·simp [eB,e6,AV.kill,AV.kill0]
  ·rw [y0,yM,yg,yk,hT];subst hC;exact (nb.stay2 (pb _ rfl) (by dsimp only; omega)).snoc (kq.stay2 (pb _ rfl) (by dsimp only; omega))
  ·exact (((cm.set (by omega)).kill hM0 bq).set (by omega)).set (by omega)
  ·show IX 168 N s.gh=s0.gh;rw [te];exact cg
  ·exact co
  ·dsimp only; omega
  ·exact ((((cl.set pk).kill.set tz).mono (Nat.le_succ _)).set fun x hx=>by simp at hx; subst hx; exact SP (by omega))
  ·dsimp only;have my:lowV s.next (.agg C):=SX jo;have hN':N<s.next + 1:=by omega
   repeat (first | exact lowE.mono (by omega) | refine uB.kill ?_ | refine uB.put ?_ (fun _ _ _=>rfl) | refine uB.put ?_ (eD (by omega)) | refine uB.put ?_ (SP (by omega)) | refine uB.put ?_ (JI (by omega) my))
  ·dsimp only; omega
end
section
set_option maxHeartbeats 4000000
theorem head_ev {r:RV} {n0:Nat} {s0:pA} {dn:Bool} {l:List jC} (hl:oks l) (hM:QL n0 s0.mem) (hP:PureM n0 s0.mem) (hG:uB n0 s0.gh) (hG':GW s0.gh) {i:Nat} (hi:i<l.length) {s:pA} {k:Ex->pA->Option RV} (h:s5 n0 s0 dn l i s) (hk:∀ s',OfJ n0 s0 dn l i (i + 1) s'->k .nrm s'=some r):CB.run (cE dA eA) (BJ dA eA) s k=some r:=by
 have ht:∀ n8 s',KM n0 s0 dn l i n8 s'->SD.run (cE dA eA) (BJ dA eA) s' k=some r:=fun n8 s' h'=>tail_ev hl hM hG hi h' hk
 have hx:=TF hl hi;have hr:1<=(FA l (i:Int)).kind/\(FA l (i:Int)).kind<=9:=by
  have:=hx.1.1;simp only [jC.kind];omega
 by_cases h1:(FA l (i:Int)).kind=1
 ·exact kind1_ev hl hi h h1 ht
 by_cases h2:(FA l (i:Int)).kind=2
 ·exact kind2_ev hl hi h h2 ht
 by_cases h3:(FA l (i:Int)).kind=3
 ·exact kind3_ev hl hi h h3 ht
 by_cases h4:(FA l (i:Int)).kind=4
 ·exact kind4_ev hl hG' hP hi h h4 ht
 by_cases h5:(FA l (i:Int)).kind=5
 ·exact kind5_ev hl hG hi h h5 ht
 by_cases h6:(FA l (i:Int)).kind=6
 ·exact kind6_ev hl hG hi h h6 ht
 by_cases h7:(FA l (i:Int)).kind=7
 ·exact kind7_ev hl hi h h7 ht
 by_cases h8:(FA l (i:Int)).kind=8
 ·by_cases hc:gK l (FA l (i:Int)).b<0
  ·exact kind8n_ev hl hi h h8 hc ht
  ·exact kind8p_ev hl hi h h8 hc ht
 ·exact kind9_ev hl hi h (by omega) ht
theorem OfJ.toI {n0:Nat} {s0:pA} {dn:Bool} {l:List jC} {i j:Nat} {s:pA} (h:OfJ n0 s0 dn l i j s) {E:Nat->wA} {nx:Nat} (hE:∀ t,t<9->¬ t=6->(E t).v=(s.env t).v) (h6:(E 6).v=.int .i64 j) (hL:uB nx E) (hn:s.next<=nx):s5 n0 s0 dn l j ⟨E,s.mem,nx,s.obj,s.gh⟩:=by
 obtain ⟨e1,m1,e2,m2,e4,e5,e6,m5,⟨cm,cg,co,cn,cl⟩,lowE,lt⟩:=h;exact ⟨(hE 1 (by omega) (by omega)).trans e1,m1,(hE 2 (by omega) (by omega)).trans e2,m2,(hE 4 (by omega) (by omega)).trans e4,(hE 5 (by omega) (by omega)).trans e5,h6,m5.keep rfl (fun _ _=>rfl) (fun _ _=>rfl) hn,⟨cm,cg,co,by dsimp only; omega,cl.mono hn⟩,hL,by dsimp only; omega⟩
theorem s5.toJ {n0:Nat} {s0:pA} {dn:Bool} {l:List jC} {i:Nat} {s:pA} (h:s5 n0 s0 dn l i s):OfJ n0 s0 dn l i i s:=⟨h.e1,h.m1,h.e2,h.m2,h.e4,h.e5,h.e6,h.m5,h.calm,h.lowE,h.lt⟩
def RA (l:List jC):List sA:=(List.range l.length).map fun (j:Nat)=>zB l (j:Int)
structure OfEnd (s0:pA) (l:List jC) (s:pA):Prop where
 calm:Calm s0.next s0 s
 e2:(s.env 2).v=.ptr 2 s0.next 0
 e3:(s.env 3).v=.bool true
 lt:s0.next<s.next
 typs:∃ N L,s.mem 2 s0.next=some [⟨.ref 168 N 10 0 l.length l.length,.no⟩]/\s0.next<=N/\N<s.next/\s.mem 168 N=some (xA L)/\L.length=l.length/\CI (RA l) L s
theorem of_run {r:RV} {dn:Bool} {l:List jC} (hl:oks l) (s0:pA) (h0:(s0.env 0).v=.agg (FF dn l)) (hM:QL s0.next s0.mem) (hP:PureM s0.next s0.mem) (hE:uB s0.next s0.env) (hG:uB s0.next s0.gh) (hG':GW s0.gh) (k:Ex->pA->Option RV) (hk:∀ s',OfEnd s0 l s'->k .ret s'=some r):gF.code.run (cE dA eA) (BJ dA eA) s0 k=some r:=by
 have fy:=hl.1;have hN5:=hl.2.1;have c1:¬ (l.length:Int)<1:=by omega
 have c2:¬ 5<(l.length:Int):=by omega
 simp only [FF] at h0;simp [gF,-V,-y4,-y3,y0,h0,c1,c2];refine gA l.length (fun i s=>s5 s0.next s0 dn l i s) (fun e s=>e=.exit 0/\s5 s0.next s0 dn l l.length s) (fun i hi s k' h ih uc=>?_) _ _ ?_ (fun e s h=>?_)
 ·refine tA ?_;rw [of_L2];by_cases fa:i<l.length
  ·have mg:=GA (i:=i);simp [-V,-y4,-y3,y0,h.e4,h.e6,fa];refine head_ev hl hM hP hG hG' fa (h.toJ.toI (fun t ht h6=>?_) ?_ ?_ ?_) (fun s' hj=>?_)
   ·have q:∀ c,9<=c->¬ t=c:=fun c hc=>by omega
    simp [q]
   ·simp [h.e6]
   ·try dsimp only
    repeat (first | exact h.lowE.mono (by omega) | refine uB.put ?_ (fun _ _ _=>rfl))
   ·(try dsimp only); omega
   ·simp [-V,-y4,-y3,y0,hj.e6,mg];refine ih fa _ (hj.toI (fun t ht h6=>?_) ?_ ?_ ?_)
    ·have q:∀ c,9<=c->¬ t=c:=fun c hc=>by omega
     simp [q,h6]
    ·simp
    ·try dsimp only
     repeat (first | exact hj.lowE.mono (by omega) | refine uB.put ?_ (fun _ _ _=>rfl))
    ·(try dsimp only); omega
  ·have bg:i=l.length:=by omega
   subst bg;simp [-V,-y4,-y3,y0,h.e4,h.e6];refine uc _ _ ⟨rfl,h.toJ.toI (fun t ht h6=>?_) ?_ ?_ ?_⟩
   ·have q:∀ c,9<=c->¬ t=c:=fun c hc=>by omega
    simp [q]
   ·simp [h.e6]
   ·try dsimp only
    repeat (first | exact h.lowE.mono (by omega) | refine uB.put ?_ (fun _ _ _=>rfl))
   ·(try dsimp only); omega
 ·refine ⟨?_,?_,?_,⟨.ex,?_,s9 _⟩,?_,?_,?_,.inl ⟨rfl,.ex,?_,s9 _⟩,⟨?_,?_,?_,?_,?_⟩,?_,?_⟩
  all_goals first | (simp; done) | skip
  ·dsimp only
   repeat (first | exact nC.refl | refine nC.set ?_ (by omega))
  ·dsimp only; omega
  ·exact (((((hM.mono (by dsimp only; omega)).set aA).set aA).set aA))
  ·dsimp only
   repeat (first | exact hE.mono (by omega) | refine uB.put ?_ (fun _ _ _=>rfl) | refine uB.put ?_ (eD (by omega)))
 ·obtain ⟨rfl,h⟩:=h;obtain ⟨e1,m1,e2,⟨a2,m2,p2⟩,e4,e5,e6,m5,⟨cm,cg,co,cn,cl⟩,lowE,lt⟩:=h;rcases m5 with ⟨ri,_⟩ | ⟨N,L,ri,h5,bq,hN,ak,hLl,nb⟩
  ·omega
  simp [-V,-y4,-y3,y0,e5,h5,e2,m2];refine hk _ ⟨⟨?_,?_,?_,?_,?_⟩,?_,?_,?_,N,L,?_,bq,?_,?_,hLl,?_⟩
  ·exact cm.set (yn _)
  ·exact cg
  ·exact co
  ·dsimp only; omega
  ·exact (cl.mono (Nat.le_succ _)).set fun x hx=>by simp at hx; subst hx; exact SP (by omega)
  ·simp [e2]
  ·simp
  ·dsimp only; omega
  ·simp
  ·dsimp only; omega
  ·simp [ak]
  ·exact nb.keep (fun N _=>by simp) (by dsimp only; omega)
end
section
set_option maxHeartbeats 4000000
theorem of_bad {r:RV} {dn:Bool} {l:List jC} (hl:¬ (1<=l.length/\l.length<=5)) (s0:pA) (h0:(s0.env 0).v=.agg (FF dn l)) (hM:QL s0.next s0.mem) (k:Ex->pA->Option RV) (hk:∀ s',Calm s0.next s0 s'->(s'.env 2).v=.ptr 2 s0.next 0->(s'.env 3).v=.bool false->s'.mem 2 s0.next=some [⟨.sl true [],.no⟩]->k .ret s'=some r):gF.code.run (cE dA eA) (BJ dA eA) s0 k=some r:=by
 simp only [FF] at h0;by_cases c1:(l.length:Int)<1
 ·have bi:l.length=0:=by omega
  have c1'':l=[]:=yO bi;subst c1'';simp [gF,-V,-y4,-y3,y0,h0];refine hk _ ⟨?_,rfl,rfl,?_,?_⟩ ?_ ?_ ?_
  ·dsimp only
   repeat (first | exact nC.refl | refine nC.set ?_ (by omega))
  ·dsimp only; omega
  ·exact (((hM.mono (by dsimp only; omega)).set aA).set aA).set aA
  ·simp
  ·simp
  ·simp
 ·have c2:5<(l.length:Int):=by omega
  simp [gF,-V,-y4,-y3,y0,h0,c1,c2];refine hk _ ⟨?_,rfl,rfl,?_,?_⟩ ?_ ?_ ?_
  ·dsimp only
   repeat (first | exact nC.refl | refine nC.set ?_ (by omega))
  ·dsimp only; omega
  ·exact (((hM.mono (by dsimp only; omega)).set aA).set aA).set aA
  ·simp
  ·simp
  ·simp
end
theorem O2 {sz:Nat} {L:List (List AV)} (h:lB sz L=true) {k:Nat} {c:List AV} (hk:L[k]?=some c) :
  xA L=xA (L.take k)++(c.map (⟨·,.no⟩)++xA (L.drop (k + 1)))/\(xA (L.take k)).length=k * sz/\k<L.length/\c.length=sz:=by
 obtain ⟨fa,he⟩:=yf.1 hk;have h1:lB sz (L.take k)=true:=y6.2 fun x hx=>y6.1 h x (List.mem_of_mem_take hx)
 refine ⟨?_,?_,fa,?_⟩
 ·have:L=L.take k++(c :: L.drop (k + 1)):=by rw [<- he,<- y8 fa,List.take_append_drop]
  have h2:=congrArg xA this;rw [NL] at h2;rw [h2];simp [xA]
 ·rw [bK h1,yF,Nat.min_eq_left (by omega)]
 ·have:=y6.1 h c (yl hk);simpa using this
theorem row_join {L:List (List AV)} {k:Nat} (hk:k<L.length) (c:List AV):xA (L.take k)++(c.map (⟨·,.no⟩)++xA (L.drop (k + 1)))=xA (L.set k c):=by
 have:L.set k c=L.take k++(c :: L.drop (k + 1)):=by
  rw [List.set_eq_take_append_cons_drop,if_pos hk]
 rw [this,NL];simp [xA]
section
variable {sz:Nat} {L:List (List AV)} (h:lB sz L=true) {k j:Nat} {c:List AV} (hk:L[k]?=some c)
include sz L h k j c hk
theorem row_get1 {v:AV} (hj:c[j]?=some v) (z:Nat):jB false z (k * sz + j) (xA L)=some ⟨v,.no⟩:=by
 obtain ⟨h1,h2,h3,h4⟩:=O2 h hk;obtain ⟨xh,_⟩:=yf.1 hj;rw [h1,cB,yR (by omega),h2,Nat.add_sub_cancel_left,yL (by simpa using xh),ye,hj];rfl
theorem R9 (hj:j<c.length) {x:AV} (hx:x.leaf=true) (z:Nat):EA false z (k * sz + j) (xA L) x .no=some (xA (L.set k (c.set j x))):=by
 obtain ⟨h1,h2,h3,h4⟩:=O2 h hk;rw [<- row_join h3,h1];unfold EA;simp only [yt,if_false];rw [if_pos ⟨hx,by simp only [yy,yq,h2]; omega⟩];congr 1;rw [List.set_append_right (h:=by omega),h2,Nat.add_sub_cancel_left,List.set_append_left (h:=by simpa using hj),List.map_set]
end
theorem I2 (row:List wA) (sz off len:Nat):DE row sz off len=if row.all (fun x=>x.v.free0)=true then qH row sz off len else none:=by
 unfold DE qH;by_cases h1:off + len * sz<=row.length <;> by_cases h2:row.all (fun x=>x.v.free0)=true <;> simp only [h1,h2,true_and,false_and,and_true,and_false,if_true,if_false,yt]
theorem J0 {s:pA} {v:AV} (h:v.free0=true):AV.frz1 s v=v:=by
 cases v <;> first | rfl | (simp [AV.free0] at h; done)
theorem frz_row {s:pA} {t n sz c:Nat} {L:List (List AV)} (h:lB sz L=true) (hm:s.mem t n=some (xA L)) (hf:(L.map fun c=>c.map (AV.frz1 s)).flatten.all AV.free0=true):AV.frz0 s (.ref t n sz 0 L.length c)=.sl false (L.map fun c=>c.map (AV.frz1 s)):=by
 have hr:qH (xA L) sz 0 L.length=some L:=uG fun c hc=>by simpa using y6.1 h c hc
 simp only [AV.frz0,hm,V,I2];by_cases ra:(xA L).all (fun x=>x.v.free0)=true
 ·rw [if_pos ra,hr];have:(L.map fun c=>c.map (AV.frz1 s))=L.map id:=yr fun c hc=>by
   have:c.map (AV.frz1 s)=c.map id:=yr fun v hv=>J0 (by
    have:=y6.1 ra ⟨v,.no⟩ (yu.2 ⟨v,List.mem_flatten.2 ⟨c,hc,hv⟩,rfl⟩);exact this)
   rwa [List.map_id] at this
  rw [this,List.map_id]
 ·rw [if_neg ra];simp only [J4,hr,V];rw [if_pos hf]
def rwM (n:Nat) (a b:SB):Prop:=b.id=a.id/\b.name=a.name/\b.crit=a.crit/\(b=a\/(0<=b.ty/\b.ty<n/\b.has=false/\b.dflt=Vl.zero))
def rwL (n:Nat) (xs bs:List SB):Prop:=xs.length=bs.length/\∀ (i:Nat) a b,xs[i]?=some a->bs[i]?=some b->rwM n a b
theorem S9 (n:Nat) (xs:List SB):rwL n xs xs:=⟨rfl,fun i a b h h'=>by
 rw [h] at h';injection h' with h';subst h';exact ⟨rfl,rfl,rfl,.inl rfl⟩⟩
def SB.rewired (m:SB) (ty:Int):SB:=⟨m.id,m.name,ty,m.crit,false,Vl.zero⟩
theorem rwL_set {n:Nat} {xs bs:List SB} (h:rwL n xs bs) {k:Nat} {m:SB} (hk:bs[k]?=some m) {ty:Int} (h0:0<=ty) (h1:ty<n):rwL n xs (bs.set k (m.rewired ty)):=by
 obtain ⟨hl,h⟩:=h;refine ⟨by simpa using hl,fun i a b ha hb=>?_⟩;rw [List.getElem?_set] at hb;split at hb
 ·rename_i e;subst e;split at hb
  ·injection hb with hb;subst hb;obtain ⟨g1,g2,g3,_⟩:=h k a m ha hk;exact ⟨g1,g2,g3,.inr ⟨h0,h1,rfl,rfl⟩⟩
  ·cases hb
 ·exact h i a b ha hb
def MemsR (n:Nat) (xs:List SB) (c:AV) (s:pA):Prop :=
 (xs=[]/\c=.sl true [])\/∃ N bs,xs≠[]/\rwL n xs bs/\c=.ref 88 N 13 0 xs.length xs.length/\s.mem 88 N=some (xA (bs.map zA))
def jS (n:Nat) (S:List sA) (L:List (List AV)) (s:pA):Prop:=S.length=L.length/\∀ (i:Nat) (t:sA) (c:List AV),S[i]?=some t->L[i]?=some c->∃ m,c=xF t m/\MemsR n t.mems m s
theorem CI.toR {S:List sA} {L:List (List AV)} {s:pA} (h:CI S L s) (n:Nat):jS n S L s:=⟨h.1,fun i t c ht hc=>by
 obtain ⟨m,h1,h2⟩:=h.2 i t c ht hc;refine ⟨m,h1,?_⟩;rcases h2 with h2 | ⟨N,g1,_,g3,g4⟩
 ·exact .inl h2
 ·exact .inr ⟨N,_,g1,S9 n _,g3,g4⟩⟩
theorem jS.els {n:Nat} {S:List sA} {L:List (List AV)} {s:pA} (h:jS n S L s):lB 10 L=true:=by
 refine y6.2 fun c hc=>?_
 obtain ⟨i,hi,rfl⟩:=yz hc;have ia:=h.1;obtain ⟨m,h1,_⟩:=h.2 i S[i] L[i] (y5 (by omega)) (y5 hi);rw [h1];rfl
theorem jS.keep {n:Nat} {S:List sA} {L:List (List AV)} {s s':pA} (h:jS n S L s) (hm:∀ N,s'.mem 88 N=s.mem 88 N):jS n S L s':=⟨h.1,fun i t c ht hc=>by
 obtain ⟨m,h1,h2⟩:=h.2 i t c ht hc;refine ⟨m,h1,?_⟩;rcases h2 with h2 | ⟨N,bs,g1,g2,g3,g4⟩
 ·exact .inl h2
 ·exact .inr ⟨N,bs,g1,g2,g3,(hm N).trans g4⟩⟩
theorem memC_inj {a b:List SB} (h:xA (a.map zA)=xA (b.map zA)) (hl:a.length=b.length):a.map zA=b.map zA:=by
 have h1:=uG (sz:=13) (L:=a.map zA) (by simp [zA]);have h2:=uG (sz:=13) (L:=b.map zA) (by simp [zA]);rw [h] at h1;simp only [yq] at h1 h2;rw [hl,h2] at h1;injection h1 with h1;exact h1.symm
theorem jS.store {n:Nat} {S:List sA} {L:List (List AV)} {s s':pA} (h:jS n S L s) {N k:Nat} {bs:List SB} {m:SB} (hN:s.mem 88 N=some (xA (bs.map zA))) (hk:bs[k]?=some m) {ty:Int} (h0:0<=ty) (h1:ty<n) (hm:∀ N',s'.mem 88 N'=if N'=N then some (xA ((bs.set k (m.rewired ty)).map zA)) else s.mem 88 N'):jS n S L s':=⟨h.1,fun i t c ht hc=>by
 obtain ⟨m',g1,g2⟩:=h.2 i t c ht hc;refine ⟨m',g1,?_⟩;rcases g2 with g2 | ⟨N',sx,g2,g3,g4,g5⟩
 ·exact .inl g2
 ·by_cases e:N'=N
  ·subst e;rw [hN] at g5;injection g5 with g5;have ia:bs.length=sx.length:=by
    have e1:=congrArg List.length g5;rw [bK (EW _),bK (EW _)] at e1;simp only [yq] at e1;omega
   have zr:=memC_inj g5 ia;have uc:k<sx.length:=by rw [<- ia]; exact (yf.1 hk).1
   have hkm:zA sx[k]=zA m:=by
    have:=congrArg (·[k]?) zr;simp only [ye,hk,y5 uc,yx,Option.some.injEq] at this;exact this.symm
   refine .inr ⟨N',sx.set k (sx[k].rewired ty),g2,rwL_set g3 (y5 uc) h0 h1,g4,?_⟩;rw [hm,if_pos rfl,List.map_set,List.map_set,zr];have:zA (m.rewired ty)=zA (sx[k].rewired ty):=by
    simp only [zA,List.cons.injEq,AV.int.injEq,AV.str.injEq,AV.bool.injEq,true_and] at hkm;simp only [zA,SB.rewired,hkm.1,hkm.2.1,hkm.2.2.2.1]
   rw [this]
  ·exact .inr ⟨N',sx,g2,g3,g4,by rw [hm,if_neg e]; exact g5⟩⟩
def rwT (n:Nat) (a b:sA):Prop:=∃ bs,rwL n a.mems bs/\b={ a with mn:=bs.isEmpty,mems:=bs }
def rwS (n:Nat) (S T:List sA):Prop:=S.length=T.length/\∀ (i:Nat) a b,S[i]?=some a->T[i]?=some b->rwT n a b
end Go.Proofs.YtbnlmgncbgaepaaGreat
