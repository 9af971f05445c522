/- A part of the proof. -/
import Derived.Test.YtbnlmgncbgaepaaGreatXf
set_option linter.all false
set_option maxRecDepth 100000
set_option maxHeartbeats 8000000
open Option renaming bind_some → V, map_eq_some_iff → yh, map_some → yA
open List renaming range_succ → J, map_map → y0, getElem?_eq_getElem → y4, all_eq_true → y5, getElem_mem → y6, getElem?_eq_some_iff → y9, drop_eq_getElem_cons → yb, getElem?_map → yc, drop_eq_nil_of_le → ye, mem_cons → yf, map_cons → yg, mem_of_getElem? → yj, mem_cons_self → yk, length_append → yl, map_nil → yn, length_map → yo, mem_cons_of_mem → yp, map_congr_left → yq, mem_append → yt, take_of_length_le → yx, mem_map → yy, flatten_cons → yz, getElem_of_mem → yB, length_take → yC, length_cons → yE, getElem?_append_left → yF, take_append_getElem → yH, not_mem_nil → yJ, eq_nil_of_length_eq_zero → yM, getElem?_append_right → yR, map_append → yS, getElem?_eq_none → yW
open Int renaming toNat_lt → y3, tmod_eq_emod_of_nonneg → yu, emod_nonneg → yI, emod_lt_of_pos → yL
open Bool renaming and_eq_true → y7, false_eq_true → yr
open Nat renaming le_refl → ym, succ_mul → yw, zero_add → yG, eq_zero_or_pos → yK
namespace Go.Proofs.YtbnlmgncbgaepaaGreat
open Go
structure WP where
 id:Int
 ty:Int
 flag:Int
structure dC where
 k:Int
 a:Int
 b:Int
 c:Int
 pn:Bool
 parts:List WP
def qE (x:WP):List AV:=[.int .u8 x.id,.int .u8 x.ty,.int .u8 x.flag]
def gD (x:dC):List AV:=[.int .u8 x.k,.int .u8 x.a,.int .u8 x.b,.int .u8 x.c,.sl x.pn (x.parts.map qE)]
def mF (n:Bool) (l:List dC):List AV:=[.sl n (l.map gD)]
def u8 (n:Int):Prop:=0<=n/\n<=255
def WP.ok (x:WP):Prop:=u8 x.id/\u8 x.ty/\u8 x.flag
def dC.ok (x:dC):Prop:=u8 x.k/\u8 x.a/\u8 x.b/\u8 x.c/\x.parts.length<=9223372036854775807/\∀ p∈x.parts,p.ok
def dC.kind (x:dC):Int:=1 + x.k % 9
def dC.low (x:dC):Int:=x.a % 7 - 3
def dC.high (x:dC):Int:=x.low + x.b % 6
theorem R4 {x:dC} (h:x.ok):1<=x.kind/\x.kind<=9:=by
 obtain ⟨⟨h1,h2⟩,_⟩:=h;simp only [dC.kind];omega
theorem C7 (n m:Int) (h:u8 n) (hm:0<m) (ah:m<=255):n.tmod m=n % m/\IntKind.u8.wrap (n % m)=n % m:=by
 obtain ⟨h1,h2⟩:=h;have e:=yu h1 (b:=m);have g1:=yI n (b:=m) (by omega);have g2:=yL n hm;refine ⟨e,?_⟩;simp only [IntKind.wrap,IntKind.bits,IntKind.signed];simp;omega
theorem kind_ev (dn:Bool) (l:List dC) (z:Int) (x:dC) (hz:0<=z) (h:l[z.toNat]?=some x) (hx:x.ok):gA 87 [.agg (mF dn l),.int .i64 z] (.int .i64 x.kind):=by
 refine wA (c:=RL) rfl rfl ?_;have g:(l.map gD)[z.toNat]?=some (gD x):=by simp [h]
 obtain ⟨e1,e2⟩:=C7 x.k 9 hx.1 (by omega) (by omega);simp only [gD] at g;simp [RL,mF,-V,-y3,-y0,J,g,hz,e1];have:=hx.1;simp only [u8] at this;rw [IntWalk.i64_in (x.k % 9) (by omega),IntWalk.i64_in _ (by omega)];rfl
theorem TY (k:Int):gA 172 [.int .i64 k] (.bool (decide (7<=k))):=by
 refine wA (c:=pJ) rfl rfl ?_;simp [pJ,-V,-y3,-y0,J]
theorem g7 (x:dC) (hx:x.ok):gA 89 [.agg (gD x)] (.int .i64 x.low):=by
 refine wA (c:=JM) rfl rfl ?_;obtain ⟨e1,e2⟩:=C7 x.a 7 hx.2.1 (by omega) (by omega);simp [JM,gD,-V,-y3,-y0,J,e1];rw [IntWalk.i64_in (x.a % 7) (by omega),IntWalk.i64_in _ (by omega)];rfl
theorem high_ev (x:dC) (hx:x.ok):gA 90 [.agg (gD x)] (.int .i64 x.high):=by
 refine wA (c:=EL) rfl rfl ?_;obtain ⟨e1,e2⟩:=C7 x.b 6 hx.2.2.1 (by omega) (by omega);have:=g7 x hx;simp only [gD] at this;simp [EL,gD,-V,-y3,-y0,J,e1,this];rw [IntWalk.i64_in (x.b % 6) (by omega),IntWalk.i64_in _ (by simp only [dC.low]; omega)];rfl
def bitZ (a:Int) (i:Nat):Bool:=decide (a / 2 ^ i % 2=1)
def NU (a:Int):Nat->List Int
 | 0=>[]
 | i + 1=>NU a i++if bitZ a i then [((i + 1:Nat):Int)] else []
def lF (a:Int):List Int:=if NU a 6=[] then [1] else NU a 6
def wL (n:Int):List AV:=[.int .i64 n]
theorem MU (a:Int):∀ i,(NU a i).length<=i
 | 0=>ym _
 | i + 1=>by
  have:=MU a i;rw [NU,yl];split <;> simp <;> omega
theorem els_int (l:List Int):lB 1 (l.map wL)=true:=cC _ _ _ fun _=>rfl
theorem ids7_ev (x:dC) (hx:x.ok):gA 91 [.agg (gD x)] (.sl false ((lF x.a).map wL)):=by
 refine wA (c:=GM) rfl rfl ?_;obtain ⟨hk,ha,hb,hc,hp,hpp⟩:=hx;obtain ⟨ha1,ha2⟩:=ha;simp [GM,gD,-V,-y3,-y0,J];refine xA 6 (fun i s=>(s.env 1).v=.ptr 1 1 0/\s.mem 1 1=some [⟨.int .u8 x.k,.no⟩,⟨.int .u8 x.a,.no⟩,⟨.int .u8 x.b,.no⟩,⟨.int .u8 x.c,.no⟩,⟨.sl x.pn (x.parts.map qE),.no⟩]/\(s.env 4).v=.int .i64 i/\(s.env 3).v=.sl (NU x.a i).isEmpty ((NU x.a i).map wL)/\(NU x.a i=[]/\(s.env 3).a=.ex\/¬ NU x.a i=[]/\(s.env 3).a=.own 19 3))
  (fun e s=>e=.exit 0/\(s.env 3).v=.sl (NU x.a 6).isEmpty ((NU x.a 6).map wL)/\(NU x.a 6=[]/\(s.env 3).a=.ex\/¬ NU x.a 6=[]/\(s.env 3).a=.own 19 3)) (fun i hi s k h ih hk=>?_) _ _ ?_ (fun e s h=>?_)
 ·obtain ⟨e1,m1,e4,e3,an⟩:=h;refine tA ?_;by_cases da:i<6
  ·have fa:(i:Int)<6:=by omega
   have hsh:shN .u8 i=i:=by simp [shN,IntKind.bits]; omega
   have hy:x.a.fdiv (2 ^ i)=x.a / 2 ^ i:=Int.fdiv_eq_ediv_of_nonneg _ (Int.pow_nonneg (by omega));have ii:0<=x.a / 2 ^ i:=Int.ediv_nonneg ha1 (Int.pow_nonneg (by omega));have hm:(x.a / 2 ^ i).tmod 2=x.a / 2 ^ i % 2:=yu ii;have rg:=ZA (i:=i);have hl:=MU x.a i;have ka:eB 8 ((NU x.a i).length + 1)=true:=by rw [EA]; omega
   have ge:=els_int (NU x.a i);have lj:NU x.a (i + 1)=NU x.a i++if bitZ x.a i then [((i + 1:Nat):Int)] else []:=rfl
   have hb:bitZ x.a i=decide (x.a / 2 ^ i % 2=1):=rfl;generalize hI:NU x.a i=L at *
   generalize hJ:NU x.a (i + 1)=L' at *
   generalize x.a / 2 ^ i=y at *
   by_cases c:y % 2=1
   ·rcases an with ⟨a0,a3⟩ | ⟨a0,a3⟩
    ·subst a0;have mf:eB 8 1=true:=by rw [EA]; omega
     simp [tH,-V,-y3,-y0,J,e1,m1,e4,e3,a3,fa,hsh,hy,hm,rg,c,mf];refine ih da _ ⟨?_,?_,?_,?_,?_⟩ <;> simp [e1,m1,lj,hb,c,wL,An.strip]
    ·have hem:L.isEmpty=false:=by
      cases L with
      | nil=>exact absurd rfl a0
      | cons=>rfl
     rw [hem] at e3;simp [tH,-V,-y3,-y0,J,e1,m1,e4,e3,a0,a3,fa,hsh,hy,hm,rg,c,ka,ge];refine ih da _ ⟨?_,?_,?_,?_,?_⟩ <;> simp [e1,m1,lj,hb,c,wL,An.strip]
   ·simp [tH,-V,-y3,-y0,J,e1,m1,e4,e3,fa,hsh,hy,hm,rg,c];refine ih da _ ⟨?_,?_,?_,?_,?_⟩ <;> simp [e1,m1,e3,an,lj,hb,c,wL,An.strip]
  ·have hi6:i=6:=by omega
   subst hi6;simp [tH,-V,-y3,-y0,J,e4];exact hk _ _ ⟨rfl,by simpa using e3,by simpa using an⟩
 ·simp [NU]
 ·obtain ⟨rfl,e3,an⟩:=h;have hl:=MU x.a 6;generalize hI:NU x.a 6=L at *
  rcases an with ⟨a0,a3⟩ | ⟨a0,a3⟩
  ·subst a0;have mf:eB 8 1=true:=by rw [EA]; omega
   simp [-V,-y3,-y0,J,e3,a3,mf,lF,hI,wL]
  ·simp [-V,-y3,-y0,J,e3,a3,a0,lF,hI]
def lC (l:List dC) (z:Int):Int:=match l[z.toNat]? with
 | some x=>x.kind
 | none=>0
def oks (l:List dC):Prop:=1<=l.length/\l.length<=5/\∀ x∈l,x.ok
theorem TH {dn:Bool} {l:List dC} (hl:oks l) {z:Int} (h0:0<=z) (h1:z<l.length):gA 87 [.agg (mF dn l),.int .i64 z] (.int .i64 (lC l z)):=by
 have da:z.toNat<l.length:=by omega
 have g:l[z.toNat]?=some l[z.toNat]:=y4 da;have:=kind_ev dn l z _ h0 g (hl.2.2 _ (y6 da));rw [lC,g];exact this
theorem W4 {l:List dC} (hl:oks l) {z:Int} (h0:0<=z) (h1:z<l.length):1<=lC l z/\lC l z<=9:=by
 have da:z.toNat<l.length:=by omega
 have g:l[z.toNat]?=some l[z.toNat]:=y4 da;rw [lC,g];exact R4 (hl.2.2 _ (y6 da))
def dU (k:Int):Bool:=decide (1<=k/\k<=4)
def kG (l:List dC) (code:Int):Nat->Nat->Int
 | 0,_=>-1
 | n + 1,k=>if dU (lC l ((code + k) % l.length))=true then (code + k) % l.length else kG l code n (k + 1)
def jK (l:List dC) (code:Int):Int:=kG l code l.length 0
theorem qP {l:List dC} (hl:oks l) (code:Int):∀ n k,-1<=kG l code n k/\kG l code n k<l.length
 | 0,k=>by have:=hl.1; simp only [kG]; omega
 | n + 1,k=>by
  have hp:=hl.1;have h1:=yI (code + k) (b:=(l.length:Int)) (by omega);have h2:=yL (code + k) (b:=(l.length:Int)) (by omega);have:=qP hl code n (k + 1);simp only [kG];split <;> omega
theorem r7 (dn:Bool) (l:List dC) (hl:oks l) (code:Int) (hc:u8 code):gA 93 [.agg (mF dn l),.int .u8 code] (.int .i64 (jK l code)):=by
 refine wA (c:=HM) rfl rfl ?_;obtain ⟨hc0,oo⟩:=hc;have hN:=hl.1;have hN5:=hl.2.1;have ub:=fun z h0 h1=>TH (dn:=dn) hl (z:=z) h0 h1
 simp only [gA,mF] at ub ⊢;simp [HM,-V,-y3,-y0,J];refine xA l.length (fun i s=>(s.env 2).v=.ptr 2 1 0/\s.mem 2 1=some [⟨.sl dn (l.map gD),.no⟩]/\(s.env 1).v=.int .u8 code/\(s.env 5).v=.int .i64 l.length/\(s.env 6).v=.int .i64 i/\kG l code (l.length - i) i=jK l code)
  (fun e s=>(e=.exit 0/\jK l code=-1)\/(e=.ret/\(s.env 4).v=.int .i64 (jK l code))) (fun i hi s k h ih hk=>?_) _ _ ?_ (fun e s h=>?_)
 ·obtain ⟨e2,m2,e1,e5,e6,hs⟩:=h;refine tA ?_;by_cases da:i<l.length
  ·have fa:(i:Int)<l.length:=by omega
   have rg:=ZA (i:=i);have zk:IntKind.i64.wrap code=code:=IntWalk.i64_in _ (by omega);have hwa:IntKind.i64.wrap (code + i)=code + i:=IntWalk.i64_in _ (by omega);have hm:(code + (i:Int)).tmod l.length=(code + i) % l.length:=yu (by omega);have gc:=yI (code + i) (b:=(l.length:Int)) (by omega);have jp:=yL (code + i) (b:=(l.length:Int)) (by omega);have zp:¬ (l.length:Int)=0:=by omega
   have tb:=ub _ gc jp;rw [show l.length - i=l.length - (i + 1) + 1 from by omega,kG] at hs;generalize (code + (i:Int)) % l.length=z at *
   have bc:=wW (lC l z);rw [show decide (1<=lC l z/\lC l z<=4)=dU (lC l z) from rfl] at bc;obtain ⟨N,fj⟩:∃ N:Int,N=l.length:=⟨_,rfl⟩;rw [<- fj] at e5 fa hm zp;cases hb:dU (lC l z) with
   | true =>
    rw [hb] at bc;rw [if_pos hb] at hs;simp [aJ,-V,-y3,-y0,J,e2,m2,e1,e5,e6,fa,zk,hwa,hm,zp,tb,bc];exact hk _ _ (.inr ⟨rfl,by simp [hs]⟩)
   | false =>
    rw [hb] at bc;rw [hb,if_neg (by decide)] at hs;simp [aJ,-V,-y3,-y0,J,e2,m2,e1,e5,e6,fa,zk,hwa,hm,zp,tb,bc,rg];refine ih da _ ⟨?_,?_,?_,?_,?_,hs⟩ <;> simp [e2,m2,e1,e5,fj]
  ·have fa:¬ (i:Int)<l.length:=by omega
   simp [aJ,-V,-y3,-y0,J,e5,e6,fa];refine hk _ _ (.inl ⟨rfl,?_⟩);rw [<- hs,show l.length - i=0 from by omega,kG]
 ·simp [jK]
 ·rcases h with ⟨rfl,h1⟩ | ⟨rfl,h1⟩ <;> simp [-V,-y3,-y0,J,h1]
def OF (l:List dC):Nat->Nat->Int
 | 0,_=>-1
 | n + 1,k=>if 7<=lC l k then k else OF l n (k + 1)
def GI (l:List dC) (i code:Int):Int:=if 7<=lC l (code % l.length)\/code % l.length<i then code % l.length else if 0<i then code % l.length % i else OF l l.length 0
theorem sU {l:List dC} (hl:oks l):∀ n k,n + k<=l.length->-1<=OF l n k/\OF l n k<l.length
 | 0,k,_=>by have:=hl.1; simp only [OF]; omega
 | n + 1,k,h=>by
  have:=sU hl n (k + 1) (by omega);simp only [OF];split <;> omega
theorem mP {l:List dC} (hl:oks l) (i code:Int) (hi:i<l.length):-1<=GI l i code/\GI l i code<l.length:=by
 have hp:=hl.1;have h1:=yI code (b:=(l.length:Int)) (by omega);have h2:=yL code (b:=(l.length:Int)) (by omega);have h3:=sU hl l.length 0 (by omega);simp only [GI];split
 ·omega
 ·split
  ·rename_i h;have h4:=yI (code % l.length) (b:=i) (by omega);have h5:=yL (code % l.length) h;omega
  ·exact h3
theorem target_ev (dn:Bool) (l:List dC) (hl:oks l) (i0:Int) (kg:0<=i0) (oe:i0<l.length) (code:Int) (hc:u8 code):gA 141 [.agg (mF dn l),.int .i64 i0,.int .u8 code] (.int .i64 (GI l i0 code)):=by
 refine wA (c:=FE) rfl rfl ?_;obtain ⟨hc0,oo⟩:=hc;have hN:=hl.1;have hN5:=hl.2.1;have ub:=fun z h0 h1=>TH (dn:=dn) hl (z:=z) h0 h1
 simp only [gA,mF] at ub ⊢;have gc:=yI code (b:=(l.length:Int)) (by omega);have jp:=yL code (b:=(l.length:Int)) (by omega);have zk:IntKind.i64.wrap code=code:=IntWalk.i64_in _ (by omega);have hm:code.tmod l.length=code % l.length:=yu (by omega);have zp:¬ (l.length:Int)=0:=by omega
 have ug:¬ l=[]:=by intro e; rw [e] at hN; simp at hN
 have tb:=ub _ gc jp;unfold GI;generalize code % (l.length:Int)=z at *
 have hh:=TY (lC l z);have hmi:0<i0->z.tmod i0=z % i0:=fun _=>yu gc
 by_cases c1:7<=lC l z
 ·simp [FE,-V,-y3,-y0,J,zk,hm,ug,tb,hh,c1]
 ·rw [decide_eq_false c1] at hh;by_cases c2:z<i0
  ·simp [FE,-V,-y3,-y0,J,zk,hm,ug,tb,hh,c1,c2]
  ·by_cases c3:0<i0
   ·simp [FE,-V,-y3,-y0,J,zk,hm,ug,tb,hh,c1,c2,c3,hmi c3,show ¬ i0=0 from by omega]
   ·simp [FE,-V,-y3,-y0,J,zk,hm,ug,tb,hh,c1,c2,c3];clear tb hh c1 c2;refine xA l.length (fun i s=>(s.env 3).v=.ptr 3 1 0/\s.mem 3 1=some [⟨.sl dn (l.map gD),.no⟩]/\(s.env 7).v=.int .i64 l.length/\(s.env 9).v=.int .i64 i/\OF l (l.length - i) i=OF l l.length 0)
     (fun e s=>(e=.exit 0/\OF l l.length 0=-1)\/(e=.ret/\(s.env 6).v=.int .i64 (OF l l.length 0))) (fun i hi s k h ih hk=>?_) _ _ ?_ (fun e s h=>?_)
    ·obtain ⟨e3,m3,e7,e9,hs⟩:=h;refine tA ?_;by_cases da:i<l.length
     ·have fa:(i:Int)<l.length:=by omega
      have rg:=ZA (i:=i);have tb:=ub i (by omega) fa;rw [show l.length - i=l.length - (i + 1) + 1 from by omega,OF] at hs;have hh:=TY (lC l i);by_cases hb:7<=lC l i
      ·rw [decide_eq_true hb] at hh;rw [if_pos hb] at hs;simp [NG,-V,-y3,-y0,J,e3,m3,e7,e9,da,tb,hh];exact hk _ _ (.inr ⟨rfl,by simp [hs]⟩)
      ·rw [decide_eq_false hb] at hh;rw [if_neg hb] at hs;simp [NG,-V,-y3,-y0,J,e3,m3,e7,e9,da,tb,hh,rg];refine ih da _ ⟨?_,?_,?_,?_,hs⟩ <;> simp [e3,m3,e7]
     ·have fa:¬ (i:Int)<l.length:=by omega
      simp [NG,-V,-y3,-y0,J,e7,e9,da];refine hk _ _ (.inl ⟨rfl,?_⟩);rw [<- hs,show l.length - i=0 from by omega,OF]
    ·simp
    ·rcases h with ⟨rfl,h1⟩ | ⟨rfl,h1⟩ <;> simp [-V,-y3,-y0,J,h1]
section
set_option maxHeartbeats 2000000
def Vl.of (k:Int) (b:Bool) (i:Int) (s:ByteArray) (d:Int):Vl:=.mk k b i s d true [] true [] true []
theorem KA (k:Int) (b:Bool) (i:Int) (s:ByteArray) (d:Int):zA (.of k b i s d)=[.int .i64 k,.bool b,.int .i64 i,.str s,.int .i64 d,.sl true [],.sl true [],.sl true []]:=by
 rw [iA];rfl
def HA (l:List dC) (z:Int):dC:=match l[z.toNat]? with
 | some x=>x
 | none=>⟨0,0,0,0,true,[]⟩
def inK (l:List dC) (t:Int):Int:=if lC l t=8/\jK l 0<0 then 7 else lC l t
def B6 (a code:Int):Int:=(lF a)[(code % (lF a).length).toNat]?.getD 0
def LJ (l:List dC) (t code:Int):Vl × Bool :=
 if lC l t=5\/lC l t=6 then (.of 0 false 0 ⟨#[]⟩ 0,false) else
 (.of (inK l t) (decide (lC l t=1/\code % 2=1)) (if lC l t=2 then (HA l t).low + code % ((HA l t).b % 6 + 1) else 0) (if lC l t=3/\0<(HA l t).a % 4/\code % 2=1 then ⟨#[97]⟩ else ⟨#[]⟩) (if lC l t=4 then B6 (HA l t).a code else 0),true)
theorem OR (a:Int):1<=(lF a).length/\(lF a).length<=6:=by
 have:=MU a 6;unfold lF;split
 ·simp
 ·rename_i h;refine ⟨?_,this⟩;cases h2:NU a 6 with
  | nil=>exact absurd h2 h
  | cons=>simp
theorem M6 (dn:Bool) (l:List dC) (hl:oks l) (t:Int) (mb:0<=t) (za:t<l.length) (code:Int) (hc:u8 code):gA 142 [.agg (mF dn l),.int .i64 t,.int .u8 code] (.tup [.agg (zA (LJ l t code).1),.bool (LJ l t code).2]):=by
 refine wA (c:=GB) rfl rfl ?_;have ub:=TH (dn:=dn) hl mb za;have nv:=W4 hl mb za;have bc:=r7 dn l hl 0 ⟨by omega,by omega⟩;have da:t.toNat<l.length:=by omega
 have g:l[t.toNat]?=some l[t.toNat]:=y4 da;have hx:(HA l t).ok:=by rw [HA,g]; exact hl.2.2 _ (y6 da)
 have gm:(l.map gD)[t.toNat]?=some (gD (HA l t)):=by rw [HA,g]; simp [g]
 obtain ⟨hc0,oo⟩:=hc;unfold LJ inK;generalize HA l t=x at *
 generalize lC l t=kk at *
 have ff:=g7 x hx;have tl:=high_ev x hx;have fh:=ids7_ev x hx;have hlr:-3<=x.low/\x.low<=3:=by have:=hx.2.1; simp only [dC.low,u8] at *; omega
 have hhr:x.low<=x.high/\x.high<=x.low + 5:=by have:=hx.2.2.1; simp only [dC.high,u8] at *; omega
 have hd:x.high - x.low + 1=x.b % 6 + 1:=by simp only [dC.high]; omega
 have zk:IntKind.i64.wrap code=code:=IntWalk.i64_in _ (by omega);have hws:IntKind.i64.wrap (x.high - x.low)=x.high - x.low:=IntWalk.i64_in _ (by omega);have hws1:IntKind.i64.wrap (x.high - x.low + 1)=x.high - x.low + 1:=IntWalk.i64_in _ (by omega);have hm:code.tmod (x.high - x.low + 1)=code % (x.b % 6 + 1):=by rw [hd]; exact yu hc0
 have hmz:=yI code (b:=x.b % 6 + 1) (by omega);have wo:=yL code (b:=x.b % 6 + 1) (by omega);have hwl:IntKind.i64.wrap (x.low + code % (x.b % 6 + 1))=x.low + code % (x.b % 6 + 1):=IntWalk.i64_in _ (by omega);have na:¬ x.high - x.low + 1=0:=by omega
 have ah:code.tmod 2=code % 2:=yu hc0;have lw:x.a.tmod 4=x.a % 4:=yu hx.2.1.1;simp only [gA,mF,gD] at ub bc gm ff tl fh ⊢;have hk:kk=1\/kk=2\/kk=3\/kk=4\/kk=5\/kk=6\/kk=7\/kk=8\/kk=9:=by omega
 rcases hk with rfl | rfl | rfl | rfl | rfl | rfl | rfl | rfl | rfl
 ·simp [GB,-V,-y3,-y0,J,gm,mb,ub,ah,KA]
 ·generalize code % (x.b % 6 + 1)=y at *
  simp [GB,-V,-y3,-y0,J,gm,mb,ub,KA,ff,tl,zk,hws,hws1,hm,na,hwl]
 ·by_cases c1:0<x.a % 4 <;> by_cases c2:code % 2=1 <;> simp [GB,-V,-y3,-y0,J,gm,mb,ub,ah,lw,c1,c2,KA]
 ·have tg:=OR x.a;have hmi:code.tmod (lF x.a).length=code % (lF x.a).length:=yu hc0;have gc:=yI code (b:=((lF x.a).length:Int)) (by omega);have jp:=yL code (b:=((lF x.a).length:Int)) (by omega);have ug:¬ ((lF x.a).length:Int)=0:=by omega
  unfold B6;generalize code % ((lF x.a).length:Int)=z at *
  have gz:(lF x.a)[z.toNat]?=some (lF x.a)[z.toNat]:=y4 (by omega);have gi:((lF x.a).map wL)[z.toNat]?=some [.int .i64 (lF x.a)[z.toNat]]:=by rw [yc,gz]; rfl
  rw [gz];generalize (lF x.a)[z.toNat]=y at *
  have hlm:((lF x.a).map wL).length=(lF x.a).length:=by simp
  generalize (lF x.a).map wL=M at *
  obtain ⟨N,hN⟩:∃ N:Int,N=(lF x.a).length:=⟨_,rfl⟩;rw [<- hN] at hmi ug;simp [GB,-V,-y3,-y0,J,gm,mb,ub,KA,fh,zk,hlm,<- hN,hmi,ug,gc,gi]
 ·simp [GB,-V,-y3,-y0,J,gm,mb,ub,KA]
 ·simp [GB,-V,-y3,-y0,J,gm,mb,ub,KA]
 ·simp [GB,-V,-y3,-y0,J,gm,mb,ub,KA]
 ·by_cases c1:jK l 0<0 <;> simp [GB,-V,-y3,-y0,J,gm,mb,ub,bc,c1,KA]
 ·simp [GB,-V,-y3,-y0,J,gm,mb,ub,KA]
end
def S4 (m:Nat) (v:AV):Prop:=∀ t n,m<=n->v.kill0 t n=v
def lowV (m:Nat) (v:AV):Prop:=∀ t n,m<=n->v.kill t n=v
theorem KI {m m':Nat} (h:m<=m') {v:AV} (hv:lowV m v):lowV m' v:=fun t n hn=>hv t n (Nat.le_trans h hn)
theorem low0_ptr {m t n o:Nat} (h:n<m):S4 m (.ptr t n o):=fun t' n' h'=>by simp only [AV.kill0]; rw [if_neg (by omega)]
theorem D4 {m t n z o l c:Nat} (h:n<m):S4 m (.ref t n z o l c):=fun t' n' h'=>by simp only [AV.kill0]; rw [if_neg (by omega)]
theorem JP {m:Nat} {v:AV} (h:v.free0=true):S4 m v:=fun t n _=>rW h t n
theorem QN {m:Nat} {v:AV} (h:v.free=true):lowV m v:=fun t n _=>GY h t n
theorem lowV_of {m:Nat} {v:AV} (h:S4 m v):(v.leaf=true)->lowV m v:=fun hl t n hn=>by
 have:=h t n hn;cases v <;> first | exact this | (simp [AV.leaf] at hl; done)
theorem aW {m:Nat} {cs:List AV} (h:∀ c∈cs,S4 m c):lowV m (.agg cs):=fun t n hn=>by
 have:cs.map (AV.kill0 t n)=cs.map id:=yq fun c hc=>h c hc t n hn
 rw [List.map_id] at this;exact congrArg AV.agg this
theorem uD {m t n o:Nat} (h:n<m):lowV m (.ptr t n o):=low0_ptr h
theorem tP {m t n z o l c:Nat} (h:n<m):lowV m (.ref t n z o l c):=D4 h
theorem JY {m t n:Nat} (hn:m<=n) {v:AV} (hv:lowV m v):v.kill t n=v:=hv t n hn
theorem i7 (v:AV) (t n t' n':Nat):(v.kill0 t n).kill0 t' n'=(v.kill0 t' n').kill0 t n:=by
 cases v with
 | ptr a b o=>by_cases h1:(a=t/\b=n) <;> by_cases h2:(a=t'/\b=n') <;> first | (simp only [AV.kill0,if_pos h1,if_pos h2]; done) | (simp only [AV.kill0,if_pos h1,if_neg h2]; done) | (simp only [AV.kill0,if_neg h1,if_pos h2]; done) | (simp only [AV.kill0,if_neg h1,if_neg h2]; done)
 | ref a b z o l c=>by_cases h1:(a=t/\b=n) <;> by_cases h2:(a=t'/\b=n') <;> first | (simp only [AV.kill0,if_pos h1,if_pos h2]; done) | (simp only [AV.kill0,if_pos h1,if_neg h2]; done) | (simp only [AV.kill0,if_neg h1,if_pos h2]; done) | (simp only [AV.kill0,if_neg h1,if_neg h2]; done)
 | mp a b=>by_cases h1:(a=t/\b=n) <;> by_cases h2:(a=t'/\b=n') <;> first | (simp only [AV.kill0,if_pos h1,if_pos h2]; done) | (simp only [AV.kill0,if_pos h1,if_neg h2]; done) | (simp only [AV.kill0,if_neg h1,if_pos h2]; done) | (simp only [AV.kill0,if_neg h1,if_neg h2]; done)
 | _=>rfl
theorem wP (l:List AV) (t n t' n':Nat):(l.map (AV.kill0 t n)).map (AV.kill0 t' n')=(l.map (AV.kill0 t' n')).map (AV.kill0 t n):=by
 rw [y0,y0];exact yq fun x _=>i7 x t n t' n'
theorem o7 (v:AV) (t n t' n':Nat):(v.kill1 t n).kill1 t' n'=(v.kill1 t' n').kill1 t n:=by
 cases v with
 | agg cs=>exact congrArg AV.agg (wP cs t n t' n')
 | ptr a b o=>by_cases h1:(a=t/\b=n) <;> by_cases h2:(a=t'/\b=n') <;> first | (simp only [AV.kill1,AV.kill0,if_pos h1,if_pos h2]; done) | (simp only [AV.kill1,AV.kill0,if_pos h1,if_neg h2]; done) | (simp only [AV.kill1,AV.kill0,if_neg h1,if_pos h2]; done) | (simp only [AV.kill1,AV.kill0,if_neg h1,if_neg h2]; done)
 | ref a b z o l c=>by_cases h1:(a=t/\b=n) <;> by_cases h2:(a=t'/\b=n') <;> first | (simp only [AV.kill1,AV.kill0,if_pos h1,if_pos h2]; done) | (simp only [AV.kill1,AV.kill0,if_pos h1,if_neg h2]; done) | (simp only [AV.kill1,AV.kill0,if_neg h1,if_pos h2]; done) | (simp only [AV.kill1,AV.kill0,if_neg h1,if_neg h2]; done)
 | mp a b=>by_cases h1:(a=t/\b=n) <;> by_cases h2:(a=t'/\b=n') <;> first | (simp only [AV.kill1,AV.kill0,if_pos h1,if_pos h2]; done) | (simp only [AV.kill1,AV.kill0,if_pos h1,if_neg h2]; done) | (simp only [AV.kill1,AV.kill0,if_neg h1,if_pos h2]; done) | (simp only [AV.kill1,AV.kill0,if_neg h1,if_neg h2]; done)
 | _=>rfl
theorem kill_comm (v:AV) (t n t' n':Nat):(v.kill t n).kill t' n'=(v.kill t' n').kill t n:=by
 cases v with
 | agg cs=>exact congrArg AV.agg (wP cs t n t' n')
 | fn f cs=>exact congrArg (AV.fn f) (wP cs t n t' n')
 | tup vs =>
  refine congrArg AV.tup ?_;rw [y0,y0];exact yq fun x _=>o7 x t n t' n'
 | ptr a b o=>by_cases h1:(a=t/\b=n) <;> by_cases h2:(a=t'/\b=n') <;> first | (simp only [AV.kill,AV.kill0,if_pos h1,if_pos h2]; done) | (simp only [AV.kill,AV.kill0,if_pos h1,if_neg h2]; done) | (simp only [AV.kill,AV.kill0,if_neg h1,if_pos h2]; done) | (simp only [AV.kill,AV.kill0,if_neg h1,if_neg h2]; done)
 | ref a b z o l c=>by_cases h1:(a=t/\b=n) <;> by_cases h2:(a=t'/\b=n') <;> first | (simp only [AV.kill,AV.kill0,if_pos h1,if_pos h2]; done) | (simp only [AV.kill,AV.kill0,if_pos h1,if_neg h2]; done) | (simp only [AV.kill,AV.kill0,if_neg h1,if_pos h2]; done) | (simp only [AV.kill,AV.kill0,if_neg h1,if_neg h2]; done)
 | mp a b=>by_cases h1:(a=t/\b=n) <;> by_cases h2:(a=t'/\b=n') <;> first | (simp only [AV.kill,AV.kill0,if_pos h1,if_pos h2]; done) | (simp only [AV.kill,AV.kill0,if_pos h1,if_neg h2]; done) | (simp only [AV.kill,AV.kill0,if_neg h1,if_pos h2]; done) | (simp only [AV.kill,AV.kill0,if_neg h1,if_neg h2]; done)
 | _=>rfl
theorem fU {m t n:Nat} {v:AV} (hv:lowV m v):lowV m (v.kill t n):=fun t' n' h=>by rw [kill_comm,hv t' n' h]
def sB (m:Nat) (e:Nat->qA):Prop:=∀ t,lowV m (e t).v
def nL (m:Nat) (M:Nat->Nat->Option (List qA)):Prop:=∀ t n r,M t n=some r->∀ x∈r,lowV m x.v
def QC (m:Nat) (M0 M:Nat->Nat->Option (List qA)):Prop:=∀ t n,n<m->M t n=M0 t n
theorem sB.put {m:Nat} {e:Nat->qA} {d:Nat} {x:qA} (h:sB m e) (hx:lowV m x.v):sB m (putE e d x):=fun t=>by
 rw [zG];split
 ·exact hx
 ·exact h t
theorem sB.mono {m m':Nat} (hm:m<=m') {e:Nat->qA} (h:sB m e):sB m' e:=fun t=>KI hm (h t)
theorem sB.kill {m:Nat} {e:Nat->qA} (h:sB m e) {t n:Nat}:sB m (tW t n e):=fun j=>by
 rw [tB,qA.kill_v];exact fU (h j)
theorem sB.same {m:Nat} {e:Nat->qA} (h:sB m e) {t n:Nat} (hn:m<=n):tW t n e=e:=funext fun j=>by
 rw [tB];show (⟨(e j).v.kill t n,(e j).a⟩:qA)=e j;rw [JY hn (h j)]
theorem nL.set {m:Nat} {M:Nat->Nat->Option (List qA)} {t n:Nat} {r:List qA} (h:nL m M) (hr:∀ x∈r,lowV m x.v):nL m (eY M t n r):=fun t' n' r' he=>by
 rw [rB] at he;split at he
 ·injection he with he; subst he; exact hr
 ·exact h t' n' r' he
theorem nL.mono {m m':Nat} (hm:m<=m') {M:Nat->Nat->Option (List qA)} (h:nL m M):nL m' M:=fun t n r he x hx=>KI hm (h t n r he x hx)
theorem nL.kill {m:Nat} {M:Nat->Nat->Option (List qA)} (h:nL m M) {t n:Nat}:nL m (FY t n M):=fun t' n' r' he x hx=>by
 rw [jB] at he;split at he
 ·cases he
 ·obtain ⟨r,hr,rfl⟩:=yh.1 he;obtain ⟨y,hy,rfl⟩:=yy.1 hx;rw [qA.kill_v];exact fU (h t' n' r hr y hy)
theorem QC.refl {m:Nat} {M:Nat->Nat->Option (List qA)}:QC m M M:=fun _ _ _=>rfl
theorem QC.set {m:Nat} {M0 M:Nat->Nat->Option (List qA)} {t n:Nat} {r:List qA} (h:QC m M0 M) (hn:m<=n):QC m M0 (eY M t n r):=fun t' n' h'=>by
 rw [rB,if_neg (by omega)];exact h t' n' h'
theorem QC.kill {m:Nat} {M0 M:Nat->Nat->Option (List qA)} (h:QC m M0 M) (h0:nL m M0) {t n:Nat} (hn:m<=n):QC m M0 (FY t n M):=fun t' n' h'=>by
 rw [jB,if_neg (by omega),h t' n' h'];cases hr:M0 t' n' with
 | none=>rfl
 | some r =>
  refine congrArg some ?_;have:r.map (qA.kill t n)=r.map id:=yq fun x hx=>by
   show (⟨x.v.kill t n,x.a⟩:qA)=x;rw [JY hn (h0 t' n' r hr x hx)]
  rwa [List.map_id] at this
theorem T0 {m:Nat} {l:List (List AV)} (h:∀ c∈l,∀ v∈c,S4 m v) (h2:∀ c∈l,∀ v∈c,v.leaf=true):∀ x∈sA l,lowV m x.v:=fun x hx=>by
 obtain ⟨v,hv,rfl⟩:=yy.1 hx;obtain ⟨c,hc,hv⟩:=List.mem_flatten.1 hv;exact lowV_of (h c hc v hv) (h2 c hc v hv)
theorem K6 {v:AV} (h:v.free0=true):v.leaf=true:=by
 cases v <;> first | rfl | (simp [AV.free0] at h; done)
theorem RE {m:Nat} {l:List (List AV)} (h:SD l=true):∀ x∈sA l,lowV m x.v :=
 T0 (fun c hc v hv=>JP (y5.1 (y5.1 h c hc) v hv)) (fun c hc v hv=>K6 (y5.1 (y5.1 h c hc) v hv))
structure Calm (m:Nat) (s0 s:aA):Prop where
 mem:QC m s0.mem s.mem
 gh:s.gh=s0.gh
 obj:s.obj=s0.obj
 next:m<=s.next
 low:nL s.next s.mem
section
set_option maxHeartbeats 4000000
def EN (id:Int):ByteArray:=⟨#[109]⟩++Utf8.encode (97 + id)
def RJ (l:List dC) (i id:Int) (p:WP):Bool:=decide (1 + p.id % 12=id/\0<=GI l i p.ty)
def JL (l:List dC) (i:Int) (rc:Bool) (id:Int) (p:WP):BB :=
 ⟨id,EN id,GI l i p.ty,rc&&decide (p.flag % 4=1),rc&&decide (2<=p.flag % 4)&&(LJ l (GI l i p.ty) (p.flag / 4)).2,if (rc&&decide (2<=p.flag % 4))=true then (LJ l (GI l i p.ty) (p.flag / 4)).1 else Vl.zero⟩
def uP (l:List dC) (i:Int) (rc:Bool) (id:Int) (ps:List WP):List BB:=match ps.find? (RJ l i id) with
 | some p=>[JL l i rc id p]
 | none=>[]
def OJ (l:List dC) (i:Int) (rc:Bool) (ps:List WP):Nat->List BB
 | 0=>[]
 | n + 1=>OJ l i rc ps n++uP l i rc ((n + 1:Nat):Int) ps
def BE (l:List dC) (i:Int) (rc:Bool) (ps:List WP):List BB:=OJ l i rc ps 12
theorem memAt_len (l:List dC) (i:Int) (rc:Bool) (id:Int) (ps:List WP):(uP l i rc id ps).length<=1:=by
 unfold uP;split <;> simp
theorem BM (l:List dC) (i:Int) (rc:Bool) (ps:List WP):∀ n,(OJ l i rc ps n).length<=n
 | 0=>ym _
 | n + 1=>by
  have:=BM l i rc ps n;have:=memAt_len l i rc ((n + 1:Nat):Int) ps;rw [OJ,yl];omega
def pV (n0:Nat) (ms:List BB) (x:qA) (s:aA):Prop :=
 (ms=[]/\x.v=.sl true []/\x.a=.ex)\/∃ N,ms≠[]/\n0<=N/\N<s.next/\x.v=.ref 88 N 13 0 ms.length ms.length/\s.mem 88 N=some (sA (ms.map nA))
structure gL (n0:Nat) (s0:aA) (dn:Bool) (l:List dC) (i0:Int) (rc:Bool) (x:dC) (id:Int) (ms:List BB) (s:aA):Prop where
 e1:(s.env 1).v=.int .i64 i0
 e2:(s.env 2).v=.bool rc
 e3:(s.env 3).v=.ptr 3 n0 0
 m3:s.mem 3 n0=some [⟨.sl dn (l.map gD),.no⟩]
 e7:(s.env 7).v=.ptr 7 (n0 + 1) 0
 m7:s.mem 7 (n0 + 1)=some [⟨.int .u8 x.k,.no⟩,⟨.int .u8 x.a,.no⟩,⟨.int .u8 x.b,.no⟩,⟨.int .u8 x.c,.no⟩,⟨.sl x.pn (x.parts.map qE),.no⟩]
 e9:(s.env 9).v=.int .i64 id
 lst:pV n0 ms (s.env 8) s
 calm:Calm n0 s0 s
 lt:n0 + 1<s.next
theorem pV.of {n0:Nat} {ms:List BB} {x x':qA} {s s':aA} (h:pV n0 ms x s) (hx:x'=x) (hm:∀ N,s'.mem 88 N=s.mem 88 N) (hn:s.next<=s'.next):pV n0 ms x' s':=by
 subst hx;rcases h with h | ⟨N,h1,h2,h3,h4,h5⟩
 ·exact .inl h
 ·exact .inr ⟨N,h1,h2,Nat.lt_of_lt_of_le h3 hn,h4,(hm N).trans h5⟩
theorem dA {m:Nat} {r:List qA} (h:r.all (fun x=>x.v.free)=true:=by simp [AV.free,AV.free0]):∀ x∈r,lowV m x.v:=fun x hx=>QN (y5.1 h x hx)
theorem TV (n:Int):(Utf8.encode n).size<=4:=by
 unfold Utf8.encode;dsimp only;generalize (if Utf8.valid n=true then n.toNat else Utf8.runeError)=c;split
 ·exact (by decide:(1:Nat)<=4)
 ·split
  ·exact (by decide:(2:Nat)<=4)
  ·split
   ·exact (by decide:(3:Nat)<=4)
   ·exact (by decide:(4:Nat)<=4)
theorem ZV (n:Int) (h:-2147483648<=n/\n<=2147483647):IntKind.i32.wrap n=n:=by
 simp [IntKind.wrap,IntKind.bits,IntKind.signed];omega
theorem parts_in {r:RV} {n0:Nat} {s0:aA} {dn:Bool} {l:List dC} (hl:oks l) {i0:Int} (kg:0<=i0) (oe:i0<l.length) {rc:Bool} {x:dC} (hx:x.ok) (hM:nL n0 s0.mem) (hG:sB n0 s0.gh) {id:Int} (MO:1<=id/\id<=12) {ms:List BB} (ar:ms.length<=12) (s:aA) (k:Ex->aA->Option RV) (h:gL n0 s0 dn l i0 rc x id ms s) (pr:(s.env 10).v=.int .i64 0)
  (hk:∀ s',gL n0 s0 dn l i0 rc x id (ms++uP l i0 rc id x.parts) s'->k (.exit 2) s'=some r):OI jA rA fB s k=some r:=by
 refine xA x.parts.length (fun j s=>gL n0 s0 dn l i0 rc x id ms s/\(s.env 10).v=.int .i64 j/\(x.parts.drop j).find? (RJ l i0 id)=x.parts.find? (RJ l i0 id))
  (fun e s=>e=.exit 2/\gL n0 s0 dn l i0 rc x id (ms++uP l i0 rc id x.parts) s) (fun j hj s k h ih hk=>?_) s k ⟨h,by simpa using pr,rfl⟩ (fun e s h=>by obtain ⟨rfl,h⟩:=h; exact hk s h)
 obtain ⟨⟨e1,e2,e3,m3,e7,m7,e9,lst,calm,lt⟩,e10,hf⟩:=h;have nn:=hx.2.2.2.2.1;refine tA ?_;by_cases da:j<x.parts.length
 ·have fa:(j:Int)<x.parts.length:=by omega
  have xv:=ZA (i:=j);have hp:=hx.2.2.2.2.2 _ (y6 da);have g1:(x.parts.map qE)[j]?=some (qE x.parts[j]):=by simp [da]
  rw [yb da,List.find?_cons] at hf;generalize x.parts[j]=p at *
  simp only [qE] at g1;have tu:=target_ev dn l hl i0 kg oe p.ty hp.2.1;have hti:=mP hl i0 p.ty oe;have tq:=fun mb=>M6 dn l hl (GI l i0 p.ty) mb hti.2 (p.flag / 4) ⟨by have:=hp.2.2.1; omega,by have:=hp.2.2.2; omega⟩
  simp only [gA,mF] at tu tq;have ni:p.id.tmod 12=p.id % 12:=yu hp.1.1;have wn:IntKind.i64.wrap (p.id % 12)=p.id % 12:=IntWalk.i64_in _ (by omega);have ci:IntKind.i64.wrap (1 + p.id % 12)=1 + p.id % 12:=IntWalk.i64_in _ (by omega);have ck:IntKind.i64.wrap id=id:=IntWalk.i64_in _ (by omega);obtain ⟨z,hz⟩:∃ z:Int,z=j:=⟨_,rfl⟩;have gc:0<=z:=by omega
  have jr:IntKind.i64.wrap (z + 1)=((j + 1:Nat):Int):=by rw [hz]; exact xv
  rw [<- hz] at e10 fa;rw [show j=z.toNat from by omega] at g1;have calm':=calm;obtain ⟨cm,cg,co,cn,cl⟩:=calm;have next:∀ s',gL n0 s0 dn l i0 rc x id ms s'->(s'.env 10).v=.int .i64 ((j + 1:Nat):Int)->RJ l i0 id p=false->OI jA rA fB s' k=some r:=fun s' h1 h2 h3=>by
   rw [h3] at hf;exact ih da s' ⟨h1,h2,hf⟩
  by_cases c1:1 + p.id % 12=id
  ·by_cases c2:GI l i0 p.ty<0
   ·have au:RJ l i0 id p=false:=by simp [RJ,c1]; omega
    simp [fB,-V,-y3,-y0,J,e1,e2,e3,m3,e7,m7,e9,e10,fa,g1,gc,tu,ni,wn,ci,c1,c2,jr,ck];refine next _ ⟨?_,?_,?_,?_,?_,?_,?_,lst.of ?_ ?_ ?_,⟨?_,?_,?_,?_,?_⟩,?_⟩ ?_ au
    ·simp [e1]
    ·simp [e2]
    ·simp [e3]
    ·simp [rB,m3]
    ·simp [e7]
    ·simp [rB,m7]
    ·simp [e9]
    ·simp
    ·intro N; simp [rB]
    ·simp only; omega
    ·exact (cm.set (by omega)).set (by omega)
    ·exact cg
    ·exact co
    ·simp only; omega
    ·exact ((cl.mono (by dsimp only; omega)).set dA).set dA
    ·simp only; omega
    ·simp
   ·have hip:RJ l i0 id p=true:=by simp [RJ,c1]; omega
    rw [hip] at hf;have hma:uP l i0 rc id x.parts=[JL l i0 rc id p]:=by rw [uP,<- hf]
    rw [hma] at hk;have tq:=tq (by omega);have hq4:p.flag.tmod 4=p.flag % 4:=yu hp.2.2.1;have hv4:p.flag.tdiv 4=p.flag / 4:=Int.tdiv_eq_ediv_of_nonneg hp.2.2.1;have wv:IntKind.u8.wrap (p.flag / 4)=p.flag / 4:=by have:=hp.2.2.1; have:=hp.2.2.2; simp [IntKind.wrap,IntKind.bits,IntKind.signed]; omega
    have xq:IntKind.i64.wrap (97 + id)=97 + id:=IntWalk.i64_in _ (by omega);have gw:IntKind.i32.wrap (97 + id)=97 + id:=ZV _ (by omega);have tz:=TV (97 + id);have ac:(⟨#[109]⟩:ByteArray).size=1:=rfl;have jb:(⟨#[109]⟩:ByteArray).size + (Utf8.encode (97 + id)).size<=9223372036854775807:=by omega
    unfold JL EN at hk;generalize hE:Utf8.encode (97 + id)=nm at *
    generalize LJ l (GI l i0 p.ty) (p.flag / 4)=iz at *
    obtain ⟨iv,ib⟩:=iz;simp only [iA] at tq;generalize GI l i0 p.ty=t at *
    rcases lst with ⟨lm,l1,l2⟩ | ⟨N,lm,l1,l2,l3,l4⟩
    ·subst lm;have ka:eB 160 1=true:=by rw [EA]; omega
     cases rc with
     | false =>
      simp [fB,-V,-y3,-y0,J,e1,e2,e3,m3,e7,m7,e9,e10,fa,g1,gc,tu,ni,wn,ci,c1,c2,ck,xq,gw,hE,jb,l1,ka,l2];refine hk _ _ ⟨rfl,?_,?_,?_,?_,?_,?_,?_,.inr ⟨s.next + 1 + 1 + 1 + 1 + 1 + 1 + 1,?_,?_,?_,?_,?_⟩,⟨?_,?_,?_,?_,?_⟩,?_⟩
      ·simp [e1]
      ·simp [e2]
      ·simp [e3]
      ·simp [rB,m3]
      ·simp [e7]
      ·simp [rB,m7]
      ·simp [e9]
      ·simp
      ·omega
      ·dsimp only; omega
      ·simp
      ·simp [rB,nA,Vl.zero,Vl.kind,Vl.b,Vl.i,Vl.s,Vl.id,Vl.kn,Vl.keys,Vl.xn,Vl.items,Vl.rn,Vl.rest]
      ·repeat (first | exact cm | refine QC.set ?_ (by omega) | refine QC.kill ?_ hM (by omega))
      ·exact cg
      ·exact co
      ·dsimp only; omega
      ·exact (((((cl.mono (by dsimp only; omega)).set dA).set dA).set dA).set dA).set (RE (by simp [SD,AV.free0,nA]))
      ·dsimp only; omega
     | true =>
      by_cases f1:p.flag % 4=1
      ·simp [fB,-V,-y3,-y0,J,e1,e2,e3,m3,e7,m7,e9,e10,fa,g1,gc,tu,ni,wn,ci,c1,c2,ck,xq,gw,hE,jb,l1,ka,l2,hq4,f1];refine hk _ _ ⟨rfl,?_,?_,?_,?_,?_,?_,?_,.inr ⟨s.next + 1 + 1 + 1 + 1 + 1 + 1 + 1 + 1,?_,?_,?_,?_,?_⟩,⟨?_,?_,?_,?_,?_⟩,?_⟩
       ·simp [e1]
       ·simp [e2]
       ·simp [e3]
       ·simp [rB,m3]
       ·simp [e7]
       ·simp [rB,m7]
       ·simp [e9]
       ·simp
       ·omega
       ·dsimp only; omega
       ·simp
       ·simp [rB,nA,Vl.zero,Vl.kind,Vl.b,Vl.i,Vl.s,Vl.id,Vl.kn,Vl.keys,Vl.xn,Vl.items,Vl.rn,Vl.rest,f1]
       ·repeat (first | exact cm | refine QC.set ?_ (by omega) | refine QC.kill ?_ hM (by omega))
       ·exact cg
       ·exact co
       ·dsimp only; omega
       ·exact ((((((cl.mono (by dsimp only; omega)).set dA).set dA).set dA).set dA).set dA).set (RE (by simp [SD,AV.free0,nA]))
       ·dsimp only; omega
      ·by_cases f2:2<=p.flag % 4
       ·simp [fB,-V,-y3,-y0,J,e1,e2,e3,m3,e7,m7,e9,e10,fa,g1,gc,tu,ni,wn,ci,c1,c2,ck,xq,gw,hE,jb,l1,ka,l2,hq4,f1,f2,hv4,wv,tq];refine hk _ _ ⟨rfl,?_,?_,?_,?_,?_,?_,?_,.inr ⟨s.next + 1 + 1 + 1 + 1 + 1 + 1 + 1 + 1,?_,?_,?_,?_,?_⟩,⟨?_,?_,?_,?_,?_⟩,?_⟩
        ·simp [e1]
        ·simp [e2]
        ·simp [e3]
        ·simp [rB,m3]
        ·simp [e7]
        ·simp [rB,m7]
        ·simp [e9]
        ·simp
        ·omega
        ·dsimp only; omega
        ·simp
        ·simp [rB,nA,Vl.zero,Vl.kind,Vl.b,Vl.i,Vl.s,Vl.id,Vl.kn,Vl.keys,Vl.xn,Vl.items,Vl.rn,Vl.rest,f1,f2]
        ·repeat (first | exact cm | refine QC.set ?_ (by omega) | refine QC.kill ?_ hM (by omega))
        ·exact cg
        ·exact co
        ·dsimp only; omega
        ·exact (((((((cl.mono (by dsimp only; omega)).set dA).set dA).set dA).set dA).set dA).set dA).set (RE (by simp [SD,AV.free0,nA]))
        ·dsimp only; omega
       ·simp [fB,-V,-y3,-y0,J,e1,e2,e3,m3,e7,m7,e9,e10,fa,g1,gc,tu,ni,wn,ci,c1,c2,ck,xq,gw,hE,jb,l1,ka,l2,hq4,f1,f2];refine hk _ _ ⟨rfl,?_,?_,?_,?_,?_,?_,?_,.inr ⟨s.next + 1 + 1 + 1 + 1 + 1 + 1 + 1,?_,?_,?_,?_,?_⟩,⟨?_,?_,?_,?_,?_⟩,?_⟩
        ·simp [e1]
        ·simp [e2]
        ·simp [e3]
        ·simp [rB,m3]
        ·simp [e7]
        ·simp [rB,m7]
        ·simp [e9]
        ·simp
        ·omega
        ·dsimp only; omega
        ·simp
        ·simp [rB,nA,Vl.zero,Vl.kind,Vl.b,Vl.i,Vl.s,Vl.id,Vl.kn,Vl.keys,Vl.xn,Vl.items,Vl.rn,Vl.rest,f1,f2]
        ·repeat (first | exact cm | refine QC.set ?_ (by omega) | refine QC.kill ?_ hM (by omega))
        ·exact cg
        ·exact co
        ·dsimp only; omega
        ·exact (((((cl.mono (by dsimp only; omega)).set dA).set dA).set dA).set dA).set (RE (by simp [SD,AV.free0,nA]))
        ·dsimp only; omega
    ·have wo:(ms.map nA).length=ms.length:=by simp
     have ka:eB 160 (ms.length + 1)=true:=by rw [EA]; omega
     have ge:=BU ms;have ly:SD (ms.map nA)=true:=qL nA ms fun m=>by simp [nA,AV.free0]
     have ze:aE (sA (ms.map nA)) 13 0 ms.length=some (ms.map nA):=by have:=GG ge ly; rwa [wo] at this
     cases rc with
     | false =>
      simp [fB,-V,-y3,-y0,J,e1,e2,e3,m3,e7,m7,e9,e10,fa,g1,gc,tu,ni,wn,ci,c1,c2,ck,xq,gw,hE,jb,l3,ka,l4,ze];refine hk _ _ ⟨rfl,?_,?_,?_,?_,?_,?_,?_,.inr ⟨s.next + 1 + 1 + 1 + 1 + 1 + 1 + 1,?_,?_,?_,?_,?_⟩,⟨?_,?_,?_,?_,?_⟩,?_⟩
      ·simp [tB,jB,qA.kill_v,qA.kill_mk,AV.kill,AV.kill0,e1]
      ·simp [tB,jB,qA.kill_v,qA.kill_mk,AV.kill,AV.kill0,e2]
      ·simp [tB,jB,qA.kill_v,qA.kill_mk,AV.kill,AV.kill0,e3]
      ·simp [tB,jB,qA.kill_v,qA.kill_mk,AV.kill,AV.kill0,rB,m3]
      ·simp [tB,jB,qA.kill_v,qA.kill_mk,AV.kill,AV.kill0,e7]
      ·simp [tB,jB,qA.kill_v,qA.kill_mk,AV.kill,AV.kill0,rB,m7]
      ·simp [tB,jB,qA.kill_v,qA.kill_mk,AV.kill,AV.kill0,e9]
      ·simp
      ·omega
      ·dsimp only; omega
      ·simp
      ·simp [rB,nA,Vl.zero,Vl.kind,Vl.b,Vl.i,Vl.s,Vl.id,Vl.kn,Vl.keys,Vl.xn,Vl.items,Vl.rn,Vl.rest]
      ·repeat (first | exact cm | refine QC.set ?_ (by omega) | refine QC.kill ?_ hM (by omega))
      ·dsimp only; rw [cg]; exact hG.same (by omega)
      ·exact co
      ·dsimp only; omega
      ·exact ((((((cl.mono (by dsimp only; omega)).set dA).set dA).set dA).set dA).kill).set (RE (by simp [SD,AV.free0,nA]))
      ·dsimp only; omega
     | true =>
      by_cases f1:p.flag % 4=1
      ·simp [fB,-V,-y3,-y0,J,e1,e2,e3,m3,e7,m7,e9,e10,fa,g1,gc,tu,ni,wn,ci,c1,c2,ck,xq,gw,hE,jb,l3,ka,l4,ze,hq4,f1];refine hk _ _ ⟨rfl,?_,?_,?_,?_,?_,?_,?_,.inr ⟨s.next + 1 + 1 + 1 + 1 + 1 + 1 + 1 + 1,?_,?_,?_,?_,?_⟩,⟨?_,?_,?_,?_,?_⟩,?_⟩
       ·simp [tB,jB,qA.kill_v,qA.kill_mk,AV.kill,AV.kill0,e1]
       ·simp [tB,jB,qA.kill_v,qA.kill_mk,AV.kill,AV.kill0,e2]
       ·simp [tB,jB,qA.kill_v,qA.kill_mk,AV.kill,AV.kill0,e3]
       ·simp [tB,jB,qA.kill_v,qA.kill_mk,AV.kill,AV.kill0,rB,m3]
       ·simp [tB,jB,qA.kill_v,qA.kill_mk,AV.kill,AV.kill0,e7]
       ·simp [tB,jB,qA.kill_v,qA.kill_mk,AV.kill,AV.kill0,rB,m7]
       ·simp [tB,jB,qA.kill_v,qA.kill_mk,AV.kill,AV.kill0,e9]
       ·simp
       ·omega
       ·dsimp only; omega
       ·simp
       ·simp [rB,nA,Vl.zero,Vl.kind,Vl.b,Vl.i,Vl.s,Vl.id,Vl.kn,Vl.keys,Vl.xn,Vl.items,Vl.rn,Vl.rest,f1]
       ·repeat (first | exact cm | refine QC.set ?_ (by omega) | refine QC.kill ?_ hM (by omega))
       ·dsimp only; rw [cg]; exact hG.same (by omega)
       ·exact co
       ·dsimp only; omega
       ·exact (((((((cl.mono (by dsimp only; omega)).set dA).set dA).set dA).set dA).set dA).kill).set (RE (by simp [SD,AV.free0,nA]))
       ·dsimp only; omega
      ·by_cases f2:2<=p.flag % 4
       ·simp [fB,-V,-y3,-y0,J,e1,e2,e3,m3,e7,m7,e9,e10,fa,g1,gc,tu,ni,wn,ci,c1,c2,ck,xq,gw,hE,jb,l3,ka,l4,ze,hq4,f1,f2,hv4,wv,tq];refine hk _ _ ⟨rfl,?_,?_,?_,?_,?_,?_,?_,.inr ⟨s.next + 1 + 1 + 1 + 1 + 1 + 1 + 1 + 1,?_,?_,?_,?_,?_⟩,⟨?_,?_,?_,?_,?_⟩,?_⟩
        ·simp [tB,jB,qA.kill_v,qA.kill_mk,AV.kill,AV.kill0,e1]
        ·simp [tB,jB,qA.kill_v,qA.kill_mk,AV.kill,AV.kill0,e2]
        ·simp [tB,jB,qA.kill_v,qA.kill_mk,AV.kill,AV.kill0,e3]
        ·simp [tB,jB,qA.kill_v,qA.kill_mk,AV.kill,AV.kill0,rB,m3]
        ·simp [tB,jB,qA.kill_v,qA.kill_mk,AV.kill,AV.kill0,e7]
        ·simp [tB,jB,qA.kill_v,qA.kill_mk,AV.kill,AV.kill0,rB,m7]
        ·simp [tB,jB,qA.kill_v,qA.kill_mk,AV.kill,AV.kill0,e9]
        ·simp
        ·omega
        ·dsimp only; omega
        ·simp
        ·simp [rB,nA,Vl.zero,Vl.kind,Vl.b,Vl.i,Vl.s,Vl.id,Vl.kn,Vl.keys,Vl.xn,Vl.items,Vl.rn,Vl.rest,f1,f2]
        ·repeat (first | exact cm | refine QC.set ?_ (by omega) | refine QC.kill ?_ hM (by omega))
        ·dsimp only; rw [cg]; exact hG.same (by omega)
        ·exact co
        ·dsimp only; omega
        ·exact ((((((((cl.mono (by dsimp only; omega)).set dA).set dA).set dA).set dA).set dA).set dA).kill).set (RE (by simp [SD,AV.free0,nA]))
        ·dsimp only; omega
       ·simp [fB,-V,-y3,-y0,J,e1,e2,e3,m3,e7,m7,e9,e10,fa,g1,gc,tu,ni,wn,ci,c1,c2,ck,xq,gw,hE,jb,l3,ka,l4,ze,hq4,f1,f2];refine hk _ _ ⟨rfl,?_,?_,?_,?_,?_,?_,?_,.inr ⟨s.next + 1 + 1 + 1 + 1 + 1 + 1 + 1,?_,?_,?_,?_,?_⟩,⟨?_,?_,?_,?_,?_⟩,?_⟩
        ·simp [tB,jB,qA.kill_v,qA.kill_mk,AV.kill,AV.kill0,e1]
        ·simp [tB,jB,qA.kill_v,qA.kill_mk,AV.kill,AV.kill0,e2]
        ·simp [tB,jB,qA.kill_v,qA.kill_mk,AV.kill,AV.kill0,e3]
        ·simp [tB,jB,qA.kill_v,qA.kill_mk,AV.kill,AV.kill0,rB,m3]
        ·simp [tB,jB,qA.kill_v,qA.kill_mk,AV.kill,AV.kill0,e7]
        ·simp [tB,jB,qA.kill_v,qA.kill_mk,AV.kill,AV.kill0,rB,m7]
        ·simp [tB,jB,qA.kill_v,qA.kill_mk,AV.kill,AV.kill0,e9]
        ·simp
        ·omega
        ·dsimp only; omega
        ·simp
        ·simp [rB,nA,Vl.zero,Vl.kind,Vl.b,Vl.i,Vl.s,Vl.id,Vl.kn,Vl.keys,Vl.xn,Vl.items,Vl.rn,Vl.rest,f1,f2]
        ·repeat (first | exact cm | refine QC.set ?_ (by omega) | refine QC.kill ?_ hM (by omega))
        ·dsimp only; rw [cg]; exact hG.same (by omega)
        ·exact co
        ·dsimp only; omega
        ·exact ((((((cl.mono (by dsimp only; omega)).set dA).set dA).set dA).set dA).kill).set (RE (by simp [SD,AV.free0,nA]))
        ·dsimp only; omega
  ·have au:RJ l i0 id p=false:=by simp [RJ,c1]
   simp [fB,-V,-y3,-y0,J,e1,e2,e3,m3,e7,m7,e9,e10,fa,g1,gc,tu,ni,wn,ci,c1,jr];refine next _ ⟨?_,?_,?_,?_,?_,?_,?_,lst.of ?_ ?_ ?_,⟨?_,?_,?_,?_,?_⟩,?_⟩ ?_ au
   ·simp [e1]
   ·simp [e2]
   ·simp [e3]
   ·simp [rB,m3]
   ·simp [e7]
   ·simp [rB,m7]
   ·simp [e9]
   ·simp
   ·intro N; simp [rB]
   ·simp only; omega
   ·exact (cm.set (by omega)).set (by omega)
   ·exact cg
   ·exact co
   ·simp only; omega
   ·exact ((cl.mono (by dsimp only; omega)).set dA).set dA
   ·simp only; omega
   ·simp
 ·have fa:¬ (j:Int)<x.parts.length:=by omega
  simp [fB,-V,-y3,-y0,J,e7,m7,e10,da];rw [ye (by omega),List.find?_nil] at hf;have hnil:uP l i0 rc id x.parts=[]:=by rw [uP,<- hf]
  refine hk _ _ ⟨rfl,?_⟩;rw [hnil,List.append_nil];obtain ⟨cm,cg,co,cn,cl⟩:=calm;refine ⟨?_,?_,?_,?_,?_,?_,?_,lst.of ?_ ?_ ?_,⟨?_,?_,?_,?_,?_⟩,?_⟩
  ·simp [e1]
  ·simp [e2]
  ·simp [e3]
  ·simp [m3]
  ·simp [e7]
  ·simp [m7]
  ·simp [e9]
  ·simp
  ·intro N; simp
  ·simp
  ·exact cm
  ·exact cg
  ·exact co
  ·simp only; omega
  ·exact cl.mono (by dsimp only; omega)
  ·simp only; omega
end
section
set_option maxHeartbeats 4000000
theorem gL.of {n0:Nat} {s0:aA} {dn:Bool} {l:List dC} {i0:Int} {rc:Bool} {x:dC} {id id':Int} {ms:List BB} {s s':aA} (h:gL n0 s0 dn l i0 rc x id ms s)
  (h1:(s'.env 1).v=(s.env 1).v) (h2:(s'.env 2).v=(s.env 2).v) (h3:(s'.env 3).v=(s.env 3).v) (h7:(s'.env 7).v=(s.env 7).v) (h8:s'.env 8=s.env 8) (h9:(s'.env 9).v=.int .i64 id') (hm:s'.mem=s.mem) (hg:s'.gh=s.gh) (ho:s'.obj=s.obj) (hn:s.next<=s'.next):gL n0 s0 dn l i0 rc x id' ms s':=by
 obtain ⟨e1,e2,e3,m3,e7,m7,e9,lst,⟨cm,cg,co,cn,cl⟩,lt⟩:=h;refine ⟨by rw [h1,e1],by rw [h2,e2],by rw [h3,e3],by rw [hm,m3],by rw [h7,e7],by rw [hm,m7],h9,lst.of h8 (fun N=>by rw [hm]) hn,⟨by rw [hm]; exact cm,by rw [hg,cg],by rw [ho,co],by omega,by rw [hm]; exact cl.mono hn⟩,by omega⟩
theorem i5 {r:RV} {dn:Bool} {l:List dC} (hl:oks l) {i0:Int} (kg:0<=i0) (oe:i0<l.length) {rc:Bool} {x:dC} (hx:l[i0.toNat]?=some x) {a1 a2 a3:An} (s0:aA) (hM:nL s0.next s0.mem) (hG:sB s0.next s0.gh) (k:qA->aA->Option RV)
  (hk:∀ y s',Calm s0.next s0 s'->pV s0.next (BE l i0 rc x.parts) y s'->k y s'=some r):H3 jA rA 92 [⟨.agg (mF dn l),a1⟩,⟨.int .i64 i0,a2⟩,⟨.bool rc,a3⟩] s0 k=some r:=by
 refine sK WK rfl rfl ?_;have hxo:x.ok:=hl.2.2 _ (yj hx);have g:(l.map gD)[i0.toNat]?=some (gD x):=by simp [hx]
 simp only [gD] at g;simp [WK,mF,-V,-y3,-y0,J,g,kg];refine xA 12 (fun i s=>gL s0.next s0 dn l i0 rc x ((i + 1:Nat):Int) (OJ l i0 rc x.parts i) s)
  (fun e s=>e=.exit 0/\∃ id,gL s0.next s0 dn l i0 rc x id (BE l i0 rc x.parts) s) (fun i hi s k' h ih hk=>?_) _ _ ?_ (fun e s h=>?_)
 ·refine tA ?_;by_cases da:i<12
  ·have MO:((i + 1:Nat):Int)<=12:=by omega
   have e9:=h.e9;have hw:IntKind.i64.wrap (((i + 1:Nat):Int) + 1)=((i + 1 + 1:Nat):Int):=ZA (by omega);obtain ⟨z,hz⟩:∃ z:Int,z=((i + 1:Nat):Int):=⟨_,rfl⟩;rw [<- hz] at e9 MO hw;simp [qK,-V,-y3,-y0,J,e9,MO];refine parts_in hl kg oe hxo hM hG (id:=z) (by omega) (Nat.le_trans (BM l i0 rc x.parts i) hi) _ _ (h.of ?_ ?_ ?_ ?_ ?_ ?_ ?_ ?_ ?_ ?_) ?_ (fun s' h'=>?_)
   ·simp
   ·simp
   ·simp
   ·simp
   ·simp
   ·simp [e9]
   ·rfl
   ·rfl
   ·rfl
   ·dsimp only; omega
   ·simp
   ·have e9':=h'.e9;simp [-V,-y3,-y0,J,e9',hw];rw [hz] at h';refine ih da _ (gL.of (ms:=OJ l i0 rc x.parts (i + 1)) h' ?_ ?_ ?_ ?_ ?_ ?_ ?_ ?_ ?_ ?_)
    ·simp
    ·simp
    ·simp
    ·simp
    ·simp
    ·simp
    ·rfl
    ·rfl
    ·rfl
    ·dsimp only; omega
  ·have hi12:i=12:=by omega
   subst hi12;have e9:=h.e9;simp at e9;simp [qK,-V,-y3,-y0,J,e9];refine hk _ _ ⟨rfl,13,gL.of (id':=13) h ?_ ?_ ?_ ?_ ?_ ?_ ?_ ?_ ?_ ?_⟩
   ·simp
   ·simp
   ·simp
   ·simp
   ·simp
   ·simp [e9]
   ·rfl
   ·rfl
   ·rfl
   ·dsimp only; omega
 ·refine ⟨?_,?_,?_,?_,?_,?_,?_,.inl ⟨rfl,?_,?_⟩,⟨?_,?_,?_,?_,?_⟩,?_⟩
  ·simp
  ·simp
  ·simp
  ·simp [rB]
  ·simp
  ·simp [rB]
  ·simp
  ·simp
  ·simp
  ·exact (((QC.refl).set (by omega)).set (by omega)).set (by omega)
  ·rfl
  ·rfl
  ·dsimp only; omega
  ·exact (((hM.mono (by dsimp only; omega)).set dA).set dA).set dA
  ·dsimp only; omega
 ·obtain ⟨rfl,id,h⟩:=h;obtain ⟨e1,e2,e3,m3,e7,m7,e9,lst,⟨cm,cg,co,cn,cl⟩,lt⟩:=h;simp [-V,-y3,-y0,J,WM,kQ,AN];refine hk _ _ ⟨cm,cg,co,?_,cl.mono ?_⟩ (lst.of ?_ (fun N=>?_) ?_)
  ·dsimp only; omega
  ·dsimp only; omega
  ·rfl
  ·rfl
  ·dsimp only; omega
end
def DN (x:qA):Prop:=∀ k,x.strip k=x
def sV (e:Nat->qA):Prop:=∀ t,DN (e t)
def M7 (m:Nat) (M:Nat->Nat->Option (List qA)):Prop:=∀ t n r,n<m->M t n=some r->∀ x∈r,DN x
theorem fS (v:AV):DN ⟨v,.no⟩:=fun _=>rfl
theorem d5 (v:AV):DN ⟨v,.ex⟩:=fun _=>rfl
theorem sV.same {e:Nat->qA} (h:sV e) (k:Nat):bX k e=e:=funext fun t=>by rw [sZ]; exact h t k
theorem nX (k:Nat) (M:Nat->Nat->Option (List qA)) (t n:Nat):HT k M t n=(M t n).map (·.map (qA.strip k)):=rfl
theorem QC.strip {m:Nat} {M0 M:Nat->Nat->Option (List qA)} (h:QC m M0 M) (h0:M7 m M0) (k:Nat):QC m M0 (HT k M):=fun t n hn=>by
 rw [nX,h t n hn];cases hr:M0 t n with
 | none=>rfl
 | some r =>
  refine congrArg some ?_;have:r.map (qA.strip k)=r.map id:=yq fun x hx=>h0 t n r hn hr x hx k
  rwa [List.map_id] at this
theorem nL.strip {m:Nat} {M:Nat->Nat->Option (List qA)} (h:nL m M) (k:Nat):nL m (HT k M):=fun t n r he x hx=>by
 rw [nX] at he;obtain ⟨r0,hr,rfl⟩:=yh.1 he;obtain ⟨y,hy,rfl⟩:=yy.1 hx;exact h t n r0 hr y hy
theorem sB.strip {m:Nat} {e:Nat->qA} (h:sB m e) (k:Nat):sB m (bX k e):=fun t=>h t
theorem pX {l:List (List AV)} (h:SD l=true) (t n:Nat):(sA l).map (qA.kill t n)=sA l:=by
 have:(sA l).map (qA.kill t n)=(sA l).map id:=yq fun x hx=>by
  have:=RE (m:=0) h x hx t n (Nat.zero_le _);show (⟨x.v.kill t n,x.a⟩:qA)=x;rw [this]
 rwa [List.map_id] at this
def XJ (i:Int):ByteArray:=Utf8.encode (65 + i)
def sName (d:Int):ByteArray:=⟨#[115]⟩++Utf8.encode (97 + d)
def iI (a:Int):List IS:=(lF a).map fun d=>⟨d,sName d⟩
def fA.of (k:Int) (nm:ByteArray):fA:=⟨k,nm,0,0,0,true,[],true,[],0,0,false⟩
def nB (l:List dC) (i:Int):fA :=
 let x:=HA l i
 let n:Int:=l.length
 match x.kind with
 | 1=>.of 1 ⟨#[]⟩
 | 2=>{ fA.of 2 ⟨#[]⟩ with low:=x.low,high:=x.high }
 | 3=>{ fA.of 3 ⟨#[]⟩ with max:=x.a % 4 }
 | 4=>{ fA.of 4 (XJ i) with opn:=decide (x.b % 2=1),sn:=false,syms:=iI x.a }
 | 5=>{ fA.of 5 (XJ i) with mn:=(BE l i true x.parts).isEmpty,mems:=BE l i true x.parts }
 | 6=>if (BE l i false x.parts).isEmpty=true then .of 5 (XJ i) else { fA.of 6 (XJ i) with opn:=decide (x.b % 2=1),mn:=false,mems:=BE l i false x.parts }
 | 7=>{ fA.of 7 ⟨#[]⟩ with max:=x.a % 4,elem:=x.c % n }
 | 8=>if jK l x.b<0 then { fA.of 7 ⟨#[]⟩ with max:=x.a % 4,elem:=x.c % n } else { fA.of 8 ⟨#[]⟩ with max:=x.a % 4,key:=jK l x.b,elem:=x.c % n }
 | _=>{ fA.of 9 ⟨#[]⟩ with elem:=x.c % n }
def WF (t:fA) (c:AV):List AV:=[.int .i64 t.kind,.str t.name,.int .i64 t.low,.int .i64 t.high,.int .i64 t.max,.sl t.sn (t.syms.map RD),c,.int .i64 t.key,.int .i64 t.elem,.bool t.opn]
theorem typL_C (t:fA):WF t (.sl t.mn (t.mems.map nA))=eA t:=rfl
def MI (ms:List BB) (c:AV) (s:aA):Prop :=
 (ms=[]/\c=.sl true [])\/∃ N,ms≠[]/\N<s.next/\c=.ref 88 N 13 0 ms.length ms.length/\s.mem 88 N=some (sA (ms.map nA))
theorem pV.mems {n0:Nat} {ms:List BB} {x:qA} {s:aA} (h:pV n0 ms x s):MI ms x.v s:=by
 rcases h with ⟨h1,h2,_⟩ | ⟨N,h1,_,h3,h4,h5⟩
 ·exact .inl ⟨h1,h2⟩
 ·exact .inr ⟨N,h1,h3,h4,h5⟩
theorem LY (ms:List BB):SD (ms.map nA)=true:=qL nA ms fun m=>by simp [nA,AV.free0]
theorem MI.keep {ms:List BB} {c:AV} {s s':aA} (h:MI ms c s) (hm:∀ N,N<s.next->s'.mem 88 N=s.mem 88 N) (hn:s.next<=s'.next):MI ms c s':=by
 rcases h with h | ⟨N,h1,h2,h3,h4⟩
 ·exact .inl h
 ·exact .inr ⟨N,h1,Nat.lt_of_lt_of_le h2 hn,h3,(hm N h2).trans h4⟩
theorem MI.low {ms:List BB} {c:AV} {s:aA} (h:MI ms c s):S4 s.next c:=by
 rcases h with ⟨_,rfl⟩ | ⟨N,_,h2,rfl,_⟩
 ·exact JP rfl
 ·exact D4 h2
def qJ (S:List fA) (L:List (List AV)) (s:aA):Prop:=S.length=L.length/\∀ (i:Nat) (t:fA) (c:List AV),S[i]?=some t->L[i]?=some c->∃ m,c=WF t m/\MI t.mems m s
theorem qJ.snoc {S:List fA} {L:List (List AV)} {s:aA} (h:qJ S L s) {t:fA} {m:AV} (hm:MI t.mems m s):qJ (S++[t]) (L++[WF t m]) s:=by
 obtain ⟨h1,h2⟩:=h;refine ⟨by simp [h1],fun i t' c' ht hc=>?_⟩;rcases Nat.lt_or_ge i S.length with da | ne
 ·rw [yF da] at ht;rw [yF (by omega)] at hc;exact h2 i t' c' ht hc
 ·rw [yR ne] at ht;rw [yR (by omega)] at hc;have hi:i - S.length=0:=by
   rcases yK (i - S.length) with h0 | h0
   ·exact h0
   ·rw [yW (by simp; omega)] at ht; cases ht
  rw [hi] at ht;rw [<- h1,hi] at hc;injection ht with ht;injection hc with hc;exact ⟨m,by rw [<- ht,<- hc],by rw [<- ht]; exact hm⟩
theorem qJ.keep {S:List fA} {L:List (List AV)} {s s':aA} (h:qJ S L s) (hm:∀ N,N<s.next->s'.mem 88 N=s.mem 88 N) (hn:s.next<=s'.next):qJ S L s' :=
 ⟨h.1,fun i t c ht hc=>by obtain ⟨m,h1,h2⟩:=h.2 i t c ht hc; exact ⟨m,h1,h2.keep hm hn⟩⟩
theorem qJ.els {S:List fA} {L:List (List AV)} {s:aA} (h:qJ S L s):lB 10 L=true:=by
 refine y5.2 fun c hc=>?_
 obtain ⟨i,hi,rfl⟩:=yB hc;have ja:=h.1;have hiS:i<S.length:=by omega
 obtain ⟨m,h1,_⟩:=h.2 i S[i] L[i] (y4 (by omega)) (y4 hi);rw [h1];rfl
section
set_option maxHeartbeats 4000000
def BP (p n8:Nat) (M M':Nat->Nat->Option (List qA)):Prop:=∀ t n,¬ (t=p/\n=n8)->(∀ r,M t n=some r->∀ x∈r,DN x)->M' t n=M t n
theorem BP.refl {p n8:Nat} {M:Nat->Nat->Option (List qA)}:BP p n8 M M:=fun _ _ _ _=>rfl
theorem BP.strip {p n8:Nat} {M M':Nat->Nat->Option (List qA)} (h:BP p n8 M M') (k:Nat):BP p n8 M (HT k M'):=fun t n h1 h2=>by
 rw [dZ,h t n h1 h2];cases hr:M t n with
 | none=>rfl
 | some r =>
  refine congrArg some ?_;have:r.map (qA.strip k)=r.map id:=yq fun x hx=>h2 r hr x hx k
  rwa [List.map_id] at this
theorem BP.set {p n8:Nat} {M M':Nat->Nat->Option (List qA)} (h:BP p n8 M M') {r:List qA}:BP p n8 M (eY M' p n8 r):=fun t n h1 h2=>by
 rw [rB,if_neg h1];exact h t n h1 h2
def EJ (nm:ByteArray) (op:Bool) (S:List IS) (b:Bool) (a:An):List qA:=[⟨.int .i64 4,.no⟩,⟨.str nm,.no⟩,⟨.int .i64 0,.no⟩,⟨.int .i64 0,.no⟩,⟨.int .i64 0,.no⟩,⟨.sl b (S.map RD),a⟩,⟨.sl true [],.no⟩,⟨.int .i64 0,.no⟩,⟨.int .i64 0,.no⟩,⟨.bool op,.no⟩]
theorem idl_rng (a:Int):∀ i,∀ d∈NU a i,1<=d/\d<=i
 | 0,d,h=>by cases h
 | i + 1,d,h=>by
  rw [NU] at h;rcases yt.1 h with h | h
  ·have:=idl_rng a i d h; omega
  ·split at h
   ·simp at h; omega
   ·cases h
theorem idsZ_rng (a:Int):∀ d∈lF a,1<=d/\d<=6:=fun d h=>by
 unfold lF at h;split at h
 ·simp at h; omega
 ·have:=idl_rng a 6 d h; omega
theorem esyms_ev {r:RV} {a:Int} {n8:Nat} {nm:ByteArray} {op:Bool} (s0:aA) (k:Ex->aA->Option RV)
  (h9:(s0.env 9).v=.sl false ((lF a).map wL)) (pr:(s0.env 10).v=.int .i64 0) (h8:(s0.env 8).v=.ptr 8 n8 0) (da:n8<s0.next) (hm:s0.mem 8 n8=some (EJ nm op [] true .no)) (hG:sV s0.gh) (hL:nL s0.next s0.mem) (hE:sB s0.next s0.env)
  (hk:∀ s',(∀ t,t<9->(s'.env t).v=(s0.env t).v)->BP 8 n8 s0.mem s'.mem->s'.gh=s0.gh->s'.obj=s0.obj->s0.next<=s'.next->nL s'.next s'.mem->sB s'.next s'.env->(∃ an,s'.mem 8 n8=some (EJ nm op (iI a) false an))->k (.exit 3) s'=some r):OI jA rA FG s0 k=some r:=by
 have tg:=OR a;refine xA (lF a).length (fun i s=>(∀ t,t<10->(s.env t).v=(s0.env t).v)/\(s.env 10).v=.int .i64 i/\BP 8 n8 s0.mem s.mem/\s.gh=s0.gh/\s.obj=s0.obj/\s0.next<=s.next/\nL s.next s.mem/\sB s.next s.env/\(i=0/\s.mem 8 n8=some (EJ nm op [] true .no)\/¬ i=0/\s.mem 8 n8=some (EJ nm op ((iI a).take i) false (.own 91 137))))
  (fun e s=>e=.exit 3/\(∀ t,t<9->(s.env t).v=(s0.env t).v)/\BP 8 n8 s0.mem s.mem/\s.gh=s0.gh/\s.obj=s0.obj/\s0.next<=s.next/\nL s.next s.mem/\sB s.next s.env/\∃ an,s.mem 8 n8=some (EJ nm op (iI a) false an)) (fun i hi s k h ih hk=>?_) s0 k ⟨fun _ _=>rfl,by simpa using pr,BP.refl,rfl,rfl,ym _,hL,hE,.inl ⟨rfl,hm⟩⟩ (fun e s h=>by obtain ⟨rfl,h1,h2,h3,h4,h5,h6,h7,h8⟩:=h; exact hk s h1 h2 h3 h4 h5 h6 h7 h8)
 obtain ⟨he,e10,db,hg,ho,hn,hL,hE,la⟩:=h;have e9:=(he 9 (by omega)).trans h9;have e8:=(he 8 (by omega)).trans h8;refine tA ?_;by_cases fa:i<(lF a).length
 ·have fx:(i:Int)<(lF a).length:=by omega
  have rg:=ZA (i:=i);have g1:((lF a).map wL)[i]?=some (wL (lF a)[i]):=by simp [fa]
  have hd:=idsZ_rng a _ (y6 fa);have rx:(iI a).take (i + 1)=(iI a).take i++[⟨(lF a)[i],sName (lF a)[i]⟩]:=by
   have hl:i<(iI a).length:=by simpa [iI] using fa
   rw [<- yH hl];simp [iI]
  have ae:((iI a).take i).length=i:=by simp [iI]; omega
  generalize (lF a)[i]=d at *
  have hlm:((lF a).map wL).length=(lF a).length:=by simp
  generalize (lF a).map wL=D at *
  generalize hS:(iI a).take i=S at *
  obtain ⟨z,hz⟩:∃ z:Int,z=i:=⟨_,rfl⟩;have gc:0<=z:=by omega
  have jr:IntKind.i64.wrap (z + 1)=((i + 1:Nat):Int):=by rw [hz]; exact rg
  rw [<- hz] at e10 fx;rw [show i=z.toNat from by omega] at g1;simp only [wL] at g1;have hw97:IntKind.i64.wrap (97 + d)=97 + d:=IntWalk.i64_in _ (by omega);have rm:IntKind.i32.wrap (97 + d)=97 + d:=ZV _ (by omega);have tz:=TV (97 + d);have ac:(⟨#[115]⟩:ByteArray).size=1:=rfl;have jb:(⟨#[115]⟩:ByteArray).size + (Utf8.encode (97 + d)).size<=9223372036854775807:=by omega
  unfold sName at rx;generalize hEn:Utf8.encode (97 + d)=en at *
  have ka:eB 24 (i + 1)=true:=by rw [EA]; omega
  have ge:=els_sym S;rcases la with ⟨kg,hr⟩ | ⟨kg,hr⟩
  ·have hS0:S=[]:=by rw [<- hS,kg]; rfl
   subst hS0;subst kg;simp only [EJ,yn] at hr;simp [FG,-V,-y3,-y0,J,e8,e9,e10,hlm,fx,gc,g1,hw97,rm,hEn,jb,hr,ka,jr];refine ih fa _ ⟨fun t ht=>?_,?_,?_,?_,ho,?_,?_,?_,.inr ⟨by omega,?_⟩⟩
   ·have:=he t ht;have q:∀ c,10<=c->¬ t=c:=fun c hc=>by omega
    simp [q,this]
   ·simp
   ·repeat (first | exact db | refine BP.set ?_ | refine BP.strip ?_ _)
   ·simp only [hg,hG.same]
   ·dsimp only; omega
   ·exact ((hL.mono (by dsimp only; omega)).strip 91).set dA
   ·dsimp only
    repeat (first | exact hE.mono (by omega) | refine sB.put ?_ (fun _ _ _=>rfl) | refine sB.put ?_ (uD (by omega)) | refine sB.strip ?_ _)
   ·simp [EJ,rx,RD]
  ·simp only [EJ] at hr;simp [FG,-V,-y3,-y0,J,e8,e9,e10,hlm,fx,gc,g1,hw97,rm,hEn,jb,hr,ae,ge,ka,jr];refine ih fa _ ⟨fun t ht=>?_,?_,?_,?_,ho,?_,?_,?_,.inr ⟨by omega,?_⟩⟩
   ·have:=he t ht;have q:∀ c,10<=c->¬ t=c:=fun c hc=>by omega
    simp [q,this]
   ·simp
   ·repeat (first | exact db | refine BP.set ?_ | refine BP.strip ?_ _)
   ·simp only [hg,hG.same]
   ·dsimp only; omega
   ·exact (((hL.mono (by dsimp only; omega)).strip 91).strip 91).set dA
   ·dsimp only
    repeat (first | exact hE.mono (by omega) | refine sB.put ?_ (fun _ _ _=>rfl) | refine sB.put ?_ (uD (by omega)) | refine sB.strip ?_ _)
   ·simp [EJ,rx,RD]
 ·have lg:i=(lF a).length:=by omega
  have fx:¬ (i:Int)<(lF a).length:=by omega
  simp [FG,-V,-y3,-y0,J,e9,e10,fa];have kg:¬ i=0:=by omega
  rcases la with ⟨h0,_⟩ | ⟨_,hr⟩
  ·exact absurd h0 kg
  ·rw [yx (by simp [iI]; omega)] at hr;refine hk _ _ ⟨rfl,fun t ht=>?_,db,hg,ho,by dsimp only; omega,hL.mono (by dsimp only; omega),?_,_,hr⟩
   ·have:=he t (by omega);simp [show ¬ t=69 from by omega,show ¬ t=70 from by omega,show ¬ t=71 from by omega,show ¬ t=72 from by omega,this]
   ·dsimp only
    repeat (first | exact hE.mono (by omega) | refine sB.put ?_ (fun _ _ _=>rfl))
end
section
set_option maxHeartbeats 4000000
def XD:C:=.reg [oF 164 0 5,oL 165 164,oA 166 10 8,oS 167 (.bslr 10 zze 1 [(0,(.t 166))]),oS 168 (.appn .any 132 10 120 (.t 165) (.t 167)),oF 169 0 5,oW 169 168]
def MB:C:=oR [oF 26 0 1,oL 27 26,oM 28 6,oI 29 5 27 28,oA 30 5 29,oY 7 zzd,oV 5 7 30] (oR [oA 31 1 1,oM 32 6,oC2 33 87 31 32,oS 34 (.build zze [(0,(1,(.t 33)))]),oY 8 zze,oV 10 8 34] (.seq (oR [oF 35 0 8,oL 36 35,oC1 37 88 36] (oD 37 (.reg [oM 38 6,oS 39 (.bin .add false (.c (.int .i64 65)) (.t 38)),oS 40 (.conv (.some .i32) (.t 39)),oS 41 (.rstr (.t 40)),oF 42 1 8,oW 42 41]) .skip)) (.seq (oR [oF 43 0 8,oL 44 43] (.block 2 (oR [oC 46 .eql 44 2,oM 45 46] (oD 45 (.reg [oS 47 (.load (.root 7) true 5 (.t 7)),oC1 48 89 47,oS 49 (.load (.root 7) true 5 (.t 7)),oC1 50 90 49,oF 51 2 8,oN (.store (.root 8) false 1 (.t 51) (.t 48)),oF 52 3 8,oN (.store (.root 8) false 1 (.t 52) (.t 50))]) (oR [oC 54 .eql 44 3,oM 53 54] (oD 53 (.reg [oF 55 1 7,oL 56 55,oS 57 (.bin .rem false (.t 56) (.c (.int .u8 4))),oS 58 (.conv (.some .i64) (.t 57)),oF 59 4 8,oW 59 58]) (oR [oC 61 .eql 44 4,oM 60 61] (oD 60 (oR [oF 62 2 7,oL 63 62,oS 64 (.bin .rem false (.t 63) (.c (.int .u8 2))),oS 65 (.bin .eql false (.t 64) (.c (.int .u8 1))),oF 66 9 8,oW 66 65] (oR [oA 67 5 7,oC1 68 91 67,oM 9 68] (oR [oJ 10 0] (.block 3 (.loop FG))))) (oR [oC 94 .eql 44 5,oM 93 94] (oD 93 (.reg [oA 95 1 1,oM 96 6,oS 97 (.callh 171 (.c (.fn 92 [])) [(.t 95),(.t 96),(.c (.bool true))]),oF 98 6 8,oW 98 97]) (oR [oC 100 .eql 44 6,oM 99 100] (oD 99 (oR [oF 101 2 7,oL 102 101,oS 103 (.bin .rem false (.t 102) (.c (.int .u8 2))),oS 104 (.bin .eql false (.t 103) (.c (.int .u8 1))),oF 105 9 8,oW 105 104] (oR [oA 106 1 1,oM 107 6,oS 108 (.callh 171 (.c (.fn 92 [])) [(.t 106),(.t 107),(.c (.bool false))]),oF 109 6 8,oW 109 108] (oR [oF 110 6 8,oL 111 110,oH 112 111,oC 113 .eql 112 0] (oD 113 (.reg [oF 114 1 8,oL 115 114,oS 116 (.build zze [(0,(1,(.c (.int .i64 5)))),(1,(1,(.t 115)))]),oV 10 8 116]) .skip)))) (oR [oC 118 .eql 44 7,oM 117 118] (oD 117 (.reg [oF 119 1 7,oLr 120 7 1 119,oS 121 (.bin .rem false (.t 120) (.c (.int .u8 4))),oS 122 (.conv (.some .i64) (.t 121)),oF 123 3 7,oLr 124 7 1 123,oS 125 (.conv (.some .i64) (.t 124)),oM 126 4,oB 127 .rem 125 126,oF 128 4 8,oN (.store (.root 8) false 1 (.t 128) (.t 122)),oF 129 8 8,oN (.store (.root 8) false 1 (.t 129) (.t 127))]) (oR [oC 131 .eql 44 8,oM 130 131] (oD 130 (oR [oF 132 1 7,oLr 133 7 1 132,oS 134 (.bin .rem false (.t 133) (.c (.int .u8 4))),oS 135 (.conv (.some .i64) (.t 134)),oS 136 (.load (.root 1) true 1 (.t 1)),oF 137 2 7,oLr 138 7 1 137,oC2 139 93 136 138,oF 140 3 7,oLr 141 7 1 140,oS 142 (.conv (.some .i64) (.t 141)),oM 143 4,oB 144 .rem 142 143,oF 145 4 8,oN (.store (.root 8) false 1 (.t 145) (.t 135)),oF 146 7 8,oN (.store (.root 8) false 1 (.t 146) (.t 139)),oF 147 8 8,oN (.store (.root 8) false 1 (.t 147) (.t 144))] (oR [oF 148 7 8,oL 149 148,oC 150 .lss 149 0] (oD 150 (.reg [oF 151 4 8,oL 152 151,oF 153 8 8,oL 154 153,oS 155 (.build zze [(0,(1,(.c (.int .i64 7)))),(4,(1,(.t 152))),(8,(1,(.t 154)))]),oV 10 8 155]) .skip))) (oR [oC 157 .eql 44 9,oM 156 157] (oD 156 (.reg [oF 158 3 7,oL 159 158,oS 160 (.conv (.some .i64) (.t 159)),oM 161 4,oB 162 .rem 160 161,oF 163 8 8,oW 163 162]) .skip)))))))))))))))))) XD)))
theorem of_L2:bQ=.seq (.seq (.reg [⟨(.some 21),(.mv (.t 6)),.none⟩,⟨(.some 22),(.mv (.t 4)),.none⟩,⟨(.some 23),(.bin .lss .false (.t 21) (.t 22)),.none⟩]) (.cond (.t 23) .skip (.exit 0))) (.seq (.block 1 MB) (.reg [⟨(.some 24),(.mv (.t 6)),.none⟩,⟨(.some 25),(.bin .add .false (.t 24) (.c (.int .i64 1))),.none⟩,⟨(.some 6),(.mv (.t 25)),.none⟩])):=rfl
def M5I (n0:Nat) (l:List dC) (i:Nat) (s:aA):Prop :=
 (i=0/\∃ a,s.mem 5 (n0 + 3)=some [⟨.sl true [],a⟩]/\DN ⟨.sl true [],a⟩)\/∃ N L,¬ i=0/\s.mem 5 (n0 + 3)=some [⟨.ref 168 N 10 0 i i,.no⟩]/\n0<=N/\N<s.next/\s.mem 168 N=some (sA L)/\L.length=i/\qJ ((List.range i).map fun (j:Nat)=>nB l (j:Int)) L s
theorem M5I.keep {n0:Nat} {l:List dC} {i:Nat} {s s':aA} (h:M5I n0 l i s) (h5:s'.mem 5 (n0 + 3)=s.mem 5 (n0 + 3)) (jl:∀ N,N<s.next->s'.mem 168 N=s.mem 168 N) (h88:∀ N,N<s.next->s'.mem 88 N=s.mem 88 N) (hn:s.next<=s'.next):M5I n0 l i s':=by
 rcases h with ⟨h1,a,h2,h3⟩ | ⟨N,L,h1,h2,h0,h3,h4,h6,h7⟩
 ·exact .inl ⟨h1,a,h5.trans h2,h3⟩
 ·exact .inr ⟨N,L,h1,h5.trans h2,h0,Nat.lt_of_lt_of_le h3 hn,(jl N h3).trans h4,h6,h7.keep h88 hn⟩
structure T2 (n0:Nat) (s0:aA) (dn:Bool) (l:List dC) (i:Nat) (s:aA):Prop where
 e1:(s.env 1).v=.ptr 1 n0 0
 m1:s.mem 1 n0=some [⟨.sl dn (l.map gD),.no⟩]
 e2:(s.env 2).v=.ptr 2 n0 0
 m2:∃ a,s.mem 2 n0=some [⟨.sl true [],a⟩]/\DN ⟨.sl true [],a⟩
 e4:(s.env 4).v=.int .i64 l.length
 e5:(s.env 5).v=.ptr 5 (n0 + 3) 0
 e6:(s.env 6).v=.int .i64 i
 m5:M5I n0 l i s
 calm:Calm n0 s0 s
 lowE:sB s.next s.env
 lt:n0 + 3<s.next
structure SM (n0:Nat) (s0:aA) (dn:Bool) (l:List dC) (i:Nat) (n8:Nat) (s:aA):Prop where
 ofI:T2 n0 s0 dn l i s
 e8:(s.env 8).v=.ptr 8 n8 0
 lt8:n8<s.next
 row:∃ m r,s.mem 8 n8=some r/\r.map (·.v)=WF (nB l (i:Int)) m/\MI (nB l (i:Int)).mems m s
theorem kind1_ev {r:RV} {n0:Nat} {s0:aA} {dn:Bool} {l:List dC} (hl:oks l) {i:Nat} (hi:i<l.length) {s:aA} {k:Ex->aA->Option RV} (h:T2 n0 s0 dn l i s) (fd:(HA l (i:Int)).kind=1) (hk:∀ n8 s',SM n0 s0 dn l i n8 s'->XD.run (wH jA rA) (HK jA rA) s' k=some r):MB.run (wH jA rA) (HK jA rA) s k=some r:=by
 obtain ⟨e1,m1,e2,m2,e4,e5,e6,m5,⟨cm,cg,co,cn,cl⟩,lowE,lt⟩:=h;have ub:=TH (dn:=dn) hl (z:=(i:Int)) (by omega) (by omega);have g:l[i]?=some l[i]:=y4 hi;have gm:(l.map gD)[i]?=some (gD (HA l (i:Int))):=by simp [HA,g]
 have tb:lC l (i:Int)=1:=by rw [<- fd]; simp [lC,HA,g]
 have rb:nB l (i:Int)=fA.of 1 ⟨#[]⟩:=by simp only [nB,fd]
 rw [tb] at ub;generalize HA l (i:Int)=x at *
 have jb:=zD 1;simp only [gA,mF,gD] at ub gm;obtain ⟨z,hz⟩:∃ z:Int,z=i:=⟨_,rfl⟩;have gc:0<=z:=by omega
 rw [<- hz] at e6 ub;rw [show i=z.toNat from by omega] at gm;simp [MB,-V,-y3,-y0,J,e1,m1,e4,e6,gc,gm,ub,jb];refine hk (s.next + 1) _ ⟨⟨?_,?_,?_,?_,?_,?_,?_,?_,⟨?_,?_,?_,?_,?_⟩,?_,?_⟩,?_,?_,?_⟩
 ·simp [e1]
 ·simp [m1]
 ·simp [e2]
 ·simpa using m2
 ·simp [e4]
 ·simp [e5]
 ·simp [e6,hz]
 ·exact m5.keep (by simp) (fun N _=>by simp) (fun N _=>by simp) (by dsimp only; omega)
 ·repeat (first | exact cm | refine QC.set ?_ (by omega))
 ·exact cg
 ·exact co
 ·dsimp only; omega
 ·exact ((((cl.mono (by dsimp only; omega)).set dA).set dA).set dA).set dA
 ·dsimp only
  repeat (first | exact lowE.mono (by omega) | refine sB.put ?_ (fun _ _ _=>rfl) | refine sB.put ?_ (uD (by omega)))
 ·dsimp only; omega
 ·simp
 ·dsimp only; omega
 ·refine ⟨.sl true [],_,by simp; rfl,?_,.inl ⟨?_,rfl⟩⟩
  ·rw [rb]; simp [WF,fA.of]
  ·rw [rb]; rfl
end
section
set_option maxHeartbeats 4000000
theorem l6 (x:dC) (hx:x.ok):u8 x.k/\u8 x.a/\u8 x.b/\u8 x.c/\True:=⟨hx.1,hx.2.1,hx.2.2.1,hx.2.2.2.1,trivial⟩
theorem PF {l:List dC} (hl:oks l) {i:Nat} (hi:i<l.length):(HA l (i:Int)).ok:=by
 have g:l[i]?=some l[i]:=y4 hi;simp only [HA,Int.toNat_natCast,g];exact hl.2.2 _ (y6 hi)
section
variable {r:RV} {n0:Nat} {s0:aA} {dn:Bool} {l:List dC} (hl:oks l) {i:Nat} (hi:i<l.length) {s:aA} {k:Ex->aA->Option RV} (h:T2 n0 s0 dn l i s)
include r n0 s0 dn l hl i hi s k h
theorem kind2_ev (fd:(HA l (i:Int)).kind=2) (hk:∀ n8 s',SM n0 s0 dn l i n8 s'->XD.run (wH jA rA) (HK jA rA) s' k=some r):MB.run (wH jA rA) (HK jA rA) s k=some r:=by
 obtain ⟨e1,m1,e2,m2,e4,e5,e6,m5,⟨cm,cg,co,cn,cl⟩,lowE,lt⟩:=h;have ub:=TH (dn:=dn) hl (z:=(i:Int)) (by omega) (by omega);have g:l[i]?=some l[i]:=y4 hi;have gm:(l.map gD)[i]?=some (gD (HA l (i:Int))):=by simp [HA,g]
 have tb:lC l (i:Int)=2:=by rw [<- fd]; simp [lC,HA,g]
 have rb:nB l (i:Int)={ fA.of 2 ⟨#[]⟩ with low:=(HA l (i:Int)).low,high:=(HA l (i:Int)).high }:=by simp only [nB,fd]
 have hx:=PF hl hi;rw [tb] at ub;generalize HA l (i:Int)=x at *
 have jb:=zD 2;obtain ⟨xk,xa,xb,xc,_⟩:=l6 x hx;have ff:=g7 x hx;have tl:=high_ev x hx;simp only [gA,gD] at ff tl;simp only [gA,mF,gD] at ub gm;obtain ⟨z,hz⟩:∃ z:Int,z=i:=⟨_,rfl⟩;have gc:0<=z:=by omega
 rw [<- hz] at e6 ub;rw [show i=z.toNat from by omega] at gm;simp [MB,-V,-y3,-y0,J,e1,m1,e4,e6,gc,gm,ub,jb,ff,tl];refine hk (s.next + 1) _ ⟨⟨?_,?_,?_,?_,?_,?_,?_,?_,⟨?_,?_,?_,?_,?_⟩,?_,?_⟩,?_,?_,?_⟩
 ·simp [e1]
 ·simp [m1]
 ·simp [e2]
 ·simpa using m2
 ·simp [e4]
 ·simp [e5]
 ·simp [e6,hz]
 ·exact m5.keep (by simp) (fun N _=>by simp) (fun N _=>by simp) (by dsimp only; omega)
 ·repeat (first | exact cm | refine QC.set ?_ (by omega))
 ·exact cg
 ·exact co
 ·dsimp only; omega
 ·exact ((((((cl.mono (by dsimp only; omega)).set dA).set dA).set dA).set dA).set dA).set dA
 ·dsimp only
  repeat (first | exact lowE.mono (by omega) | refine sB.put ?_ (fun _ _ _=>rfl) | refine sB.put ?_ (uD (by omega)))
 ·dsimp only; omega
 ·simp
 ·dsimp only; omega
 ·refine ⟨.sl true [],_,by simp; rfl,?_,.inl ⟨?_,rfl⟩⟩
  ·rw [rb]; simp [WF,fA.of]
  ·rw [rb]; rfl
theorem kind3_ev (fd:(HA l (i:Int)).kind=3) (hk:∀ n8 s',SM n0 s0 dn l i n8 s'->XD.run (wH jA rA) (HK jA rA) s' k=some r):MB.run (wH jA rA) (HK jA rA) s k=some r:=by
 obtain ⟨e1,m1,e2,m2,e4,e5,e6,m5,⟨cm,cg,co,cn,cl⟩,lowE,lt⟩:=h;have ub:=TH (dn:=dn) hl (z:=(i:Int)) (by omega) (by omega);have g:l[i]?=some l[i]:=y4 hi;have gm:(l.map gD)[i]?=some (gD (HA l (i:Int))):=by simp [HA,g]
 have tb:lC l (i:Int)=3:=by rw [<- fd]; simp [lC,HA,g]
 have rb:nB l (i:Int)={ fA.of 3 ⟨#[]⟩ with max:=(HA l (i:Int)).a % 4 }:=by simp only [nB,fd]
 have hx:=PF hl hi;rw [tb] at ub;generalize HA l (i:Int)=x at *
 have jb:=zD 3;obtain ⟨xk,xa,xb,xc,_⟩:=l6 x hx;have lw:x.a.tmod 4=x.a % 4:=yu xa.1;have wv:IntKind.i64.wrap (x.a % 4)=x.a % 4:=IntWalk.i64_in _ (by omega);simp only [gA,mF,gD] at ub gm;obtain ⟨z,hz⟩:∃ z:Int,z=i:=⟨_,rfl⟩;have gc:0<=z:=by omega
 rw [<- hz] at e6 ub;rw [show i=z.toNat from by omega] at gm;simp [MB,-V,-y3,-y0,J,e1,m1,e4,e6,gc,gm,ub,jb,lw,wv];refine hk (s.next + 1) _ ⟨⟨?_,?_,?_,?_,?_,?_,?_,?_,⟨?_,?_,?_,?_,?_⟩,?_,?_⟩,?_,?_,?_⟩
 ·simp [e1]
 ·simp [m1]
 ·simp [e2]
 ·simpa using m2
 ·simp [e4]
 ·simp [e5]
 ·simp [e6,hz]
 ·exact m5.keep (by simp) (fun N _=>by simp) (fun N _=>by simp) (by dsimp only; omega)
 ·repeat (first | exact cm | refine QC.set ?_ (by omega))
 ·exact cg
 ·exact co
 ·dsimp only; omega
 ·exact (((((cl.mono (by dsimp only; omega)).set dA).set dA).set dA).set dA).set dA
 ·dsimp only
  repeat (first | exact lowE.mono (by omega) | refine sB.put ?_ (fun _ _ _=>rfl) | refine sB.put ?_ (uD (by omega)))
 ·dsimp only; omega
 ·simp
 ·dsimp only; omega
 ·refine ⟨.sl true [],_,by simp; rfl,?_,.inl ⟨?_,rfl⟩⟩
  ·rw [rb]; simp [WF,fA.of]
  ·rw [rb]; rfl
theorem kind7_ev (fd:(HA l (i:Int)).kind=7) (hk:∀ n8 s',SM n0 s0 dn l i n8 s'->XD.run (wH jA rA) (HK jA rA) s' k=some r):MB.run (wH jA rA) (HK jA rA) s k=some r:=by
 obtain ⟨e1,m1,e2,m2,e4,e5,e6,m5,⟨cm,cg,co,cn,cl⟩,lowE,lt⟩:=h;have ub:=TH (dn:=dn) hl (z:=(i:Int)) (by omega) (by omega);have g:l[i]?=some l[i]:=y4 hi;have gm:(l.map gD)[i]?=some (gD (HA l (i:Int))):=by simp [HA,g]
 have tb:lC l (i:Int)=7:=by rw [<- fd]; simp [lC,HA,g]
 have rb:nB l (i:Int)={ fA.of 7 ⟨#[]⟩ with max:=(HA l (i:Int)).a % 4,elem:=(HA l (i:Int)).c % l.length }:=by simp only [nB,fd]
 have hx:=PF hl hi;rw [tb] at ub;generalize HA l (i:Int)=x at *
 have jb:=zD 7;obtain ⟨xk,xa,xb,xc,_⟩:=l6 x hx;have lw:x.a.tmod 4=x.a % 4:=yu xa.1;have wv:IntKind.i64.wrap (x.a % 4)=x.a % 4:=IntWalk.i64_in _ (by omega);have zk:IntKind.i64.wrap x.c=x.c:=IntWalk.i64_in _ (by simp only [u8] at xc; omega);have hmc:x.c.tmod l.length=x.c % l.length:=yu xc.1;have er:¬ (l.length:Int)=0:=by omega
 have ug:¬ l=[]:=by intro e; rw [e] at hi; simp at hi
 simp only [gA,mF,gD] at ub gm;obtain ⟨z,hz⟩:∃ z:Int,z=i:=⟨_,rfl⟩;have gc:0<=z:=by omega
 rw [<- hz] at e6 ub;rw [show i=z.toNat from by omega] at gm;simp [MB,-V,-y3,-y0,J,e1,m1,e4,e6,gc,gm,ub,jb,lw,wv,zk,hmc,er,ug];refine hk (s.next + 1) _ ⟨⟨?_,?_,?_,?_,?_,?_,?_,?_,⟨?_,?_,?_,?_,?_⟩,?_,?_⟩,?_,?_,?_⟩
 ·simp [e1]
 ·simp [m1]
 ·simp [e2]
 ·simpa using m2
 ·simp [e4]
 ·simp [e5]
 ·simp [e6,hz]
 ·exact m5.keep (by simp) (fun N _=>by simp) (fun N _=>by simp) (by dsimp only; omega)
 ·repeat (first | exact cm | refine QC.set ?_ (by omega))
 ·exact cg
 ·exact co
 ·dsimp only; omega
 ·exact ((((((cl.mono (by dsimp only; omega)).set dA).set dA).set dA).set dA).set dA).set dA
 ·dsimp only
  repeat (first | exact lowE.mono (by omega) | refine sB.put ?_ (fun _ _ _=>rfl) | refine sB.put ?_ (uD (by omega)))
 ·dsimp only; omega
 ·simp
 ·dsimp only; omega
 ·refine ⟨.sl true [],_,by simp; rfl,?_,.inl ⟨?_,rfl⟩⟩
  ·rw [rb]; simp [WF,fA.of]
  ·rw [rb]; rfl
theorem kind9_ev (fd:(HA l (i:Int)).kind=9) (hk:∀ n8 s',SM n0 s0 dn l i n8 s'->XD.run (wH jA rA) (HK jA rA) s' k=some r):MB.run (wH jA rA) (HK jA rA) s k=some r:=by
 obtain ⟨e1,m1,e2,m2,e4,e5,e6,m5,⟨cm,cg,co,cn,cl⟩,lowE,lt⟩:=h;have ub:=TH (dn:=dn) hl (z:=(i:Int)) (by omega) (by omega);have g:l[i]?=some l[i]:=y4 hi;have gm:(l.map gD)[i]?=some (gD (HA l (i:Int))):=by simp [HA,g]
 have tb:lC l (i:Int)=9:=by rw [<- fd]; simp [lC,HA,g]
 have rb:nB l (i:Int)={ fA.of 9 ⟨#[]⟩ with elem:=(HA l (i:Int)).c % l.length }:=by simp only [nB,fd]
 have hx:=PF hl hi;rw [tb] at ub;generalize HA l (i:Int)=x at *
 have jb:=zD 9;obtain ⟨xk,xa,xb,xc,_⟩:=l6 x hx;have zk:IntKind.i64.wrap x.c=x.c:=IntWalk.i64_in _ (by simp only [u8] at xc; omega);have hmc:x.c.tmod l.length=x.c % l.length:=yu xc.1;have er:¬ (l.length:Int)=0:=by omega
 have ug:¬ l=[]:=by intro e; rw [e] at hi; simp at hi
 simp only [gA,mF,gD] at ub gm;obtain ⟨z,hz⟩:∃ z:Int,z=i:=⟨_,rfl⟩;have gc:0<=z:=by omega
 rw [<- hz] at e6 ub;rw [show i=z.toNat from by omega] at gm;simp [MB,-V,-y3,-y0,J,e1,m1,e4,e6,gc,gm,ub,jb,zk,hmc,er,ug];refine hk (s.next + 1) _ ⟨⟨?_,?_,?_,?_,?_,?_,?_,?_,⟨?_,?_,?_,?_,?_⟩,?_,?_⟩,?_,?_,?_⟩
 ·simp [e1]
 ·simp [m1]
 ·simp [e2]
 ·simpa using m2
 ·simp [e4]
 ·simp [e5]
 ·simp [e6,hz]
 ·exact m5.keep (by simp) (fun N _=>by simp) (fun N _=>by simp) (by dsimp only; omega)
 ·repeat (first | exact cm | refine QC.set ?_ (by omega))
 ·exact cg
 ·exact co
 ·dsimp only; omega
 ·exact (((((cl.mono (by dsimp only; omega)).set dA).set dA).set dA).set dA).set dA
 ·dsimp only
  repeat (first | exact lowE.mono (by omega) | refine sB.put ?_ (fun _ _ _=>rfl) | refine sB.put ?_ (uD (by omega)))
 ·dsimp only; omega
 ·simp
 ·dsimp only; omega
 ·refine ⟨.sl true [],_,by simp; rfl,?_,.inl ⟨?_,rfl⟩⟩
  ·rw [rb]; simp [WF,fA.of]
  ·rw [rb]; rfl
theorem kind8n_ev (fd:(HA l (i:Int)).kind=8) (hc:jK l (HA l (i:Int)).b<0) (hk:∀ n8 s',SM n0 s0 dn l i n8 s'->XD.run (wH jA rA) (HK jA rA) s' k=some r):MB.run (wH jA rA) (HK jA rA) s k=some r:=by
 obtain ⟨e1,m1,e2,m2,e4,e5,e6,m5,⟨cm,cg,co,cn,cl⟩,lowE,lt⟩:=h;have ub:=TH (dn:=dn) hl (z:=(i:Int)) (by omega) (by omega);have g:l[i]?=some l[i]:=y4 hi;have gm:(l.map gD)[i]?=some (gD (HA l (i:Int))):=by simp [HA,g]
 have tb:lC l (i:Int)=8:=by rw [<- fd]; simp [lC,HA,g]
 have rb:nB l (i:Int)={ fA.of 7 ⟨#[]⟩ with max:=(HA l (i:Int)).a % 4,elem:=(HA l (i:Int)).c % l.length }:=by simp only [nB,fd]; rw [if_pos hc]
 have hx:=PF hl hi;rw [tb] at ub;generalize HA l (i:Int)=x at *
 have jb:=zD 8;obtain ⟨xk,xa,xb,xc,_⟩:=l6 x hx;have lw:x.a.tmod 4=x.a % 4:=yu xa.1;have wv:IntKind.i64.wrap (x.a % 4)=x.a % 4:=IntWalk.i64_in _ (by omega);have zk:IntKind.i64.wrap x.c=x.c:=IntWalk.i64_in _ (by simp only [u8] at xc; omega);have hmc:x.c.tmod l.length=x.c % l.length:=yu xc.1;have er:¬ (l.length:Int)=0:=by omega
 have ug:¬ l=[]:=by intro e; rw [e] at hi; simp at hi
 have bc:=r7 dn l hl x.b xb;simp only [gA,mF] at bc;simp only [gA,mF,gD] at ub gm;obtain ⟨z,hz⟩:∃ z:Int,z=i:=⟨_,rfl⟩;have gc:0<=z:=by omega
 rw [<- hz] at e6 ub;rw [show i=z.toNat from by omega] at gm;simp [MB,-V,-y3,-y0,J,e1,m1,e4,e6,gc,gm,ub,jb,lw,wv,zk,hmc,er,ug,bc,hc];refine hk (s.next + 1) _ ⟨⟨?_,?_,?_,?_,?_,?_,?_,?_,⟨?_,?_,?_,?_,?_⟩,?_,?_⟩,?_,?_,?_⟩
 ·simp [e1]
 ·simp [m1]
 ·simp [e2]
 ·simpa using m2
 ·simp [e4]
 ·simp [e5]
 ·simp [e6,hz]
 ·exact m5.keep (by simp) (fun N _=>by simp) (fun N _=>by simp) (by dsimp only; omega)
 ·repeat (first | exact cm | refine QC.set ?_ (by omega))
 ·exact cg
 ·exact co
 ·dsimp only; omega
 ·exact ((((((((cl.mono (by dsimp only; omega)).set dA).set dA).set dA).set dA).set dA).set dA).set dA).set dA
 ·dsimp only
  repeat (first | exact lowE.mono (by omega) | refine sB.put ?_ (fun _ _ _=>rfl) | refine sB.put ?_ (uD (by omega)))
 ·dsimp only; omega
 ·simp
 ·dsimp only; omega
 ·refine ⟨.sl true [],_,by simp; rfl,?_,.inl ⟨?_,rfl⟩⟩
  ·rw [rb]; simp [WF,fA.of]
  ·rw [rb]; rfl
theorem kind8p_ev (fd:(HA l (i:Int)).kind=8) (hc:¬ jK l (HA l (i:Int)).b<0) (hk:∀ n8 s',SM n0 s0 dn l i n8 s'->XD.run (wH jA rA) (HK jA rA) s' k=some r):MB.run (wH jA rA) (HK jA rA) s k=some r:=by
 obtain ⟨e1,m1,e2,m2,e4,e5,e6,m5,⟨cm,cg,co,cn,cl⟩,lowE,lt⟩:=h;have ub:=TH (dn:=dn) hl (z:=(i:Int)) (by omega) (by omega);have g:l[i]?=some l[i]:=y4 hi;have gm:(l.map gD)[i]?=some (gD (HA l (i:Int))):=by simp [HA,g]
 have tb:lC l (i:Int)=8:=by rw [<- fd]; simp [lC,HA,g]
 have rb:nB l (i:Int)={ fA.of 8 ⟨#[]⟩ with max:=(HA l (i:Int)).a % 4,key:=jK l (HA l (i:Int)).b,elem:=(HA l (i:Int)).c % l.length }:=by simp only [nB,fd]; rw [if_neg hc]
 have hx:=PF hl hi;rw [tb] at ub;generalize HA l (i:Int)=x at *
 have jb:=zD 8;obtain ⟨xk,xa,xb,xc,_⟩:=l6 x hx;have lw:x.a.tmod 4=x.a % 4:=yu xa.1;have wv:IntKind.i64.wrap (x.a % 4)=x.a % 4:=IntWalk.i64_in _ (by omega);have zk:IntKind.i64.wrap x.c=x.c:=IntWalk.i64_in _ (by simp only [u8] at xc; omega);have hmc:x.c.tmod l.length=x.c % l.length:=yu xc.1;have er:¬ (l.length:Int)=0:=by omega
 have ug:¬ l=[]:=by intro e; rw [e] at hi; simp at hi
 have bc:=r7 dn l hl x.b xb;simp only [gA,mF] at bc;simp only [gA,mF,gD] at ub gm;obtain ⟨z,hz⟩:∃ z:Int,z=i:=⟨_,rfl⟩;have gc:0<=z:=by omega
 rw [<- hz] at e6 ub;rw [show i=z.toNat from by omega] at gm;simp [MB,-V,-y3,-y0,J,e1,m1,e4,e6,gc,gm,ub,jb,lw,wv,zk,hmc,er,ug,bc,hc];refine hk (s.next + 1) _ ⟨⟨?_,?_,?_,?_,?_,?_,?_,?_,⟨?_,?_,?_,?_,?_⟩,?_,?_⟩,?_,?_,?_⟩
 ·simp [e1]
 ·simp [m1]
 ·simp [e2]
 ·simpa using m2
 ·simp [e4]
 ·simp [e5]
 ·simp [e6,hz]
 ·exact m5.keep (by simp) (fun N _=>by simp) (fun N _=>by simp) (by dsimp only; omega)
 ·repeat (first | exact cm | refine QC.set ?_ (by omega))
 ·exact cg
 ·exact co
 ·dsimp only; omega
 ·exact (((((((cl.mono (by dsimp only; omega)).set dA).set dA).set dA).set dA).set dA).set dA).set dA
 ·dsimp only
  repeat (first | exact lowE.mono (by omega) | refine sB.put ?_ (fun _ _ _=>rfl) | refine sB.put ?_ (uD (by omega)))
 ·dsimp only; omega
 ·simp
 ·dsimp only; omega
 ·refine ⟨.sl true [],_,by simp; rfl,?_,.inl ⟨?_,rfl⟩⟩
  ·rw [rb]; simp [WF,fA.of]
  ·rw [rb]; rfl
end
end
section
set_option maxHeartbeats 4000000
theorem aX (l:List (List AV)):∀ x∈sA l,DN x:=fun x hx=>by
 obtain ⟨v,_,rfl⟩:=yy.1 hx;exact fS v
theorem MI.stay {ms:List BB} {c:AV} {s s':aA} (h:MI ms c s) (hm:∀ n r,s.mem 88 n=some r->(∀ x∈r,DN x)->s'.mem 88 n=some r) (hn:s.next<=s'.next):MI ms c s':=by
 rcases h with h | ⟨N,h1,h2,h3,h4⟩
 ·exact .inl h
 ·exact .inr ⟨N,h1,Nat.lt_of_lt_of_le h2 hn,h3,hm N _ h4 (aX _)⟩
theorem qJ.stay {S:List fA} {L:List (List AV)} {s s':aA} (h:qJ S L s) (hm:∀ n r,s.mem 88 n=some r->(∀ x∈r,DN x)->s'.mem 88 n=some r) (hn:s.next<=s'.next):qJ S L s' :=
 ⟨h.1,fun i t c ht hc=>by obtain ⟨m,h1,h2⟩:=h.2 i t c ht hc; exact ⟨m,h1,h2.stay hm hn⟩⟩
theorem M5I.stay {n0:Nat} {l:List dC} {i:Nat} {s s':aA} (h:M5I n0 l i s) (hm:∀ t n r,(t=5\/t=88\/t=168)->s.mem t n=some r->(∀ x∈r,DN x)->s'.mem t n=some r) (hn:s.next<=s'.next):M5I n0 l i s':=by
 rcases h with ⟨h1,a,h2,h3⟩ | ⟨N,L,h1,h2,h0,h3,h4,h6,h7⟩
 ·exact .inl ⟨h1,a,hm 5 _ _ (.inl rfl) h2 (by simpa using h3),h3⟩
 ·exact .inr ⟨N,L,h1,hm 5 _ _ (.inl rfl) h2 (by simpa using fS _),h0,Nat.lt_of_lt_of_le h3 hn,hm 168 _ _ (.inr (.inr rfl)) h4 (aX _),h6,h7.stay (fun n r=>hm 88 n r (.inr (.inl rfl))) hn⟩
theorem kind4_ev {r:RV} {n0:Nat} {s0:aA} {dn:Bool} {l:List dC} (hl:oks l) (hG:sV s0.gh) (hP:M7 n0 s0.mem) {i:Nat} (hi:i<l.length) {s:aA} {k:Ex->aA->Option RV} (h:T2 n0 s0 dn l i s) (fd:(HA l (i:Int)).kind=4) (hk:∀ n8 s',SM n0 s0 dn l i n8 s'->XD.run (wH jA rA) (HK jA rA) s' k=some r):MB.run (wH jA rA) (HK jA rA) s k=some r:=by
 obtain ⟨e1,m1,e2,m2,e4,e5,e6,m5,⟨cm,cg,co,cn,cl⟩,lowE,lt⟩:=h;have ub:=TH (dn:=dn) hl (z:=(i:Int)) (by omega) (by omega);have g:l[i]?=some l[i]:=y4 hi;have gm:(l.map gD)[i]?=some (gD (HA l (i:Int))):=by simp [HA,g]
 have tb:lC l (i:Int)=4:=by rw [<- fd]; simp [lC,HA,g]
 have rb:nB l (i:Int)={ fA.of 4 (XJ i) with opn:=decide ((HA l (i:Int)).b % 2=1),sn:=false,syms:=iI (HA l (i:Int)).a }:=by simp only [nB,fd]
 have hx:=PF hl hi;have hN5:=hl.2.1;rw [tb] at ub;generalize HA l (i:Int)=x at *
 have jb:=zD 4;have fh:=ids7_ev x hx;obtain ⟨xk,xa,xb,xc,_⟩:=l6 x hx;have oz:x.b.tmod 2=x.b % 2:=yu xb.1;simp only [gA,mF,gD] at ub gm fh;obtain ⟨z,hz⟩:∃ z:Int,z=i:=⟨_,rfl⟩;have gc:0<=z:=by omega
 have xu:IntKind.i64.wrap (65 + z)=65 + z:=IntWalk.i64_in _ (by omega);have rm:IntKind.i32.wrap (65 + z)=65 + z:=ZV _ (by omega);rw [<- hz] at e6 ub;rw [show i=z.toNat from by omega] at gm;simp [MB,-V,-y3,-y0,J,e1,m1,e4,e6,gc,gm,ub,jb,fh,oz,xu,rm];refine esyms_ev (a:=x.a) (n8:=s.next + 1) (nm:=Utf8.encode (65 + z)) (op:=decide (x.b % 2=1)) _ _ ?_ ?_ ?_ ?_ ?_ ?_ ?_ ?_ (fun s' h1 h2 h3 h4 h5 h6 h7 h8=>?_)
 ·simp
 ·simp
 ·simp
 ·dsimp only; omega
 ·simp [EJ]
 ·show sV s.gh;rw [cg]; exact hG
 ·exact ((((((cl.mono (by dsimp only; omega)).set dA).set dA).set dA).set dA).set dA).set dA
 ·dsimp only
  repeat (first | exact lowE.mono (by omega) | refine sB.put ?_ (fun _ _ _=>rfl) | refine sB.put ?_ (uD (by omega)))
 ·obtain ⟨an,h8⟩:=h8;simp [-V,-y3,-y0,J];have db:∀ t n r,¬ t=8->¬ t=7->s.mem t n=some r->(∀ x∈r,DN x)->s'.mem t n=some r:=fun t n r t8 t7 hr hp=>by
   refine (h2 t n (by omega) fun r' lf=>?_).trans ?_
   ·simp [t7,t8,hr] at lf;subst lf;exact hp
   ·simp [t7,t8,hr]
  refine hk (s.next + 1) s' ⟨⟨(h1 1 (by omega)).trans (by simp [e1]),db 1 n0 _ (by omega) (by omega) m1 (by simpa using fS _),(h1 2 (by omega)).trans (by simp [e2]),?_,(h1 4 (by omega)).trans (by simp [e4]),(h1 5 (by omega)).trans (by simp [e5]),(h1 6 (by omega)).trans (by simp [e6,hz]),?_,⟨?_,?_,?_,?_,h6⟩,h7,?_⟩,(h1 8 (by omega)).trans (by simp),?_,?_⟩
  ·obtain ⟨a,m2,p2⟩:=m2;exact ⟨a,db 2 n0 _ (by omega) (by omega) m2 (by simpa using p2),p2⟩
  ·exact m5.stay (fun t n r ht=>db t n r (by omega) (by omega)) (by dsimp only at h5; omega)
  ·intro t n hn;refine (h2 t n (by omega) fun r' lf=>?_).trans ?_
   ·simp [show ¬ n=s.next from by omega,show ¬ n=s.next + 1 from by omega,cm t n hn] at lf;exact hP t n r' hn lf
   ·simp [show ¬ n=s.next from by omega,show ¬ n=s.next + 1 from by omega,cm t n hn]
  ·rw [h3]; exact cg
  ·rw [h4]; exact co
  ·dsimp only at h5; omega
  ·dsimp only at h5; omega
  ·dsimp only at h5; omega
  ·refine ⟨.sl true [],_,h8,?_,.inl ⟨?_,rfl⟩⟩
   ·rw [rb,hz]; simp [WF,fA.of,EJ,XJ]
   ·rw [rb]; rfl
end
section
set_option maxHeartbeats 4000000
theorem sB.wait {m nt:Nat} {e g:Nat->qA} (h:sB m e) (h':sB m g):sB m (xZ nt e g):=fun t=>by
 rw [qF];split
 ·exact h t
 ·exact h' _
theorem sB.back {m nt:Nat} {g:Nat->qA} (h:sB m g):sB m (backE nt g):=fun t=>by
 rw [lN];split
 ·exact h t
 ·exact fun _ _ _=>rfl
theorem eZ (nt:Nat) (e g:Nat->qA):jU nt (xZ nt e g)=g:=funext fun t=>by
 rw [Q5,qF,if_neg (by omega)];congr 1;omega
theorem QC.trans {m m':Nat} {A B C:Nat->Nat->Option (List qA)} (h:QC m A B) (h':QC m' B C) (hm:m<=m'):QC m A C:=fun t n hn=>(h' t n (by omega)).trans (h t n hn)
theorem MI.lowV {ms:List BB} {c:AV} {s:aA} (h:MI ms c s):lowV s.next c:=lowV_of h.low (by
 rcases h with ⟨_,rfl⟩ | ⟨N,_,_,rfl,_⟩ <;> rfl)
section
variable {r:RV} {n0:Nat} {s0:aA} {dn:Bool} {l:List dC} (hl:oks l) (hG:sB n0 s0.gh) {i:Nat} (hi:i<l.length) {s:aA} {k:Ex->aA->Option RV} (h:T2 n0 s0 dn l i s)
include r n0 s0 dn l hl hG i hi s k h
theorem kind5_ev (fd:(HA l (i:Int)).kind=5) (hk:∀ n8 s',SM n0 s0 dn l i n8 s'->XD.run (wH jA rA) (HK jA rA) s' k=some r):MB.run (wH jA rA) (HK jA rA) s k=some r:=by
 obtain ⟨e1,m1,e2,m2,e4,e5,e6,m5,⟨cm,cg,co,cn,cl⟩,lowE,lt⟩:=h;have ub:=TH (dn:=dn) hl (z:=(i:Int)) (by omega) (by omega);have g:l[i]?=some l[i]:=y4 hi;have gm:(l.map gD)[i]?=some (gD (HA l (i:Int))):=by simp [HA,g]
 have gx:l[((i:Int)).toNat]?=some (HA l (i:Int)):=by simp [HA,g]
 have tb:lC l (i:Int)=5:=by rw [<- fd]; simp [lC,HA,g]
 have rb:nB l (i:Int)={ fA.of 5 (XJ (i:Int)) with mn:=(BE l (i:Int) true (HA l (i:Int)).parts).isEmpty,mems:=(BE l (i:Int) true (HA l (i:Int)).parts) }:=by simp only [nB,fd]
 have hx:=PF hl hi;have hN5:=hl.2.1;rw [tb] at ub;generalize HA l (i:Int)=x at *
 have jb:=zD 5;obtain ⟨xk,xa,xb,xc,_⟩:=l6 x hx;have oz:x.b.tmod 2=x.b % 2:=yu xb.1;simp only [gA,mF,gD] at ub gm;obtain ⟨z,hz⟩:∃ z:Int,z=i:=⟨_,rfl⟩;have gc:0<=z:=by omega
 have jp:z<l.length:=by omega
 have xu:IntKind.i64.wrap (65 + z)=65 + z:=IntWalk.i64_in _ (by omega);have rm:IntKind.i32.wrap (65 + z)=65 + z:=ZV _ (by omega);rw [<- hz] at e6 ub gx rb;rw [show i=z.toNat from by omega] at gm;simp [MB,-V,-y3,-y0,J,e1,m1,e4,e6,gc,gm,ub,jb,xu,rm,oz];refine i5 hl gc jp gx _ ?_ ?_ _ (fun y s' hc hli=>?_)
 ·exact (((((cl.mono (by dsimp only; omega)).set dA).set dA).set dA).set dA).set dA
 ·dsimp only;refine sB.wait ?_ (by rw [cg]; exact hG.mono (by omega))
  repeat (first | exact lowE.mono (by omega) | refine sB.put ?_ (fun _ _ _=>rfl) | refine sB.put ?_ (uD (by omega)))
 ·obtain ⟨al,pj,co2,cn2,cl2⟩:=hc;dsimp only at pj co2 cn2 al;have ar:=hli.mems;have zq:=ar.lowV;have g1:(s'.gh 1).v=.ptr 1 n0 0:=by rw [pj]; simp [qF,e1]
  have g2:(s'.gh 2).v=.ptr 2 n0 0:=by rw [pj]; simp [qF,e2]
  have g4:(s'.gh 4).v=.int .i64 l.length:=by rw [pj]; simp [qF,e4]
  have g5:(s'.gh 5).v=.ptr 5 (n0 + 3) 0:=by rw [pj]; simp [qF,e5]
  have g6:(s'.gh 6).v=.int .i64 z:=by rw [pj]; simp [qF,e6]
  have g8:(s'.gh 8).v=.ptr 8 (s.next + 1) 0:=by rw [pj]; simp [qF]
  have m8:s'.mem 8 (s.next + 1)=some [⟨.int .i64 5,.no⟩,⟨.str (Utf8.encode (65 + z)),.no⟩,⟨.int .i64 0,.no⟩,⟨.int .i64 0,.no⟩,⟨.int .i64 0,.no⟩,⟨.sl true [],.no⟩,⟨.sl true [],.no⟩,⟨.int .i64 0,.no⟩,⟨.int .i64 0,.no⟩,⟨.bool false,.no⟩]:=by rw [al 8 (s.next + 1) (by omega)]; simp
  have wz:sB s'.next s'.gh:=by
   rw [pj];refine sB.wait ?_ (by rw [cg]; exact hG.mono (by omega))
   repeat (first | exact lowE.mono (by omega) | refine sB.put ?_ (fun _ _ _=>rfl) | refine sB.put ?_ (uD (by omega)))
  have KN:∀ (E:Nat->qA) (M:Nat->Nat->Option (List qA)) (row:List qA) (nx:Nat),(∀ t,t<9->(E t).v=(s'.gh t).v)->sB s'.next E->s'.next<nx->(∀ t n,M t n=if t=8/\n=s.next + 1 then some row else s'.mem t n)->(∀ q∈row,lowV s'.next q.v)->(∃ m,row.map (·.v)=WF (nB l z) m/\MI (nB l z).mems m s')->SM n0 s0 dn l i (s.next + 1) ⟨E,M,nx,s'.obj,jU 171 s'.gh⟩:=fun E M row nx hE hEl rd hM hrl hr=>by
   refine ⟨⟨?_,?_,?_,?_,?_,?_,?_,?_,⟨?_,?_,?_,?_,?_⟩,?_,?_⟩,?_,?_,?_⟩
   ·exact (hE 1 (by omega)).trans g1
   ·simp [hM,al 1 n0 (by omega),m1]
   ·exact (hE 2 (by omega)).trans g2
   ·simpa [hM,al 2 n0 (by omega)] using m2
   ·exact (hE 4 (by omega)).trans g4
   ·exact (hE 5 (by omega)).trans g5
   ·exact (hE 6 (by omega)).trans (by rw [g6,hz])
   ·refine m5.keep (by simp [hM,al 5 (n0 + 3) (by omega)]) (fun N hN=>by simp [hM,al 168 N (by omega)]) (fun N hN=>by simp [hM,al 88 N (by omega)]) (by dsimp only; omega)
   ·intro t n hn;show M t n=_;rw [hM,if_neg (by omega),al t n (by omega)];simp [show ¬ n=s.next from by omega,show ¬ n=s.next + 1 from by omega,cm t n hn]
   ·show jU 171 s'.gh=s0.gh;rw [pj,eZ];exact cg
   ·exact co2.trans co
   ·dsimp only; omega
   ·intro t n r' lf q hq;have lf:M t n=some r':=lf;rw [hM] at lf;split at lf
    ·injection lf with lf; subst lf;exact KI (by dsimp only; omega) (hrl q hq)
    ·exact KI (by dsimp only; omega) (cl2 t n r' lf q hq)
   ·exact hEl.mono (by dsimp only; omega)
   ·dsimp only; omega
   ·exact (hE 8 (by omega)).trans g8
   ·dsimp only; omega
   ·obtain ⟨m,mf,sh⟩:=hr;rw [<- hz];refine ⟨m,row,by show M 8 _=_; rw [hM,if_pos ⟨rfl,rfl⟩],mf,sh.keep (fun N hN=>?_) (by dsimp only; omega)⟩;show M 88 N=_;rw [hM,if_neg (by omega)]
  rcases ar with ⟨_,e⟩ | ⟨N,_,_,e,_⟩
  ·simp [-V,-y3,-y0,J,g8,m8,e];refine hk _ _ (KN _ _ _ _ (fun t ht=>?_) ?_ (by omega) (fun t n=>by simp [rB]; rfl) (fun q hq=>?_) ?_)
   ·have q:∀ c,9<=c->¬ t=c:=fun c hc=>by omega
    simp [q,lN,show t<171 from by omega]
   ·repeat (first | exact wz.back | refine sB.put ?_ (fun _ _ _=>rfl) | refine sB.put ?_ (uD (by omega)) | refine sB.put ?_ zq | refine sB.put ?_ (by rw [<- e]; exact zq))
   ·simp only [yf,yJ,or_false] at hq;rcases hq with rfl | rfl | rfl | rfl | rfl | rfl | rfl | rfl | rfl | rfl <;> first | exact QN rfl | (rw [<- e]; exact zq)
   ·exact ⟨y.v,by rw [rb,e]; simp [WF,fA.of,XJ],by rw [rb]; exact hli.mems⟩
  ·simp [-V,-y3,-y0,J,g8,m8,e];refine hk _ _ (KN _ _ _ _ (fun t ht=>?_) ?_ (by omega) (fun t n=>by simp [rB]; rfl) (fun q hq=>?_) ?_)
   ·have q:∀ c,9<=c->¬ t=c:=fun c hc=>by omega
    simp [q,lN,show t<171 from by omega]
   ·repeat (first | exact wz.back | refine sB.put ?_ (fun _ _ _=>rfl) | refine sB.put ?_ (uD (by omega)) | refine sB.put ?_ zq | refine sB.put ?_ (by rw [<- e]; exact zq))
   ·simp only [yf,yJ,or_false] at hq;rcases hq with rfl | rfl | rfl | rfl | rfl | rfl | rfl | rfl | rfl | rfl <;> first | exact QN rfl | (rw [<- e]; exact zq)
   ·exact ⟨y.v,by rw [rb,e]; simp [WF,fA.of,XJ],by rw [rb]; exact hli.mems⟩
theorem kind6_ev (fd:(HA l (i:Int)).kind=6) (hk:∀ n8 s',SM n0 s0 dn l i n8 s'->XD.run (wH jA rA) (HK jA rA) s' k=some r):MB.run (wH jA rA) (HK jA rA) s k=some r:=by
 obtain ⟨e1,m1,e2,m2,e4,e5,e6,m5,⟨cm,cg,co,cn,cl⟩,lowE,lt⟩:=h;have ub:=TH (dn:=dn) hl (z:=(i:Int)) (by omega) (by omega);have g:l[i]?=some l[i]:=y4 hi;have gm:(l.map gD)[i]?=some (gD (HA l (i:Int))):=by simp [HA,g]
 have gx:l[((i:Int)).toNat]?=some (HA l (i:Int)):=by simp [HA,g]
 have tb:lC l (i:Int)=6:=by rw [<- fd]; simp [lC,HA,g]
 have rb:nB l (i:Int)=if (BE l (i:Int) false (HA l (i:Int)).parts).isEmpty=true then .of 5 (XJ (i:Int)) else { fA.of 6 (XJ (i:Int)) with opn:=decide ((HA l (i:Int)).b % 2=1),mn:=false,mems:=(BE l (i:Int) false (HA l (i:Int)).parts) }:=by simp only [nB,fd]
 have hx:=PF hl hi;have hN5:=hl.2.1;rw [tb] at ub;generalize HA l (i:Int)=x at *
 have jb:=zD 6;obtain ⟨xk,xa,xb,xc,_⟩:=l6 x hx;have oz:x.b.tmod 2=x.b % 2:=yu xb.1;simp only [gA,mF,gD] at ub gm;obtain ⟨z,hz⟩:∃ z:Int,z=i:=⟨_,rfl⟩;have gc:0<=z:=by omega
 have jp:z<l.length:=by omega
 have xu:IntKind.i64.wrap (65 + z)=65 + z:=IntWalk.i64_in _ (by omega);have rm:IntKind.i32.wrap (65 + z)=65 + z:=ZV _ (by omega);rw [<- hz] at e6 ub gx rb;rw [show i=z.toNat from by omega] at gm;simp [MB,-V,-y3,-y0,J,e1,m1,e4,e6,gc,gm,ub,jb,xu,rm,oz];refine i5 hl gc jp gx _ ?_ ?_ _ (fun y s' hc hli=>?_)
 ·exact ((((((cl.mono (by dsimp only; omega)).set dA).set dA).set dA).set dA).set dA).set dA
 ·dsimp only;refine sB.wait ?_ (by rw [cg]; exact hG.mono (by omega))
  repeat (first | exact lowE.mono (by omega) | refine sB.put ?_ (fun _ _ _=>rfl) | refine sB.put ?_ (uD (by omega)))
 ·obtain ⟨al,pj,co2,cn2,cl2⟩:=hc;dsimp only at pj co2 cn2 al;have ar:=hli.mems;have zq:=ar.lowV;have g1:(s'.gh 1).v=.ptr 1 n0 0:=by rw [pj]; simp [qF,e1]
  have g2:(s'.gh 2).v=.ptr 2 n0 0:=by rw [pj]; simp [qF,e2]
  have g4:(s'.gh 4).v=.int .i64 l.length:=by rw [pj]; simp [qF,e4]
  have g5:(s'.gh 5).v=.ptr 5 (n0 + 3) 0:=by rw [pj]; simp [qF,e5]
  have g6:(s'.gh 6).v=.int .i64 z:=by rw [pj]; simp [qF,e6]
  have g8:(s'.gh 8).v=.ptr 8 (s.next + 1) 0:=by rw [pj]; simp [qF]
  have m8:s'.mem 8 (s.next + 1)=some [⟨.int .i64 6,.no⟩,⟨.str (Utf8.encode (65 + z)),.no⟩,⟨.int .i64 0,.no⟩,⟨.int .i64 0,.no⟩,⟨.int .i64 0,.no⟩,⟨.sl true [],.no⟩,⟨.sl true [],.no⟩,⟨.int .i64 0,.no⟩,⟨.int .i64 0,.no⟩,⟨.bool (decide (x.b % 2=1)),.no⟩]:=by rw [al 8 (s.next + 1) (by omega)]; simp
  have wz:sB s'.next s'.gh:=by
   rw [pj];refine sB.wait ?_ (by rw [cg]; exact hG.mono (by omega))
   repeat (first | exact lowE.mono (by omega) | refine sB.put ?_ (fun _ _ _=>rfl) | refine sB.put ?_ (uD (by omega)))
  have KN:∀ (E:Nat->qA) (M:Nat->Nat->Option (List qA)) (row:List qA) (nx:Nat),(∀ t,t<9->(E t).v=(s'.gh t).v)->sB s'.next E->s'.next<nx->(∀ t n,M t n=if t=8/\n=s.next + 1 then some row else s'.mem t n)->(∀ q∈row,lowV s'.next q.v)->(∃ m,row.map (·.v)=WF (nB l z) m/\MI (nB l z).mems m s')->SM n0 s0 dn l i (s.next + 1) ⟨E,M,nx,s'.obj,jU 171 s'.gh⟩:=fun E M row nx hE hEl rd hM hrl hr=>by
   refine ⟨⟨?_,?_,?_,?_,?_,?_,?_,?_,⟨?_,?_,?_,?_,?_⟩,?_,?_⟩,?_,?_,?_⟩
   ·exact (hE 1 (by omega)).trans g1
   ·simp [hM,al 1 n0 (by omega),m1]
   ·exact (hE 2 (by omega)).trans g2
   ·simpa [hM,al 2 n0 (by omega)] using m2
   ·exact (hE 4 (by omega)).trans g4
   ·exact (hE 5 (by omega)).trans g5
   ·exact (hE 6 (by omega)).trans (by rw [g6,hz])
   ·refine m5.keep (by simp [hM,al 5 (n0 + 3) (by omega)]) (fun N hN=>by simp [hM,al 168 N (by omega)]) (fun N hN=>by simp [hM,al 88 N (by omega)]) (by dsimp only; omega)
   ·intro t n hn;show M t n=_;rw [hM,if_neg (by omega),al t n (by omega)];simp [show ¬ n=s.next from by omega,show ¬ n=s.next + 1 from by omega,cm t n hn]
   ·show jU 171 s'.gh=s0.gh;rw [pj,eZ];exact cg
   ·exact co2.trans co
   ·dsimp only; omega
   ·intro t n r' lf q hq;have lf:M t n=some r':=lf;rw [hM] at lf;split at lf
    ·injection lf with lf; subst lf;exact KI (by dsimp only; omega) (hrl q hq)
    ·exact KI (by dsimp only; omega) (cl2 t n r' lf q hq)
   ·exact hEl.mono (by dsimp only; omega)
   ·dsimp only; omega
   ·exact (hE 8 (by omega)).trans g8
   ·dsimp only; omega
   ·obtain ⟨m,mf,sh⟩:=hr;rw [<- hz];refine ⟨m,row,by show M 8 _=_; rw [hM,if_pos ⟨rfl,rfl⟩],mf,sh.keep (fun N hN=>?_) (by dsimp only; omega)⟩;show M 88 N=_;rw [hM,if_neg (by omega)]
  rcases ar with ⟨h0,e⟩ | ⟨N,h0,_,e,_⟩
  ·simp [-V,-y3,-y0,J,g8,m8,e];refine hk _ _ (KN _ _ _ _ (fun t ht=>?_) ?_ (by omega) (fun t n=>by simp [rB]; split <;> rfl) (fun q hq=>?_) ?_)
   ·have q:∀ c,9<=c->¬ t=c:=fun c hc=>by omega
    simp [q,lN,show t<171 from by omega]
   ·repeat (first | exact wz.back | refine sB.put ?_ (fun _ _ _=>rfl) | refine sB.put ?_ (uD (by omega)) | refine sB.put ?_ zq | refine sB.put ?_ (by rw [<- e]; exact zq))
   ·simp only [yf,yJ,or_false] at hq;rcases hq with rfl | rfl | rfl | rfl | rfl | rfl | rfl | rfl | rfl | rfl <;> first | exact QN rfl | (rw [<- e]; exact zq)
   ·refine ⟨.sl true [],?_,.inl ⟨?_,rfl⟩⟩
    ·rw [rb,if_pos (by simp [h0])]; simp [WF,fA.of,XJ]
    ·rw [rb,if_pos (by simp [h0])]; rfl
  ·have ug:¬ ((BE l z false x.parts).length:Int)=0:=by
    have:=List.length_pos_iff.2 h0;omega
   simp [-V,-y3,-y0,J,g8,m8,e,ug,h0];refine hk _ _ (KN _ _ _ _ (fun t ht=>?_) ?_ (by omega) (fun t n=>by simp [rB]; rfl) (fun q hq=>?_) ?_)
   ·have q:∀ c,9<=c->¬ t=c:=fun c hc=>by omega
    simp [q,lN,show t<171 from by omega]
   ·repeat (first | exact wz.back | refine sB.put ?_ (fun _ _ _=>rfl) | refine sB.put ?_ (uD (by omega)) | refine sB.put ?_ zq | refine sB.put ?_ (by rw [<- e]; exact zq))
   ·simp only [yf,yJ,or_false] at hq;rcases hq with rfl | rfl | rfl | rfl | rfl | rfl | rfl | rfl | rfl | rfl <;> first | exact QN rfl | (rw [<- e]; exact zq)
   ·exact ⟨y.v,by rw [rb,if_neg (by simpa using h0),e]; simp [WF,fA.of,XJ],by rw [rb,if_neg (by simpa using h0)]; exact hli.mems⟩
end
end
section
set_option maxHeartbeats 4000000
structure OfJ (n0:Nat) (s0:aA) (dn:Bool) (l:List dC) (i j:Nat) (s:aA):Prop where
 e1:(s.env 1).v=.ptr 1 n0 0
 m1:s.mem 1 n0=some [⟨.sl dn (l.map gD),.no⟩]
 e2:(s.env 2).v=.ptr 2 n0 0
 m2:∃ a,s.mem 2 n0=some [⟨.sl true [],a⟩]/\DN ⟨.sl true [],a⟩
 e4:(s.env 4).v=.int .i64 l.length
 e5:(s.env 5).v=.ptr 5 (n0 + 3) 0
 e6:(s.env 6).v=.int .i64 i
 m5:M5I n0 l j s
 calm:Calm n0 s0 s
 lowE:sB s.next s.env
 lt:n0 + 3<s.next
theorem xG {sz:Nat} {L:List (List AV)} (h:∀ c∈L,c.length=sz):jH (sA L) sz 0 L.length=some L:=by
 have ja:∀ {L:List (List AV)},(∀ c∈L,c.length=sz)->L.flatten.length=L.length * sz:=by
  intro L h
  induction L with
  | nil=>simp
  | cons c r ih =>
   simp only [yz,yl,yE];rw [ih fun c hc=>h c (yp _ hc),h c yk,yw];omega
 have hv:∀ l:List AV,(l.map fun v=>(⟨v,An.no⟩:qA)).map (·.v)=l:=fun l=>by simp [Function.comp_def]
 unfold jH;rw [if_pos (by rw [sA,yo,ja h]; omega)];congr 1;refine List.ext_getElem (by simp) fun i h1 h2=>?_
 simp only [List.getElem_map,List.getElem_range,yG];simp only [sA];rw [<- List.map_drop,<- List.map_take,hv]
 induction L generalizing i with
 | nil=>simp at h2
 | cons c r ih =>
  have hc:=h c yk;cases i with
  | zero=>simp [<- hc]
  | succ i =>
   simp only [yz,List.getElem_cons_succ];rw [yw,Nat.add_comm,<- hc,<- List.drop_drop];rw [List.drop_left,hc];exact ih (fun c hc=>h c (yp _ hc)) i (by simpa using h2) (by simpa using h2)
theorem MI.stay2 {ms:List BB} {c:AV} {s s':aA} (h:MI ms c s) (hm:∀ n L,SD L=true->s.mem 88 n=some (sA L)->s'.mem 88 n=some (sA L)) (hn:s.next<=s'.next):MI ms c s':=by
 rcases h with h | ⟨N,h1,h2,h3,h4⟩
 ·exact .inl h
 ·exact .inr ⟨N,h1,Nat.lt_of_lt_of_le h2 hn,h3,hm N _ (LY _) h4⟩
theorem qJ.stay2 {S:List fA} {L:List (List AV)} {s s':aA} (h:qJ S L s) (hm:∀ n L,SD L=true->s.mem 88 n=some (sA L)->s'.mem 88 n=some (sA L)) (hn:s.next<=s'.next):qJ S L s' :=
 ⟨h.1,fun i t c ht hc=>by obtain ⟨m,h1,h2⟩:=h.2 i t c ht hc; exact ⟨m,h1,h2.stay2 hm hn⟩⟩
theorem tail_ev {r:RV} {n0:Nat} {s0:aA} {dn:Bool} {l:List dC} (hl:oks l) (hM0:nL n0 s0.mem) (hG:sB n0 s0.gh) {i:Nat} (hi:i<l.length) {n8:Nat} {s:aA} {k:Ex->aA->Option RV} (h:SM n0 s0 dn l i n8 s) (hk:∀ s',OfJ n0 s0 dn l i (i + 1) s'->k .nrm s'=some r):XD.run (wH jA rA) (HK jA rA) s k=some r:=by
 obtain ⟨⟨e1,m1,e2,m2,e4,e5,e6,m5,⟨cm,cg,co,cn,cl⟩,lowE,lt⟩,e8,lt8,m,row,m8,la,ar⟩:=h;have hN5:=hl.2.1;generalize hT:nB l (i:Int)=T at *
 have zt:=ar;have ja:row.length=10:=by have:=congrArg List.length la; simpa [WF] using this
 have pt:MA true 10 0 row=some ⟨.agg (WF T m),.no⟩:=by
  unfold MA;simp [ja,<- la];rw [yx (by rw [yo]; omega)]
 have hCl:(WF T m).length=10:=rfl;have hmf:∀ t n,t≠88->m.noName t n=true:=fun t n ht=>by
  rcases ar with ⟨_,rfl⟩ | ⟨N,_,_,rfl,_⟩
  ·rfl
  ·simp [AV.noName];omega
 have hmw:m.leaf=true:=by
  rcases ar with ⟨_,rfl⟩ | ⟨N,_,_,rfl,_⟩ <;> rfl
 have ry:∀ t n,t≠88->(WF T m).all (AV.noName t n)=true:=fun t n ht=>by
  refine y5.2 fun c hc=>?_
  simp only [WF,yf,yJ,or_false] at hc;rcases hc with rfl | rfl | rfl | rfl | rfl | rfl | rfl | rfl | rfl | rfl <;> first | exact hmf t n ht | rfl
 have gq:∀ c∈WF T m,S4 s.next c:=fun c hc=>by
  simp only [WF,yf,yJ,or_false] at hc;rcases hc with rfl | rfl | rfl | rfl | rfl | rfl | rfl | rfl | rfl | rfl <;> first | exact zt.low | exact JP rfl
 have tt:∀ c∈WF T m,c.leaf=true:=fun c hc=>by
  simp only [WF,yf,yJ,or_false] at hc;rcases hc with rfl | rfl | rfl | rfl | rfl | rfl | rfl | rfl | rfl | rfl <;> first | exact hmw | rfl
 have ka:eB 120 (i + 1)=true:=by rw [EA]; omega
 have wn:(AV.agg (WF T m)).whole=true:=rfl;rcases m5 with ⟨kg,a,h5,hp5⟩ | ⟨N,L,kg,h5,er,hN,jl,hLl,rb⟩
 ·subst kg;have rz:lB 10 [WF T m]=true:=rfl;have hraw:jH (sA [WF T m]) 10 0 1=some [WF T m]:=xG (L:=[WF T m]) (by simp [hCl]);generalize hC:WF T m=C at *
  have hC2:C.length=10:=hCl;simp [XD,-V,-y3,-y0,J,-MA,-mA,wB,uB,PA,AA,e5,e8,h5,m8,pt,AV.raws,hraw,ka,rz,hC2];have ul:∀ x∈sA [C],lowV s.next x.v:=T0 (fun c hc=>by simp only [List.mem_singleton] at hc; subst hc; exact gq) (fun c hc=>by simp only [List.mem_singleton] at hc; subst hc; exact tt);refine hk _ ⟨?_,?_,?_,?_,?_,?_,?_,.inr ⟨s.next,[C],by omega,by simp,by omega,by dsimp only; omega,by simp,rfl,?_⟩,⟨?_,?_,?_,?_,?_⟩,?_,?_⟩
  ·simp [e1]
  ·simp [m1]
  ·simp [e2]
  ·simpa using m2
  ·simp [e4]
  ·simp [e5]
  ·simp [e6]
  ·refine ⟨rfl,fun j t c ht hc=>?_⟩;have hj:j=0:=by
    rcases yK j with h0 | h0
    ·exact h0
    ·rw [yW (by simp; omega)] at hc; cases hc
   subst hj;simp at ht hc;subst ht;subst hc;rw [show nB l (0:Int)=T from hT];exact ⟨m,hC.symm,ar.keep (fun N hN=>by simp) (by dsimp only; omega)⟩
  ·repeat (first | exact cm | refine QC.set ?_ (by omega))
  ·exact cg
  ·exact co
  ·dsimp only; omega
  ·exact ((((cl.set ul).set ul).mono (Nat.le_succ _)).set fun x hx=>by simp at hx; subst hx; exact tP (by omega))
  ·dsimp only;have mz:lowV s.next (.agg C):=aW gq
   repeat (first | exact lowE.mono (by omega) | refine sB.put ?_ (fun _ _ _=>rfl) | refine sB.put ?_ (uD (by omega)) | refine sB.put ?_ (tP (by omega)) | refine sB.put ?_ (KI (by omega) mz))
  ·dsimp only; omega
 ·have ge:∀ c∈L,c.length=10:=fun c hc=>by simpa using y5.1 rb.els c hc
  have rz:lB 10 [WF T m]=true:=rfl;have hraw:jH (sA [WF T m]) 10 0 1=some [WF T m]:=xG (L:=[WF T m]) (by simp [hCl]);have hraw2:jH (sA L) 10 0 i=some L:=by rw [<- hLl]; exact xG ge
  have hnn2:(L++[WF T m]).flatten.all (AV.noName 168 N)=true:=by
   rw [List.flatten_append,List.all_append,y7];refine ⟨y5.2 fun v hv=>?_,by simpa using ry 168 N (by omega)⟩;obtain ⟨c,hc,hv⟩:=List.mem_flatten.1 hv;obtain ⟨j,hj,rfl⟩:=yB hc;have hjS:j<((List.range i).map fun (j:Nat)=>nB l (j:Int)).length:=by rw [rb.1]; exact hj
   obtain ⟨m',h1,h2⟩:=rb.2 j _ _ (y4 hjS) (y4 hj);rw [h1] at hv;simp only [WF,yf,yJ,or_false] at hv;rcases hv with rfl | rfl | rfl | rfl | rfl | rfl | rfl | rfl | rfl | rfl <;> first | rfl | skip
   rcases h2 with ⟨_,rfl⟩ | ⟨N',_,_,rfl,_⟩ <;> rfl
  generalize hC:WF T m=C at *
  have hC2:C.length=10:=hCl;simp [XD,-V,-y3,-y0,J,-MA,-mA,wB,uB,PA,AA,e5,e8,h5,m8,pt,AV.raws,hraw,hraw2,jl,ka,rz,hC2,hnn2,-y5,-List.flatten_append,-List.all_flatten,-List.all_append];have af:tW 168 N s.gh=s.gh:=by rw [cg]; exact hG.same er
  have db:∀ (s':aA),s'.mem=eY (eY (FY 168 N (eY s.mem 167 s.next (sA [C]))) 168 s.next (sA (L++[C]))) 5 (n0 + 3) [⟨.ref 168 s.next 10 0 (i + 1) (i + 1),.no⟩]->∀ n L,SD L=true->s.mem 88 n=some (sA L)->s'.mem 88 n=some (sA L):=fun s' ji n L' hL' h'=>by
   rw [ji];simp [h',pX hL']
  have ul:∀ x∈sA [C],lowV s.next x.v:=T0 (fun c hc=>by simp only [List.mem_singleton] at hc; subst hc; exact gq) (fun c hc=>by simp only [List.mem_singleton] at hc; subst hc; exact tt);have hlowR2:∀ x∈sA (L++[C]),lowV s.next x.v:=fun x hx=>by
   rw [sA,List.flatten_append,yS] at hx;rcases yt.1 hx with hx | hx
   ·exact cl 168 N _ jl x hx
   ·exact ul x hx
  refine hk _ ⟨?_,?_,?_,?_,?_,?_,?_,.inr ⟨s.next,L++[C],by omega,by simp,by omega,by dsimp only; omega,by simp,by simp [hLl],?_⟩,⟨?_,?_,?_,?_,?_⟩,?_,?_⟩
  ·simp [tB,e1,AV.kill,AV.kill0]
  ·simp [jB,m1,AV.kill,AV.kill0]
  ·simp [tB,e2,AV.kill,AV.kill0]
  ·obtain ⟨a,m2,p2⟩:=m2;exact ⟨a,by simp [jB,m2,AV.kill,AV.kill0],p2⟩
  ·simp [tB,e4,AV.kill,AV.kill0]
  ·simp [tB,e5,AV.kill,AV.kill0]
  ·simp [tB,e6,AV.kill,AV.kill0]
  ·rw [J,yS,yg,yn,hT];subst hC;exact (rb.stay2 (db _ rfl) (by dsimp only; omega)).snoc (ar.stay2 (db _ rfl) (by dsimp only; omega))
  ·exact (((cm.set (by omega)).kill hM0 er).set (by omega)).set (by omega)
  ·show tW 168 N s.gh=s0.gh;rw [af];exact cg
  ·exact co
  ·dsimp only; omega
  ·exact ((((cl.set ul).kill.set hlowR2).mono (Nat.le_succ _)).set fun x hx=>by simp at hx; subst hx; exact tP (by omega))
  ·dsimp only;have mz:lowV s.next (.agg C):=aW gq;have hN':N<s.next + 1:=by omega
   repeat (first | exact lowE.mono (by omega) | refine sB.kill ?_ | refine sB.put ?_ (fun _ _ _=>rfl) | refine sB.put ?_ (uD (by omega)) | refine sB.put ?_ (tP (by omega)) | refine sB.put ?_ (KI (by omega) mz))
  ·dsimp only; omega
end
section
set_option maxHeartbeats 4000000
theorem head_ev {r:RV} {n0:Nat} {s0:aA} {dn:Bool} {l:List dC} (hl:oks l) (hM:nL n0 s0.mem) (hP:M7 n0 s0.mem) (hG:sB n0 s0.gh) (hG':sV s0.gh) {i:Nat} (hi:i<l.length) {s:aA} {k:Ex->aA->Option RV} (h:T2 n0 s0 dn l i s) (hk:∀ s',OfJ n0 s0 dn l i (i + 1) s'->k .nrm s'=some r):MB.run (wH jA rA) (HK jA rA) s k=some r:=by
 have ht:∀ n8 s',SM n0 s0 dn l i n8 s'->XD.run (wH jA rA) (HK jA rA) s' k=some r:=fun n8 s' h'=>tail_ev hl hM hG hi h' hk
 have hx:=PF hl hi;have hr:1<=(HA l (i:Int)).kind/\(HA l (i:Int)).kind<=9:=by
  have:=hx.1.1;simp only [dC.kind];omega
 by_cases h1:(HA l (i:Int)).kind=1
 ·exact kind1_ev hl hi h h1 ht
 by_cases h2:(HA l (i:Int)).kind=2
 ·exact kind2_ev hl hi h h2 ht
 by_cases h3:(HA l (i:Int)).kind=3
 ·exact kind3_ev hl hi h h3 ht
 by_cases h4:(HA l (i:Int)).kind=4
 ·exact kind4_ev hl hG' hP hi h h4 ht
 by_cases h5:(HA l (i:Int)).kind=5
 ·exact kind5_ev hl hG hi h h5 ht
 by_cases h6:(HA l (i:Int)).kind=6
 ·exact kind6_ev hl hG hi h h6 ht
 by_cases h7:(HA l (i:Int)).kind=7
 ·exact kind7_ev hl hi h h7 ht
 by_cases h8:(HA l (i:Int)).kind=8
 ·by_cases hc:jK l (HA l (i:Int)).b<0
  ·exact kind8n_ev hl hi h h8 hc ht
  ·exact kind8p_ev hl hi h h8 hc ht
 ·exact kind9_ev hl hi h (by omega) ht
theorem OfJ.toI {n0:Nat} {s0:aA} {dn:Bool} {l:List dC} {i j:Nat} {s:aA} (h:OfJ n0 s0 dn l i j s) {E:Nat->qA} {nx:Nat} (hE:∀ t,t<9->¬ t=6->(E t).v=(s.env t).v) (h6:(E 6).v=.int .i64 j) (hL:sB nx E) (hn:s.next<=nx):T2 n0 s0 dn l j ⟨E,s.mem,nx,s.obj,s.gh⟩:=by
 obtain ⟨e1,m1,e2,m2,e4,e5,e6,m5,⟨cm,cg,co,cn,cl⟩,lowE,lt⟩:=h;exact ⟨(hE 1 (by omega) (by omega)).trans e1,m1,(hE 2 (by omega) (by omega)).trans e2,m2,(hE 4 (by omega) (by omega)).trans e4,(hE 5 (by omega) (by omega)).trans e5,h6,m5.keep rfl (fun _ _=>rfl) (fun _ _=>rfl) hn,⟨cm,cg,co,by dsimp only; omega,cl.mono hn⟩,hL,by dsimp only; omega⟩
theorem T2.toJ {n0:Nat} {s0:aA} {dn:Bool} {l:List dC} {i:Nat} {s:aA} (h:T2 n0 s0 dn l i s):OfJ n0 s0 dn l i i s:=⟨h.e1,h.m1,h.e2,h.m2,h.e4,h.e5,h.e6,h.m5,h.calm,h.lowE,h.lt⟩
def uA (l:List dC):List fA:=(List.range l.length).map fun (j:Nat)=>nB l (j:Int)
structure OfEnd (s0:aA) (l:List dC) (s:aA):Prop where
 calm:Calm s0.next s0 s
 e2:(s.env 2).v=.ptr 2 s0.next 0
 e3:(s.env 3).v=.bool true
 lt:s0.next<s.next
 typs:∃ N L,s.mem 2 s0.next=some [⟨.ref 168 N 10 0 l.length l.length,.no⟩]/\s0.next<=N/\N<s.next/\s.mem 168 N=some (sA L)/\L.length=l.length/\qJ (uA l) L s
theorem of_run {r:RV} {dn:Bool} {l:List dC} (hl:oks l) (s0:aA) (h0:(s0.env 0).v=.agg (mF dn l)) (hM:nL s0.next s0.mem) (hP:M7 s0.next s0.mem) (hE:sB s0.next s0.env) (hG:sB s0.next s0.gh) (hG':sV s0.gh) (k:Ex->aA->Option RV) (hk:∀ s',OfEnd s0 l s'->k .ret s'=some r):bF.code.run (wH jA rA) (HK jA rA) s0 k=some r:=by
 have hN1:=hl.1;have hN5:=hl.2.1;have c1:¬ (l.length:Int)<1:=by omega
 have c2:¬ 5<(l.length:Int):=by omega
 simp only [mF] at h0;simp [bF,-V,-y3,-y0,J,h0,c1,c2];refine xA l.length (fun i s=>T2 s0.next s0 dn l i s) (fun e s=>e=.exit 0/\T2 s0.next s0 dn l l.length s) (fun i hi s k' h ih tc=>?_) _ _ ?_ (fun e s h=>?_)
 ·refine tA ?_;rw [of_L2];by_cases da:i<l.length
  ·have rg:=ZA (i:=i);simp [-V,-y3,-y0,J,h.e4,h.e6,da];refine head_ev hl hM hP hG hG' da (h.toJ.toI (fun t ht h6=>?_) ?_ ?_ ?_) (fun s' hj=>?_)
   ·have q:∀ c,9<=c->¬ t=c:=fun c hc=>by omega
    simp [q]
   ·simp [h.e6]
   ·try dsimp only
    repeat (first | exact h.lowE.mono (by omega) | refine sB.put ?_ (fun _ _ _=>rfl))
   ·(try dsimp only); omega
   ·simp [-V,-y3,-y0,J,hj.e6,rg];refine ih da _ (hj.toI (fun t ht h6=>?_) ?_ ?_ ?_)
    ·have q:∀ c,9<=c->¬ t=c:=fun c hc=>by omega
     simp [q,h6]
    ·simp
    ·try dsimp only
     repeat (first | exact hj.lowE.mono (by omega) | refine sB.put ?_ (fun _ _ _=>rfl))
    ·(try dsimp only); omega
  ·have lg:i=l.length:=by omega
   subst lg;simp [-V,-y3,-y0,J,h.e4,h.e6];refine tc _ _ ⟨rfl,h.toJ.toI (fun t ht h6=>?_) ?_ ?_ ?_⟩
   ·have q:∀ c,9<=c->¬ t=c:=fun c hc=>by omega
    simp [q]
   ·simp [h.e6]
   ·try dsimp only
    repeat (first | exact h.lowE.mono (by omega) | refine sB.put ?_ (fun _ _ _=>rfl))
   ·(try dsimp only); omega
 ·refine ⟨?_,?_,?_,⟨.ex,?_,d5 _⟩,?_,?_,?_,.inl ⟨rfl,.ex,?_,d5 _⟩,⟨?_,?_,?_,?_,?_⟩,?_,?_⟩
  all_goals first | (simp; done) | skip
  ·dsimp only
   repeat (first | exact QC.refl | refine QC.set ?_ (by omega))
  ·dsimp only; omega
  ·exact (((((hM.mono (by dsimp only; omega)).set dA).set dA).set dA))
  ·dsimp only
   repeat (first | exact hE.mono (by omega) | refine sB.put ?_ (fun _ _ _=>rfl) | refine sB.put ?_ (uD (by omega)))
 ·obtain ⟨rfl,h⟩:=h;obtain ⟨e1,m1,e2,⟨a2,m2,p2⟩,e4,e5,e6,m5,⟨cm,cg,co,cn,cl⟩,lowE,lt⟩:=h;rcases m5 with ⟨kg,_⟩ | ⟨N,L,kg,h5,er,hN,jl,hLl,rb⟩
  ·omega
  simp [-V,-y3,-y0,J,e5,h5,e2,m2];refine hk _ ⟨⟨?_,?_,?_,?_,?_⟩,?_,?_,?_,N,L,?_,er,?_,?_,hLl,?_⟩
  ·exact cm.set (ym _)
  ·exact cg
  ·exact co
  ·dsimp only; omega
  ·exact (cl.mono (Nat.le_succ _)).set fun x hx=>by simp at hx; subst hx; exact tP (by omega)
  ·simp [e2]
  ·simp
  ·dsimp only; omega
  ·simp
  ·dsimp only; omega
  ·simp [jl]
  ·exact rb.keep (fun N _=>by simp) (by dsimp only; omega)
end
section
set_option maxHeartbeats 4000000
theorem of_bad {r:RV} {dn:Bool} {l:List dC} (hl:¬ (1<=l.length/\l.length<=5)) (s0:aA) (h0:(s0.env 0).v=.agg (mF dn l)) (hM:nL s0.next s0.mem) (k:Ex->aA->Option RV) (hk:∀ s',Calm s0.next s0 s'->(s'.env 2).v=.ptr 2 s0.next 0->(s'.env 3).v=.bool false->s'.mem 2 s0.next=some [⟨.sl true [],.no⟩]->k .ret s'=some r):bF.code.run (wH jA rA) (HK jA rA) s0 k=some r:=by
 simp only [mF] at h0;by_cases c1:(l.length:Int)<1
 ·have zi:l.length=0:=by omega
  have c1'':l=[]:=yM zi;subst c1'';simp [bF,-V,-y3,-y0,J,h0];refine hk _ ⟨?_,rfl,rfl,?_,?_⟩ ?_ ?_ ?_
  ·dsimp only
   repeat (first | exact QC.refl | refine QC.set ?_ (by omega))
  ·dsimp only; omega
  ·exact (((hM.mono (by dsimp only; omega)).set dA).set dA).set dA
  ·simp
  ·simp
  ·simp
 ·have c2:5<(l.length:Int):=by omega
  simp [bF,-V,-y3,-y0,J,h0,c1,c2];refine hk _ ⟨?_,rfl,rfl,?_,?_⟩ ?_ ?_ ?_
  ·dsimp only
   repeat (first | exact QC.refl | refine QC.set ?_ (by omega))
  ·dsimp only; omega
  ·exact (((hM.mono (by dsimp only; omega)).set dA).set dA).set dA
  ·simp
  ·simp
  ·simp
end
theorem uZ {sz:Nat} {L:List (List AV)} (h:lB sz L=true) {k:Nat} {c:List AV} (hk:L[k]?=some c) :
  sA L=sA (L.take k)++(c.map (⟨·,.no⟩)++sA (L.drop (k + 1)))/\(sA (L.take k)).length=k * sz/\k<L.length/\c.length=sz:=by
 obtain ⟨da,he⟩:=y9.1 hk;have h1:lB sz (L.take k)=true:=y5.2 fun x hx=>y5.1 h x (List.mem_of_mem_take hx)
 refine ⟨?_,?_,da,?_⟩
 ·have:L=L.take k++(c :: L.drop (k + 1)):=by rw [<- he,<- yb da,List.take_append_drop]
  have h2:=congrArg sA this;rw [SJ] at h2;rw [h2];simp [sA]
 ·rw [HG h1,yC,Nat.min_eq_left (by omega)]
 ·have:=y5.1 h c (yj hk);simpa using this
theorem row_join {L:List (List AV)} {k:Nat} (hk:k<L.length) (c:List AV):sA (L.take k)++(c.map (⟨·,.no⟩)++sA (L.drop (k + 1)))=sA (L.set k c):=by
 have:L.set k c=L.take k++(c :: L.drop (k + 1)):=by
  rw [List.set_eq_take_append_cons_drop,if_pos hk]
 rw [this,SJ];simp [sA]
section
variable {sz:Nat} {L:List (List AV)} (h:lB sz L=true) {k j:Nat} {c:List AV} (hk:L[k]?=some c)
include sz L h k j c hk
theorem row_get1 {v:AV} (hj:c[j]?=some v) (z:Nat):MA false z (k * sz + j) (sA L)=some ⟨v,.no⟩:=by
 obtain ⟨h1,h2,h3,h4⟩:=uZ h hk;obtain ⟨xh,_⟩:=y9.1 hj;rw [h1,wB,yR (by omega),h2,Nat.add_sub_cancel_left,yF (by simpa using xh),yc,hj];rfl
theorem U5 (hj:j<c.length) {x:AV} (hx:x.leaf=true) (z:Nat):mA false z (k * sz + j) (sA L) x .no=some (sA (L.set k (c.set j x))):=by
 obtain ⟨h1,h2,h3,h4⟩:=uZ h hk;rw [<- row_join h3,h1];unfold mA;simp only [yr,if_false];rw [if_pos ⟨hx,by simp only [yl,yo,h2]; omega⟩];congr 1;rw [List.set_append_right (h:=by omega),h2,Nat.add_sub_cancel_left,List.set_append_left (h:=by simpa using hj),List.map_set]
end
theorem rZ (row:List qA) (sz off len:Nat):aE row sz off len=if row.all (fun x=>x.v.free0)=true then jH row sz off len else none:=by
 unfold aE jH;by_cases h1:off + len * sz<=row.length <;> by_cases h2:row.all (fun x=>x.v.free0)=true <;> simp only [h1,h2,true_and,false_and,and_true,and_false,if_true,if_false,yr]
theorem EY {s:aA} {v:AV} (h:v.free0=true):AV.frz1 s v=v:=by
 cases v <;> first | rfl | (simp [AV.free0] at h; done)
theorem frz_row {s:aA} {t n sz c:Nat} {L:List (List AV)} (h:lB sz L=true) (hm:s.mem t n=some (sA L)) (hf:(L.map fun c=>c.map (AV.frz1 s)).flatten.all AV.free0=true):AV.frz0 s (.ref t n sz 0 L.length c)=.sl false (L.map fun c=>c.map (AV.frz1 s)):=by
 have hr:jH (sA L) sz 0 L.length=some L:=xG fun c hc=>by simpa using y5.1 h c hc
 simp only [AV.frz0,hm,V,rZ];by_cases sa:(sA L).all (fun x=>x.v.free0)=true
 ·rw [if_pos sa,hr];have:(L.map fun c=>c.map (AV.frz1 s))=L.map id:=yq fun c hc=>by
   have:c.map (AV.frz1 s)=c.map id:=yq fun v hv=>EY (by
    have:=y5.1 sa ⟨v,.no⟩ (yy.2 ⟨v,List.mem_flatten.2 ⟨c,hc,hv⟩,rfl⟩);exact this)
   rwa [List.map_id] at this
  rw [this,List.map_id]
 ·rw [if_neg sa];simp only [U1,hr,V];rw [if_pos hf]
def rwM (n:Nat) (a b:BB):Prop:=b.id=a.id/\b.name=a.name/\b.crit=a.crit/\(b=a\/(0<=b.ty/\b.ty<n/\b.has=false/\b.dflt=Vl.zero))
def rwL (n:Nat) (xs bs:List BB):Prop:=xs.length=bs.length/\∀ (i:Nat) a b,xs[i]?=some a->bs[i]?=some b->rwM n a b
theorem F5 (n:Nat) (xs:List BB):rwL n xs xs:=⟨rfl,fun i a b h h'=>by
 rw [h] at h';injection h' with h';subst h';exact ⟨rfl,rfl,rfl,.inl rfl⟩⟩
def BB.rewired (m:BB) (ty:Int):BB:=⟨m.id,m.name,ty,m.crit,false,Vl.zero⟩
theorem rwL_set {n:Nat} {xs bs:List BB} (h:rwL n xs bs) {k:Nat} {m:BB} (hk:bs[k]?=some m) {ty:Int} (h0:0<=ty) (h1:ty<n):rwL n xs (bs.set k (m.rewired ty)):=by
 obtain ⟨hl,h⟩:=h;refine ⟨by simpa using hl,fun i a b ha hb=>?_⟩;rw [List.getElem?_set] at hb;split at hb
 ·rename_i e;subst e;split at hb
  ·injection hb with hb;subst hb;obtain ⟨g1,g2,g3,_⟩:=h k a m ha hk;exact ⟨g1,g2,g3,.inr ⟨h0,h1,rfl,rfl⟩⟩
  ·cases hb
 ·exact h i a b ha hb
def MemsR (n:Nat) (xs:List BB) (c:AV) (s:aA):Prop :=
 (xs=[]/\c=.sl true [])\/∃ N bs,xs≠[]/\rwL n xs bs/\c=.ref 88 N 13 0 xs.length xs.length/\s.mem 88 N=some (sA (bs.map nA))
def sR (n:Nat) (S:List fA) (L:List (List AV)) (s:aA):Prop:=S.length=L.length/\∀ (i:Nat) (t:fA) (c:List AV),S[i]?=some t->L[i]?=some c->∃ m,c=WF t m/\MemsR n t.mems m s
theorem qJ.toR {S:List fA} {L:List (List AV)} {s:aA} (h:qJ S L s) (n:Nat):sR n S L s:=⟨h.1,fun i t c ht hc=>by
 obtain ⟨m,h1,h2⟩:=h.2 i t c ht hc;refine ⟨m,h1,?_⟩;rcases h2 with h2 | ⟨N,g1,_,g3,g4⟩
 ·exact .inl h2
 ·exact .inr ⟨N,_,g1,F5 n _,g3,g4⟩⟩
theorem sR.els {n:Nat} {S:List fA} {L:List (List AV)} {s:aA} (h:sR n S L s):lB 10 L=true:=by
 refine y5.2 fun c hc=>?_
 obtain ⟨i,hi,rfl⟩:=yB hc;have ja:=h.1;obtain ⟨m,h1,_⟩:=h.2 i S[i] L[i] (y4 (by omega)) (y4 hi);rw [h1];rfl
theorem sR.keep {n:Nat} {S:List fA} {L:List (List AV)} {s s':aA} (h:sR n S L s) (hm:∀ N,s'.mem 88 N=s.mem 88 N):sR n S L s':=⟨h.1,fun i t c ht hc=>by
 obtain ⟨m,h1,h2⟩:=h.2 i t c ht hc;refine ⟨m,h1,?_⟩;rcases h2 with h2 | ⟨N,bs,g1,g2,g3,g4⟩
 ·exact .inl h2
 ·exact .inr ⟨N,bs,g1,g2,g3,(hm N).trans g4⟩⟩
theorem memC_inj {a b:List BB} (h:sA (a.map nA)=sA (b.map nA)) (hl:a.length=b.length):a.map nA=b.map nA:=by
 have h1:=xG (sz:=13) (L:=a.map nA) (by simp [nA]);have h2:=xG (sz:=13) (L:=b.map nA) (by simp [nA]);rw [h] at h1;simp only [yo] at h1 h2;rw [hl,h2] at h1;injection h1 with h1;exact h1.symm
theorem sR.store {n:Nat} {S:List fA} {L:List (List AV)} {s s':aA} (h:sR n S L s) {N k:Nat} {bs:List BB} {m:BB} (hN:s.mem 88 N=some (sA (bs.map nA))) (hk:bs[k]?=some m) {ty:Int} (h0:0<=ty) (h1:ty<n) (hm:∀ N',s'.mem 88 N'=if N'=N then some (sA ((bs.set k (m.rewired ty)).map nA)) else s.mem 88 N'):sR n S L s':=⟨h.1,fun i t c ht hc=>by
 obtain ⟨m',g1,g2⟩:=h.2 i t c ht hc;refine ⟨m',g1,?_⟩;rcases g2 with g2 | ⟨N',zy,g2,g3,g4,g5⟩
 ·exact .inl g2
 ·by_cases e:N'=N
  ·subst e;rw [hN] at g5;injection g5 with g5;have ja:bs.length=zy.length:=by
    have e1:=congrArg List.length g5;rw [HG (BU _),HG (BU _)] at e1;simp only [yo] at e1;omega
   have zt:=memC_inj g5 ja;have tc:k<zy.length:=by rw [<- ja]; exact (y9.1 hk).1
   have hkm:nA zy[k]=nA m:=by
    have:=congrArg (·[k]?) zt;simp only [yc,hk,y4 tc,yA,Option.some.injEq] at this;exact this.symm
   refine .inr ⟨N',zy.set k (zy[k].rewired ty),g2,rwL_set g3 (y4 tc) h0 h1,g4,?_⟩;rw [hm,if_pos rfl,List.map_set,List.map_set,zt];have:nA (m.rewired ty)=nA (zy[k].rewired ty):=by
    simp only [nA,List.cons.injEq,AV.int.injEq,AV.str.injEq,AV.bool.injEq,true_and] at hkm;simp only [nA,BB.rewired,hkm.1,hkm.2.1,hkm.2.2.2.1]
   rw [this]
  ·exact .inr ⟨N',zy,g2,g3,g4,by rw [hm,if_neg e]; exact g5⟩⟩
def rwT (n:Nat) (a b:fA):Prop:=∃ bs,rwL n a.mems bs/\b={ a with mn:=bs.isEmpty,mems:=bs }
def rwS (n:Nat) (S T:List fA):Prop:=S.length=T.length/\∀ (i:Nat) a b,S[i]?=some a->T[i]?=some b->rwT n a b
end Go.Proofs.YtbnlmgncbgaepaaGreat
