/- A part of the proof. -/
import Derived.Test.YtbnlmgncbgaepaaGreatYg
import Derived.Lib.Zigzag
set_option linter.all false
set_option maxRecDepth 100000
set_option maxHeartbeats 8000000
open Option renaming bind_some → V
open List renaming range_succ → J, map_map → y0, getElem_mem → y6, drop_eq_getElem_cons → y9, drop_eq_nil_of_le → ye
open Int renaming toNat_lt → y3
namespace Go.Proofs.YtbnlmgncbgaepaaGreat
open Go
def t9 (n:Int):Int:=if 0<=n then 2 * n else -2 * n - 1
def lS (n:Int):Prop:=-9223372036854775808<=n/\n<=9223372036854775807
theorem uN (n:Int) (h:0<=n/\n<18446744073709551616):IntKind.u64.wrap n=n:=by
 simp only [IntKind.wrap,IntKind.bits,IntKind.signed];simp;omega
theorem xor_u64 (a b c:Int) (h:((BitVec.ofInt 64 a ^^^ BitVec.ofInt 64 b).toNat:Int)=c) (hc:0<=c/\c<18446744073709551616):WT .xor false (.int .u64 a) (.int .u64 b)=some (.int .u64 c):=by
 have:WT .xor false (.int .u64 a) (.int .u64 b)=some (.int .u64 (IntKind.u64.wrap ((BitVec.ofInt 64 a ^^^ BitVec.ofInt 64 b).toNat:Int))):=rfl;rw [this,h,uN _ hc]
theorem shl_u64 (a c:Int) (h:IntKind.u64.wrap (a * 2)=c):WT .shl false (.int .u64 a) (.int .u64 1)=some (.int .u64 c):=by
 have:WT .shl false (.int .u64 a) (.int .u64 1)=some (.int .u64 (IntKind.u64.wrap (a * 2))):=rfl;rw [this,h]
theorem shr_63 (a c:Int) (h:a.fdiv 9223372036854775808=c):WT .shr false (.int .i64 a) (.int .u64 63)=some (.int .i64 c):=by
 have:WT .shr false (.int .i64 a) (.int .u64 63)=some (.int .i64 (a.fdiv 9223372036854775808)):=rfl;rw [this,h]
theorem zig_ev (n:Int) (h:lS n):fA 260 [.int .i64 n] (.int .u64 (t9 n)):=by
 refine wA (c:=sG) rfl rfl ?_;obtain ⟨h1,h2⟩:=h;unfold t9;by_cases h0:0<=n
 ·have w1:IntKind.u64.wrap n=n:=uN _ (by omega);have w2:=shl_u64 n (2 * n) (by rw [uN _ (by omega)]; omega);have w3:=shr_63 n 0 (by rw [Int.fdiv_eq_ediv_of_nonneg _ (by omega)]; omega);have w4:IntKind.u64.wrap 0=0:=uN _ (by omega);have w5:=xor_u64 (2 * n) 0 (2 * n) (by rw [show BitVec.ofInt 64 0=0#64 from rfl,BitVec.xor_zero,BitVec.toNat_ofInt]; omega) (by omega);simp [sG,-V,-y3,-y0,J,-WT,w1,w2,w3,w4,w5,h0]
 ·have w1:IntKind.u64.wrap n=n + 18446744073709551616:=by
   simp only [IntKind.wrap,IntKind.bits,IntKind.signed];simp;omega
  have w2:=shl_u64 (n + 18446744073709551616) (2 * n + 18446744073709551616) (by
   simp only [IntKind.wrap,IntKind.bits,IntKind.signed];simp;omega)
  have w3:=shr_63 n (-1) (by rw [Int.fdiv_eq_ediv_of_nonneg _ (by omega)]; omega);have w4:IntKind.u64.wrap (-1)=18446744073709551615:=by decide +kernel
  have w5:=xor_u64 (2 * n + 18446744073709551616) 18446744073709551615 (-2 * n - 1) (by
   rw [show BitVec.ofInt 64 18446744073709551615=BitVec.allOnes 64 from by decide +kernel,BitVec.xor_allOnes,BitVec.toNat_not,BitVec.toNat_ofInt];omega) (by omega)
  simp [sG,-V,-y3,-y0,J,-WT,w1,w2,w3,w4,w5,h0]
theorem rzig_ev (n:Int) (h:lS n):fA 179 [.int .i64 n] (.int .u64 (t9 n)):=by
 refine wA (c:=KG) rfl rfl ?_;obtain ⟨h1,h2⟩:=h;unfold t9;by_cases h0:0<=n
 ·have w1:IntKind.u64.wrap n=n:=uN _ (by omega);have w2:IntKind.u64.wrap (2 * n)=2 * n:=uN _ (by omega);simp [KG,-V,-y3,-y0,J,h0,w1,w2]
 ·have w1:IntKind.i64.wrap (n + 1)=n + 1:=IntWalk.i64_in _ (by omega);have w2:IntKind.i64.wrap (0 - (n + 1))=-n - 1:=by rw [IntWalk.i64_in _ (by omega)]; omega
  have w2':IntKind.i64.wrap (-(n + 1))=-n - 1:=by rw [IntWalk.i64_in _ (by omega)]; omega
  have w3:IntKind.u64.wrap (-n - 1)=-n - 1:=uN _ (by omega);have w4:IntKind.u64.wrap (2 * (-n - 1))=-2 * n - 2:=by rw [uN _ (by omega)]; omega
  have w5:IntKind.u64.wrap (-2 * n - 2 + 1)=-2 * n - 1:=by rw [uN _ (by omega)]; omega
  have w6:IntKind.u64.wrap (-(2 * n) - 2 + 1)=-(2 * n) - 1:=by rw [uN _ (by omega)]; omega
  simp [KG,-V,-y3,-y0,J,h0,w1,w2,w2',w3,w4,w5,w6]
def cQ (a b:Int):Int:=if a<b then -1 else if b<a then 1 else 0
def sX (a b:ByteArray):Bool:=Op.bytesLess a.toList b.toList
def J6 (a b:ByteArray):Int:=if a.size<b.size then -1 else if b.size<a.size then 1 else if a=b then 0 else if sX a b=true then -1 else 1
def AU (a b:Vl):Int :=
 if a.kind≠b.kind then 0
 else if a.kind=1 then (if a.b=b.b then 0 else if b.b=true then -1 else 1)
 else if a.kind=2 then cQ (t9 a.i) (t9 b.i)
 else if a.kind=3 then J6 a.s b.s
 else if a.kind=4 then cQ a.id b.id
 else 0
theorem order_ev (l e:Bool):fA 178 [.bool l,.bool e] (.int .i64 (if e=true then 0 else if l=true then -1 else 1)):=by
 refine wA (c:=mK) rfl rfl ?_;cases l <;> cases e <;> simp [mK,-V,-y3,-y0,J]
theorem nan_u (n:Int):fA 267 [.int .u64 n] (.bool false):=by
 refine wA (c:=GF) rfl rfl ?_;simp [GF,-V,-y3,-y0,J]
theorem nan_i (n:Int):fA 171 [.int .i64 n] (.bool false):=by
 refine wA (c:=eI) rfl rfl ?_;simp [eI,-V,-y3,-y0,J]
theorem nan_s (s:ByteArray):fA 268 [.str s] (.bool false):=by
 refine wA (c:=FF) rfl rfl ?_;simp [FF,-V,-y3,-y0,J]
theorem cmpu_ev (a b:Int):fA 259 [.int .u64 a,.int .u64 b] (.int .i64 (cQ a b)):=by
 have h1:=nan_u a;have h2:=nan_u b;simp only [fA] at h1 h2;refine wA (c:=XD) rfl rfl ?_;unfold cQ;by_cases c1:a<b
 ·simp [XD,-V,-y3,-y0,J,h1,h2,c1]
 ·by_cases c2:b<a <;> simp [XD,-V,-y3,-y0,J,h1,h2,c1,c2]
theorem cmpi_ev (a b:Int):fA 140 [.int .i64 a,.int .i64 b] (.int .i64 (cQ a b)):=by
 have h1:=nan_i a;have h2:=nan_i b;simp only [fA] at h1 h2;refine wA (c:=LE) rfl rfl ?_;unfold cQ;by_cases c1:a<b
 ·simp [LE,-V,-y3,-y0,J,h1,h2,c1]
 ·by_cases c2:b<a <;> simp [LE,-V,-y3,-y0,J,h1,h2,c1,c2]
theorem A7:∀ a:List UInt8,Op.bytesLess a a=false
 | []=>rfl
 | x :: r=>by simp [Op.bytesLess,A7 r]
def cmpT (a b:ByteArray):Int:=if sX a b=true then -1 else if a=b then 0 else 1
theorem cmps_ev (a b:ByteArray):fA 262 [.str a,.str b] (.int .i64 (cmpT a b)):=by
 have h1:=nan_s a;have h2:=nan_s b;simp only [fA] at h1 h2;refine wA (c:=uD) rfl rfl ?_;unfold cmpT sX;cases c1:Op.bytesLess a.toList b.toList with
 | true=>simp [uD,-V,-y3,-y0,J,h1,h2,c1]
 | false =>
  by_cases c2:a=b
  ·subst c2;simp [uD,-V,-y3,-y0,J,h1,c1]
  ·simp [uD,-V,-y3,-y0,J,h1,h2,c1,c2]
theorem or_ev (a b:Int):fA 261 [.sl false [[.int .i64 a],[.int .i64 b]]] (.int .i64 (if a≠0 then a else b)):=by
 obtain ⟨r0,hr⟩:∃ r0,r0=if a≠0 then a else b:=⟨_,rfl⟩
 rw [<- hr];refine wA (c:=fL) rfl rfl ?_;have w1:IntKind.i64.wrap 1=1:=by decide +kernel
 have w2:IntKind.i64.wrap 2=2:=by decide +kernel
 simp [fL,-V,-y3,-y0,J];refine lA 2 (fun i s=>(s.env 3).v=.int .i64 0/\(s.env 6).v=.sl false [[.int .i64 a],[.int .i64 b]]/\(s.env 7).v=.int .i64 2/\(s.env 8).v=.int .i64 i/\(0<i->a=0)/\(1<i->b=0))
  (fun e s=>(e=.exit 0/\a=0/\b=0/\(s.env 3).v=.int .i64 0)\/(e=.ret/\(s.env 2).v=.int .i64 r0)) (fun i hi s k h ih hk=>?_) _ _ ?_ (fun e s h=>?_)
 ·obtain ⟨e3,e6,e7,e8,ha,hb⟩:=h;refine tA ?_
  match i,hi with
  | 0,_ =>
   by_cases h0:a=0
   ·simp [HE,-V,-y3,-y0,J,e3,e6,e7,e8,h0,w1];refine ih (by omega) _ ⟨?_,?_,?_,?_,?_,?_⟩ <;> simp [e3,e6,e7,h0]
   ·simp [HE,-V,-y3,-y0,J,e3,e6,e7,e8,h0];exact hk _ _ (.inr ⟨rfl,by simp [hr,h0]⟩)
  | 1,_ =>
   have ha:=ha (by omega);by_cases h0:b=0
   ·simp [HE,-V,-y3,-y0,J,e3,e6,e7,e8,h0,w2];refine ih (by omega) _ ⟨?_,?_,?_,?_,?_,?_⟩ <;> simp [e3,e6,e7,h0,ha]
   ·simp [HE,-V,-y3,-y0,J,e3,e6,e7,e8,h0];exact hk _ _ (.inr ⟨rfl,by simp [hr,ha]⟩)
  | 2,_ =>
   simp [HE,-V,-y3,-y0,J,e3,e6,e7,e8];exact hk _ _ (.inl ⟨rfl,ha (by omega),hb (by omega),by simp [e3]⟩)
 ·simp
 ·rcases h with ⟨rfl,h1,h2,h3⟩ | ⟨rfl,h1⟩
  ·simp [-V,-y3,-y0,J,hr,h1,h2,h3]
  ·simp [-V,-y3,-y0,J,h1]
theorem cmpS_or (a b:ByteArray):(if cQ a.size b.size≠0 then cQ a.size b.size else cmpT a b)=J6 a b:=by
 unfold J6 cQ cmpT;by_cases h1:a.size<b.size
 ·have ol:(a.size:Int)<b.size:=by omega
  simp [h1,ol]
 ·have ol:¬ (a.size:Int)<b.size:=by omega
  by_cases h2:b.size<a.size
  ·have tl:(b.size:Int)<a.size:=by omega
   simp [h1,ol,h2,tl]
  ·have tl:¬ (b.size:Int)<a.size:=by omega
   simp only [h1,ol,h2,tl,if_false,ne_eq,not_true_eq_false];by_cases h3:a=b
   ·subst h3;simp [sX,A7]
   ·simp [h3]
theorem vcmp_ev (a b:Vl) (ha:lS a.i) (hb:lS b.i):fA 241 [.agg (zA a),.agg (zA b)] (.int .i64 (AU a b)):=by
 refine wA (c:=WC) rfl rfl ?_;have z1:=zig_ev a.i ha;have z2:=zig_ev b.i hb;have q1:=cmpu_ev (t9 a.i) (t9 b.i);have q2:=cmpi_ev a.s.size b.s.size;have q3:=cmps_ev a.s b.s;have q4:=cmpi_ev a.id b.id;have q5:=or_ev (cQ a.s.size b.s.size) (cmpT a.s b.s);rw [cmpS_or] at q5;simp only [fA] at z1 z2 q1 q2 q3 q4 q5;rw [uA,uA];unfold AU;by_cases h0:a.kind=b.kind
 ·rw [h0];by_cases h1:b.kind=1
  ·by_cases h2:a.b=b.b
   ·simp [WC,-V,-y3,-y0,J,h1,h2]
   ·cases h3:b.b <;> rw [h3] at h2 <;> simp at h2 <;> simp [WC,-V,-y3,-y0,J,h1,h2,h3]
  ·by_cases h2:b.kind=2
   ·simp [WC,-V,-y3,-y0,J,h2,z1,z2,q1]
   ·by_cases h3:b.kind=3
    ·simp [WC,-V,-y3,-y0,J,h3,q2,q3,q5]
    ·by_cases h4:b.kind=4
     ·simp [WC,-V,-y3,-y0,J,h4,q4]
     ·simp [WC,-V,-y3,-y0,J,h1,h2,h3,h4]
 ·simp [WC,-V,-y3,-y0,J,h0]
theorem zig_inj {a b:Int} (h:t9 a=t9 b):a=b:=by
 unfold t9 at h;split at h <;> split at h <;> omega
theorem rvcmp_ev (a b:Vl) (ha:lS a.i) (hb:lS b.i):fA 149 [.agg (zA a),.agg (zA b)] (.int .i64 (AU a b)):=by
 refine wA (c:=CA) rfl rfl ?_;have z1:=rzig_ev a.i ha;have z2:=rzig_ev b.i hb;have q1:=fun l e=>order_ev l e
 simp only [fA] at z1 z2 q1;rw [uA,uA];unfold AU;by_cases h0:a.kind=b.kind
 ·rw [h0];by_cases h1:b.kind=1
  ·by_cases h2:a.b=b.b
   ·simp [CA,-V,-y3,-y0,J,h1,h2,q1]
   ·cases h3:b.b <;> rw [h3] at h2 <;> simp at h2 <;> simp [CA,-V,-y3,-y0,J,h1,h2,h3,q1]
  ·by_cases h2:b.kind=2
   ·by_cases h5:a.i=b.i
    ·simp [CA,-V,-y3,-y0,J,h2,h5,z2,q1,cQ]
    ·have h6:t9 a.i≠t9 b.i:=fun h=>h5 (zig_inj h)
     by_cases h7:t9 a.i<t9 b.i
     ·simp [CA,-V,-y3,-y0,J,h2,h5,z1,z2,q1,cQ,h7]
     ·have h8:t9 b.i<t9 a.i:=by omega
      simp [CA,-V,-y3,-y0,J,h2,h5,z1,z2,q1,cQ,h7,h8]
   ·by_cases h3:b.kind=3
    ·by_cases h5:a.s.size=b.s.size
     ·have h6:¬ (a.s.size:Int)≠b.s.size:=by omega
      by_cases h7:a.s=b.s
      ·simp [CA,-V,-y3,-y0,J,h3,h7,q1,J6]
      ·cases h8:sX a.s b.s with
       | true =>
        have h9:=h8;unfold sX at h9;simp [CA,-V,-y3,-y0,J,h3,h5,h6,h7,q1,J6,h8,h9]
       | false =>
        have h9:=h8;unfold sX at h9;simp [CA,-V,-y3,-y0,J,h3,h5,h6,h7,q1,J6,h8,h9]
     ·have h6:¬ (a.s.size:Int)=b.s.size:=by omega
      by_cases h7:a.s.size<b.s.size
      ·have h8:(a.s.size:Int)<b.s.size:=by omega
       simp [CA,-V,-y3,-y0,J,h3,h6,h7,h8,q1,J6]
      ·have h8:¬ (a.s.size:Int)<b.s.size:=by omega
       have h9:b.s.size<a.s.size:=by omega
       simp [CA,-V,-y3,-y0,J,h3,h6,h7,h8,h9,q1,J6]
    ·by_cases h4:b.kind=4
     ·by_cases h5:a.id=b.id
      ·simp [CA,-V,-y3,-y0,J,h4,h5,q1,cQ]
      ·by_cases h7:a.id<b.id
       ·simp [CA,-V,-y3,-y0,J,h4,h5,h7,q1,cQ]
       ·have h8:b.id<a.id:=by omega
        simp [CA,-V,-y3,-y0,J,h4,h5,h7,h8,q1,cQ]
     ·simp [CA,-V,-y3,-y0,J,h1,h2,h3,h4]
 ·simp [CA,-V,-y3,-y0,J,h0]
section
def NM:List Vl->Bool
 | []=>true
 | [_]=>true
 | a :: b :: r=>decide (AU a b<0)&&NM (b :: r)
def IH (f:Int->Vl->Bool):List uC->List Vl->Bool
 | m :: r,v :: q=>f m.ty v&&IH f r q
 | _,_=>true
def UJ (f:Int->Vl->Bool) (m:Option uC) (known re:Bool):List Vl->Bool
 | [u]=>(match m with
  | some m=>known&&re&&f m.ty u
  | none=>false)
 | _=>false
theorem dT (f:Int->Vl->Bool) (m:Option uC) (a b:Bool) (l:List Vl) (h:¬ l.length=1):UJ f m a b l=false:=by
 match l,h with
 | [],_=>rfl
 | [_],h=>exact absurd rfl h
 | _ :: _ :: _,_=>rfl
theorem gV (f:Int->Vl->Bool) (m:Option uC) (b:Bool) (l:List Vl):UJ f m false b l=false:=by
 match l with
 | []=>rfl
 | [_]=>cases m <;> rfl
 | _ :: _ :: _=>rfl
theorem M8 (f:Int->Vl->Bool) (m:Option uC) (a:Bool) (l:List Vl):UJ f m a false l=false:=by
 match l with
 | []=>rfl
 | [_]=>cases m <;> cases a <;> rfl
 | _ :: _ :: _=>rfl
def ST (f:Int->Vl->Bool) (x:dA) (v:Vl):Bool :=
 if x.kind=1 then true
 else if x.kind=2 then decide (x.low<=v.i)&&decide (v.i<=x.high)
 else if x.kind=3 then decide ((v.s.size:Int)<=x.max)
 else if x.kind=4 then decide (0<=xG x.syms v.id)
 else if x.kind=5 then decide (v.items.length=x.mems.length)&&v.rest.isEmpty&&IH f x.mems v.items
 else if x.kind=6 then UJ f x.mems[(QB x.mems v.id).toNat]? (decide (0<=QB x.mems v.id)) v.rest.isEmpty v.items
 else if x.kind=7 then decide ((v.items.length:Int)<=x.max)&&v.items.all (f x.elem)
 else if x.kind=8 then decide ((v.keys.length:Int)<=x.max)&&decide (v.items.length=v.keys.length)&&v.keys.all (f x.key)&&NM v.keys&&v.items.all (f x.elem)
 else decide (v.items.length<=1)&&v.items.all (f x.elem)
def gG (S:List dA):Nat->Int->Vl->Bool
 | 0,_,_=>false
 | n + 1,t,v=>!cB S.length t&&(match S[t.toNat]? with
  | some x=>decide (v.kind=x.kind)&&rE v&&ST (gG S n) x v
  | none=>false)
mutual
/-- numbers that occur -/
def Vl.i64:Vl->Prop
 | .mk _ _ i _ _ _ ks _ xs _ _=>lS i/\Vl.i64s ks/\Vl.i64s xs
def Vl.i64s:List Vl->Prop
 | []=>True
 | v :: r=>Vl.i64 v/\Vl.i64s r
end
theorem Vl.i64s_iff:∀ l:List Vl,Vl.i64s l ↔ ∀ v∈l,v.i64
 | []=>by simp [Vl.i64s]
 | v :: r=>by simp [Vl.i64s,Vl.i64s_iff r]
theorem Vl.i64_def (v:Vl):v.i64 ↔ lS v.i/\(∀ x∈v.keys,x.i64)/\∀ x∈v.items,x.i64:=by
 cases v;rw [Vl.i64,Vl.i64s_iff,Vl.i64s_iff];rfl
section
variable (sn:Bool) (S:List dA) (t:Int) (f:Vl->Bool)
abbrev ND (sn:Bool) (S:List dA):AV:=.agg [.sl sn (S.map rA)]
theorem each1_ev (v:Vl) (h:fA 227 [ND sn S,.int .i64 t,.agg (zA v),.bool true] (.bool (f v))):fA 258 [.agg (zA v),.bp [.sl sn (S.map rA)],.bp [.int .i64 t],.bp [.bool true]] (.bool (!f v)):=by
 refine wA (c:=lI) rfl rfl ?_;simp only [fA,uA] at h ⊢;simp [lI,-V,-y3,-y0,J,h]
theorem any_not {α:Type} (f:α->Bool) (l:List α):(!l.any fun x=>!f x)=l.all f:=by
 induction l with
 | nil=>rfl
 | cons x r ih=>simp only [List.any_cons,List.all_cons,Bool.not_or,Bool.not_not,ih]
theorem qW (l:List Vl) (hl:l.length<=9223372036854775807) (b:Bool) (h:∀ v∈l,fA 227 [ND sn S,.int .i64 t,.agg (zA v),.bool true] (.bool (f v))):fA 240 [ND sn S,.int .i64 t,.sl b (l.map zA),.bool true] (.bool (l.all f)):=by
 have hi:=T2 258 [.bp [.sl sn (S.map rA)],.bp [.int .i64 t],.bp [.bool true]] l (fun v=>!f v) hl (fun _ _=>rfl) (fun v hv=>each1_ev sn S t f v (h v hv)) b;have hc:fA 257 [.sl b (l.map zA),.fn 258 [.bp [.sl sn (S.map rA)],.bp [.int .i64 t],.bp [.bool true]]] (.bool (decide (0<=IB (fun v=>!f v) l))):=by
  refine wA (c:=lC) rfl rfl ?_;simp only [fA] at hi;simp [lC,-V,-y3,-y0,J,hi]
 rw [<- any_not,<- NW];refine wA (c:=mL) rfl rfl ?_;simp only [fA] at hc;simp [mL,-V,-y3,-y0,J,hc]
theorem C1 (l:List Vl) (hl:l.length<=9223372036854775807) (b:Bool) (h:∀ v∈l,fA 151 [ND sn S,.int .i64 t,.agg (zA v),.bool true] (.bool (f v))):fA 185 [ND sn S,.int .i64 t,.sl b (l.map zA),.bool true] (.bool (l.all f)):=by
 refine wA (c:=KM) rfl rfl ?_;simp [KM,-V,-y3,-y0,J];refine lA l.length (fun i s=>(s.env 1).v=.int .i64 t/\(s.env 2).v=.sl b (l.map zA)/\(s.env 3).v=.bool true/\(s.env 4).v=.ptr 4 1 0/\s.mem 4 1=some [⟨.sl sn (S.map rA),.no⟩]/\(s.env 9).v=.int .i64 i/\(l.drop i).all f=l.all f)
  (fun e s=>(e=.exit 0/\l.all f=true)\/(e=.ret/\l.all f=false/\(s.env 8).v=.bool false)) (fun i hi s k h' ih hk=>?_) _ _ ?_ (fun e s h=>?_)
 ·obtain ⟨e1,e2,e3,e4,m4,e9,hs⟩:=h';refine tA ?_;by_cases fa:i<l.length
  ·have ga:(i:Int)<l.length:=by omega
   have g1:(l.map zA)[i]?=some (zA l[i]):=by simp [fa]
   have hw:=ZA (i:=i);have hx:=h l[i] (y6 _);rw [y9 fa,List.all_cons] at hs;generalize l[i]=x at *
   simp only [fA,uA] at g1 hx;cases hp:f x with
   | true =>
    rw [hp] at hx hs;simp [rJ,-V,-y3,-y0,J,e1,e2,e3,e4,m4,e9,ga,g1,hx,hw];refine ih fa _ ⟨?_,?_,?_,?_,?_,?_,by simpa using hs⟩ <;> simp [e1,e2,e3,e4,m4]
   | false =>
    rw [hp] at hx hs;simp [rJ,-V,-y3,-y0,J,e1,e2,e3,e4,m4,e9,ga,g1,hx];exact hk _ _ (.inr ⟨rfl,by rw [<- hs]; rfl,by simp⟩)
  ·have ga:¬ (i:Int)<l.length:=by omega
   simp [rJ,-V,-y3,-y0,J,e2,e9,ga];rw [ye (by omega)] at hs;exact hk _ _ (.inl ⟨rfl,hs.symm⟩)
 ·simp
 ·rcases h with ⟨rfl,h1⟩ | ⟨rfl,h1,h2⟩
  ·simp [-V,-y3,-y0,J,h1]
  ·simp [-V,-y3,-y0,J,h1,h2]
end
end
end Go.Proofs.YtbnlmgncbgaepaaGreat
