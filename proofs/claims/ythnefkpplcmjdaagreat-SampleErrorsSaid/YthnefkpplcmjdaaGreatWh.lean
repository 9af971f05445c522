/- A part of the proof. -/
import Derived.Test.YthnefkpplcmjdaaGreatWg
import Derived.Lib.Zigzag
set_option linter.all false
set_option maxRecDepth 100000
set_option maxHeartbeats 8000000
open Option renaming bind_some → J
open List renaming range_succ → y0, map_map → y3, getElem_mem → y8, drop_eq_getElem_cons → yc, drop_eq_nil_of_le → yf
open Int renaming toNat_lt → y4
namespace Go.Proofs.YthnefkpplcmjdaaGreat
open Go
def E1 (n:Int):Int:=if 0<=n then 2*n else -2*n-1
def LI (n:Int):Prop:=-9223372036854775808<=n/\n<=9223372036854775807
theorem uG (n:Int)(h:0<=n/\n<18446744073709551616):IntKind.u64.wrap n=n:=by
 simp only[IntKind.wrap,IntKind.bits,IntKind.signed];simp;omega
theorem Ay (a b c:Int)(h:((BitVec.ofInt 64 a ^^^ BitVec.ofInt 64 b).toNat:Int)=c)(hc:0<=c/\c<18446744073709551616):NK .xor false (.int .u64 a) (.int .u64 b)=some (.int .u64 c):=by
 have:NK .xor false (.int .u64 a) (.int .u64 b)=some (.int .u64 (IntKind.u64.wrap ((BitVec.ofInt 64 a ^^^ BitVec.ofInt 64 b).toNat:Int))):=rfl;rw[this,h,uG _ hc]
theorem Lt (a c:Int)(h:IntKind.u64.wrap (a*2)=c):NK .shl false (.int .u64 a) (.int .u64 1)=some (.int .u64 c):=by
 have:NK .shl false (.int .u64 a) (.int .u64 1)=some (.int .u64 (IntKind.u64.wrap (a*2))):=rfl;rw[this,h]
theorem Xk (a c:Int)(h:a.fdiv 9223372036854775808=c):NK .shr false (.int .i64 a) (.int .u64 63)=some (.int .i64 c):=by
 have:NK .shr false (.int .i64 a) (.int .u64 63)=some (.int .i64 (a.fdiv 9223372036854775808)):=rfl;rw[this,h]
theorem Pw (n:Int)(h:LI n):IC 103 [.int .i64 n] (.int .u64 (E1 n)):=by
 refine mC (c:=xI) rfl rfl ?_;obtain⟨h1,h2⟩:=h;unfold E1;by_cases h0:0<=n
 ·have w1:IntKind.u64.wrap n=n:=uG _ (by omega);have w2:=Lt n (2*n) (by rw[uG _ (by omega)];omega);have w3:=Xk n 0 (by rw[Int.fdiv_eq_ediv_of_nonneg _ (by omega)];omega);have w4:IntKind.u64.wrap 0=0:=uG _ (by omega);have w5:=Ay (2*n) 0 (2*n) (by rw[show BitVec.ofInt 64 0=0#64 from rfl,BitVec.xor_zero,BitVec.toNat_ofInt];omega) (by omega);simp[xI,-J,-y4,-y3,y0,-NK,w1,w2,w3,w4,w5,h0]
 ·have w1:IntKind.u64.wrap n=n+18446744073709551616:=by
   simp only[IntKind.wrap,IntKind.bits,IntKind.signed];simp;omega
  have w2:=Lt (n+18446744073709551616) (2*n+18446744073709551616) (by
   simp only[IntKind.wrap,IntKind.bits,IntKind.signed];simp;omega)
  have w3:=Xk n (-1) (by rw[Int.fdiv_eq_ediv_of_nonneg _ (by omega)];omega);have w4:IntKind.u64.wrap (-1)=18446744073709551615:=by decide +kernel
  have w5:=Ay (2*n+18446744073709551616) 18446744073709551615 (-2*n-1) (by
   rw[show BitVec.ofInt 64 18446744073709551615=BitVec.allOnes 64 from by decide +kernel,BitVec.xor_allOnes,BitVec.toNat_not,BitVec.toNat_ofInt];omega) (by omega)
  simp[xI,-J,-y4,-y3,y0,-NK,w1,w2,w3,w4,w5,h0]
theorem j6 (n:Int)(h:LI n):IC 213 [.int .i64 n] (.int .u64 (E1 n)):=by
 refine mC (c:=wJ) rfl rfl ?_;obtain⟨h1,h2⟩:=h;unfold E1;by_cases h0:0<=n
 ·have w1:IntKind.u64.wrap n=n:=uG _ (by omega);have w2:IntKind.u64.wrap (2*n)=2*n:=uG _ (by omega);simp[wJ,-J,-y4,-y3,y0,h0,w1,w2]
 ·have w1:IntKind.i64.wrap (n + 1)=n + 1:=IntWalk.i64_in _ (by omega);have w2:IntKind.i64.wrap (0 - (n + 1))=-n - 1:=by rw [IntWalk.i64_in _ (by omega)]; omega
  have w2':IntKind.i64.wrap (-(n+1))=-n-1:=by rw[IntWalk.i64_in _ (by omega)];omega
  have w3:IntKind.u64.wrap (-n-1)=-n-1:=uG _ (by omega);have w4:IntKind.u64.wrap (2*(-n-1))=-2*n-2:=by rw[uG _ (by omega)];omega
  have w5:IntKind.u64.wrap (-2*n-2+1)=-2*n-1:=by rw[uG _ (by omega)];omega
  have w6:IntKind.u64.wrap (-(2*n)-2+1)=-(2*n)-1:=by rw[uG _ (by omega)];omega
  simp[wJ,-J,-y4,-y3,y0,h0,w1,w2,w2',w3,w4,w5,w6]
def iQ (a b:Int):Int:=if a<b then -1 else if b<a then 1 else 0
def fO (a b:ByteArray):Bool:=Op.bytesLess a.toList b.toList
def s7 (a b:ByteArray):Int:=if a.size<b.size then -1 else if b.size<a.size then 1 else if a=b then 0 else if fO a b=true then -1 else 1
def KT (a b:Vl):Int :=
 if a.kind≠b.kind then 0
 else if a.kind=1 then(if a.b=b.b then 0 else if b.b=true then -1 else 1)
 else if a.kind=2 then iQ (E1 a.i) (E1 b.i)
 else if a.kind=3 then s7 a.s b.s
 else if a.kind=4 then iQ a.id b.id
 else 0
theorem Fj (l e:Bool):IC 251 [.bool l,.bool e] (.int .i64 (if e=true then 0 else if l=true then -1 else 1)):=by
 refine mC (c:=bM) rfl rfl ?_;cases l<;>cases e<;>simp[bM,-J,-y4,-y3,y0]
theorem nan_u (n:Int):IC 165 [.int .u64 n] (.bool false):=by
 refine mC (c:=tI) rfl rfl ?_;simp[tI,-J,-y4,-y3,y0]
theorem nan_i (n:Int):IC 127 [.int .i64 n] (.bool false):=by
 refine mC (c:=iK) rfl rfl ?_;simp[iK,-J,-y4,-y3,y0]
theorem nan_s (s:ByteArray):IC 128 [.str s] (.bool false):=by
 refine mC (c:=rI) rfl rfl ?_;simp[rI,-J,-y4,-y3,y0]
theorem Uc (a b:Int):IC 102 [.int .u64 a,.int .u64 b] (.int .i64 (iQ a b)):=by
 have h1:=nan_u a;have h2:=nan_u b;simp only[IC]at h1 h2;refine mC (c:=aG) rfl rfl ?_;unfold iQ;by_cases c1:a<b
 ·simp[aG,-J,-y4,-y3,y0,h1,h2,c1]
 ·by_cases c2:b<a<;>simp[aG,-J,-y4,-y3,y0,h1,h2,c1,c2]
theorem j5 (a b:Int):IC 70 [.int .i64 a,.int .i64 b] (.int .i64 (iQ a b)):=by
 have h1:=nan_i a;have h2:=nan_i b;simp only[IC]at h1 h2;refine mC (c:=gH) rfl rfl ?_;unfold iQ;by_cases c1:a<b
 ·simp[gH,-J,-y4,-y3,y0,h1,h2,c1]
 ·by_cases c2:b<a<;>simp[gH,-J,-y4,-y3,y0,h1,h2,c1,c2]
theorem sZ:∀a:List UInt8,Op.bytesLess a a=false
 | []=>rfl
 |x::r=>by simp[Op.bytesLess,sZ r]
def Jd (a b:ByteArray):Int:=if fO a b=true then -1 else if a=b then 0 else 1
theorem Tc (a b:ByteArray):IC 71 [.str a,.str b] (.int .i64 (Jd a b)):=by
 have h1:=nan_s a;have h2:=nan_s b;simp only[IC]at h1 h2;refine mC (c:=lF) rfl rfl ?_;unfold Jd fO;cases c1:Op.bytesLess a.toList b.toList with
 |true=>simp[lF,-J,-y4,-y3,y0,h1,h2,c1]
 |false =>
  by_cases c2:a=b
  ·subst c2;simp[lF,-J,-y4,-y3,y0,h1,c1]
  ·simp[lF,-J,-y4,-y3,y0,h1,h2,c1,c2]
theorem or_ev (a b:Int):IC 69 [.sl false [[.int .i64 a],[.int .i64 b]]] (.int .i64 (if a≠0 then a else b)):=by
 obtain⟨r0,hr⟩:∃r0,r0=if a≠0 then a else b:=⟨_,rfl⟩
 rw[<- hr];refine mC (c:=lN) rfl rfl ?_;have w1:IntKind.i64.wrap 1=1:=by decide +kernel
 have w2:IntKind.i64.wrap 2=2:=by decide +kernel
 simp[lN,-J,-y4,-y3,y0];refine ZC 2 (fun i s=>(s.env 3).v=.int .i64 0/\(s.env 6).v=.sl false [[.int .i64 a],[.int .i64 b]]/\(s.env 7).v=.int .i64 2/\(s.env 8).v=.int .i64 i/\(0<i->a=0)/\(1<i->b=0))
  (fun e s=>(e=.exit 0/\a=0/\b=0/\(s.env 3).v=.int .i64 0)\/(e=.ret/\(s.env 2).v=.int .i64 r0)) (fun i hi s k h ih hk=>?_) _ _ ?_ (fun e s h=>?_)
 ·obtain ⟨e3,e6,e7,e8,ha,hb⟩:=h;refine EC ?_
  match i,hi with
  |0,_ =>
   by_cases h0:a=0
   ·simp[uH,-J,-y4,-y3,y0,e3,e6,e7,e8,h0,w1];refine ih (by omega) _ ⟨?_,?_,?_,?_,?_,?_⟩<;>simp[e3,e6,e7,h0]
   ·simp[uH,-J,-y4,-y3,y0,e3,e6,e7,e8,h0];exact hk _ _ (.inr ⟨rfl,by simp[hr,h0]⟩)
  |1,_ =>
   have ha:=ha (by omega);by_cases h0:b=0
   ·simp[uH,-J,-y4,-y3,y0,e3,e6,e7,e8,h0,w2];refine ih (by omega) _ ⟨?_,?_,?_,?_,?_,?_⟩<;>simp[e3,e6,e7,h0,ha]
   ·simp[uH,-J,-y4,-y3,y0,e3,e6,e7,e8,h0];exact hk _ _ (.inr ⟨rfl,by simp[hr,ha]⟩)
  |2,_ =>
   simp[uH,-J,-y4,-y3,y0,e3,e6,e7,e8];exact hk _ _ (.inl ⟨rfl,ha (by omega),hb (by omega),by simp[e3]⟩)
 ·simp
 ·rcases h with ⟨rfl,h1,h2,h3⟩ | ⟨rfl,h1⟩
  ·simp[-J,-y4,-y3,y0,hr,h1,h2,h3]
  ·simp[-J,-y4,-y3,y0,h1]
theorem Rc (a b:ByteArray):(if iQ a.size b.size≠0 then iQ a.size b.size else Jd a b)=s7 a b:=by
 unfold s7 iQ Jd;by_cases h1:a.size<b.size
 ·have th:(a.size:Int)<b.size:=by omega
  simp[h1,th]
 ·have th:¬ (a.size:Int)<b.size:=by omega
  by_cases h2:b.size<a.size
  ·have di:(b.size:Int)<a.size:=by omega
   simp[h1,th,h2,di]
  ·have di:¬ (b.size:Int)<a.size:=by omega
   simp only[h1,th,h2,di,if_false,ne_eq,not_true_eq_false];by_cases h3:a=b
   ·subst h3;simp[fO,sZ]
   ·simp[h3]
theorem Oy (a b:Vl)(ha:LI a.i)(hb:LI b.i):IC 61 [.agg (TC a),.agg (TC b)] (.int .i64 (KT a b)):=by
 refine mC (c:=GE) rfl rfl ?_;have z1:=Pw a.i ha;have z2:=Pw b.i hb;have q1:=Uc (E1 a.i) (E1 b.i);have q2:=j5 a.s.size b.s.size;have q3:=Tc a.s b.s;have q4:=j5 a.id b.id;have q5:=or_ev (iQ a.s.size b.s.size) (Jd a.s b.s);rw[Rc]at q5;simp only[IC]at z1 z2 q1 q2 q3 q4 q5;rw[nC,nC];unfold KT;by_cases h0:a.kind=b.kind
 ·rw [h0];by_cases h1:b.kind=1
  ·by_cases h2:a.b=b.b
   ·simp[GE,-J,-y4,-y3,y0,h1,h2]
   ·cases h3:b.b<;>rw[h3]at h2<;>simp at h2<;>simp[GE,-J,-y4,-y3,y0,h1,h2,h3]
  ·by_cases h2:b.kind=2
   ·simp[GE,-J,-y4,-y3,y0,h2,z1,z2,q1]
   ·by_cases h3:b.kind=3
    ·simp[GE,-J,-y4,-y3,y0,h3,q2,q3,q5]
    ·by_cases h4:b.kind=4
     ·simp[GE,-J,-y4,-y3,y0,h4,q4]
     ·simp[GE,-J,-y4,-y3,y0,h1,h2,h3,h4]
 ·simp[GE,-J,-y4,-y3,y0,h0]
theorem zig_inj {a b:Int}(h:E1 a=E1 b):a=b:=by
 unfold E1 at h;split at h<;>split at h<;>omega
theorem Fk (a b:Vl)(ha:LI a.i)(hb:LI b.i):IC 226 [.agg (TC a),.agg (TC b)] (.int .i64 (KT a b)):=by
 refine mC (c:=fD) rfl rfl ?_;have z1:=j6 a.i ha;have z2:=j6 b.i hb;have q1:=fun l e=>Fj l e
 simp only[IC]at z1 z2 q1;rw[nC,nC];unfold KT;by_cases h0:a.kind=b.kind
 ·rw [h0];by_cases h1:b.kind=1
  ·by_cases h2:a.b=b.b
   ·simp[fD,-J,-y4,-y3,y0,h1,h2,q1]
   ·cases h3:b.b<;>rw[h3]at h2<;>simp at h2<;>simp[fD,-J,-y4,-y3,y0,h1,h2,h3,q1]
  ·by_cases h2:b.kind=2
   ·by_cases h5:a.i=b.i
    ·simp[fD,-J,-y4,-y3,y0,h2,h5,z2,q1,iQ]
    ·have h6:E1 a.i≠E1 b.i:=fun h=>h5 (zig_inj h)
     by_cases h7:E1 a.i<E1 b.i
     ·simp[fD,-J,-y4,-y3,y0,h2,h5,z1,z2,q1,iQ,h7]
     ·have h8:E1 b.i<E1 a.i:=by omega
      simp[fD,-J,-y4,-y3,y0,h2,h5,z1,z2,q1,iQ,h7,h8]
   ·by_cases h3:b.kind=3
    ·by_cases h5:a.s.size=b.s.size
     ·have h6:¬ (a.s.size:Int)≠b.s.size:=by omega
      by_cases h7:a.s=b.s
      ·simp[fD,-J,-y4,-y3,y0,h3,h7,q1,s7]
      ·cases h8:fO a.s b.s with
       |true =>
        have h9:=h8;unfold fO at h9;simp[fD,-J,-y4,-y3,y0,h3,h5,h6,h7,q1,s7,h8,h9]
       |false =>
        have h9:=h8;unfold fO at h9;simp[fD,-J,-y4,-y3,y0,h3,h5,h6,h7,q1,s7,h8,h9]
     ·have h6:¬ (a.s.size:Int)=b.s.size:=by omega
      by_cases h7:a.s.size<b.s.size
      ·have h8:(a.s.size:Int)<b.s.size:=by omega
       simp[fD,-J,-y4,-y3,y0,h3,h6,h7,h8,q1,s7]
      ·have h8:¬ (a.s.size:Int)<b.s.size:=by omega
       have h9:b.s.size<a.s.size:=by omega
       simp[fD,-J,-y4,-y3,y0,h3,h6,h7,h8,h9,q1,s7]
    ·by_cases h4:b.kind=4
     ·by_cases h5:a.id=b.id
      ·simp[fD,-J,-y4,-y3,y0,h4,h5,q1,iQ]
      ·by_cases h7:a.id<b.id
       ·simp[fD,-J,-y4,-y3,y0,h4,h5,h7,q1,iQ]
       ·have h8:b.id<a.id:=by omega
        simp[fD,-J,-y4,-y3,y0,h4,h5,h7,h8,q1,iQ]
     ·simp[fD,-J,-y4,-y3,y0,h1,h2,h3,h4]
 ·simp[fD,-J,-y4,-y3,y0,h0]
section
def eN:List Vl->Bool
 | []=>true
 | [_]=>true
 |a::b::r=>decide (KT a b<0)&&eN (b::r)
def nG (f:Int->Vl->Bool):List RE->List Vl->Bool
 |m::r,v::q=>f m.ty v&&nG f r q
 |_,_=>true
def CG (f:Int->Vl->Bool)(m:Option RE)(known re:Bool):List Vl->Bool
 | [u]=>(match m with
  |some m=>known&&re&&f m.ty u
  |none=>false)
 |_=>false
theorem lV (f:Int->Vl->Bool)(m:Option RE)(a b:Bool)(l:List Vl)(h:¬l.length=1):CG f m a b l=false:=by
 match l,h with
 | [],_=>rfl
 | [_],h=>exact absurd rfl h
 |_::_::_,_=>rfl
theorem gX (f:Int->Vl->Bool)(m:Option RE)(b:Bool)(l:List Vl):CG f m false b l=false:=by
 match l with
 | []=>rfl
 | [_]=>cases m<;>rfl
 |_::_::_=>rfl
theorem f9 (f:Int->Vl->Bool)(m:Option RE)(a:Bool)(l:List Vl):CG f m a false l=false:=by
 match l with
 | []=>rfl
 | [_]=>cases m<;>cases a<;>rfl
 |_::_::_=>rfl
def aO (f:Int->Vl->Bool)(x:BC)(v:Vl):Bool :=
 if x.kind=1 then true
 else if x.kind=2 then decide (x.low<=v.i)&&decide (v.i<=x.high)
 else if x.kind=3 then decide ((v.s.size:Int)<=x.max)
 else if x.kind=4 then decide (0<=ZP x.tA v.id)
 else if x.kind=5 then decide (v.items.length=x.qA.length)&&v.rest.isEmpty&&nG f x.qA v.items
 else if x.kind=6 then CG f x.qA[(dE x.qA v.id).toNat]? (decide (0<=dE x.qA v.id)) v.rest.isEmpty v.items
 else if x.kind=7 then decide ((v.items.length:Int)<=x.max)&&v.items.all (f x.elem)
 else if x.kind=8 then decide ((v.keys.length:Int)<=x.max)&&decide (v.items.length=v.keys.length)&&v.keys.all (f x.key)&&eN v.keys&&v.items.all (f x.elem)
 else decide (v.items.length<=1)&&v.items.all (f x.elem)
def EF (S:List BC):Nat->Int->Vl->Bool
 |0,_,_=>false
 |n+1,t,v=>!mD S.length t&&(match S[t.toNat]? with
  |some x=>decide (v.kind=x.kind)&&WF v&&aO (EF S n) x v
  |none=>false)
mutual
/-- numbers that occur -/
def Vl.i64:Vl->Prop
 |.mk _ _ i _ _ _ ks _ xs _ _=>LI i/\Vl.KB ks/\Vl.KB xs
def Vl.KB:List Vl->Prop
 | []=>True
 |v::r=>Vl.i64 v/\Vl.KB r
end
theorem Vl.HB:∀l:List Vl,Vl.KB l ↔ ∀v∈l,v.i64
 | []=>by simp[Vl.KB]
 |v::r=>by simp[Vl.KB,Vl.HB r]
theorem Vl.KA (v:Vl):v.i64↔LI v.i/\(∀x∈v.keys,x.i64)/\∀x∈v.items,x.i64:=by
 cases v;rw[Vl.i64,Vl.HB,Vl.HB];rfl
section
variable (sn:Bool) (S:List BC) (t:Int) (f:Vl->Bool)
abbrev MD (sn:Bool)(S:List BC):AV:=.agg [.sl sn (S.map QC)]
theorem Wf (v:Vl)(h:IC 63 [MD sn S,.int .i64 t,.agg (TC v),.bool true] (.bool (f v))):IC 173 [.agg (TC v),.bp [.sl sn (S.map QC)],.bp [.int .i64 t],.bp [.bool true]] (.bool (!f v)):=by
 refine mC (c:=pH) rfl rfl ?_;simp only[IC,nC]at h ⊢;simp[pH,-J,-y4,-y3,y0,h]
theorem Hz {α:Type}(f:α->Bool)(l:List α):(!l.any fun x=>!f x)=l.all f:=by
 induction l with
 |nil=>rfl
 |cons x r ih=>simp only[List.any_cons,List.all_cons,Bool.not_or,Bool.not_not,ih]
theorem tY (l:List Vl)(hl:l.length<=9223372036854775807)(b:Bool)(h:∀v∈l,IC 63 [MD sn S,.int .i64 t,.agg (TC v),.bool true] (.bool (f v))):IC 110 [MD sn S,.int .i64 t,.sl b (l.map TC),.bool true] (.bool (l.all f)):=by
 have hi:=mU 173 [.bp [.sl sn (S.map QC)],.bp [.int .i64 t],.bp [.bool true]] l (fun v=>!f v) hl (fun _ _=>rfl) (fun v hv=>Wf sn S t f v (h v hv)) b;have hc:IC 172 [.sl b (l.map TC),.fn 173 [.bp [.sl sn (S.map QC)],.bp [.int .i64 t],.bp [.bool true]]] (.bool (decide (0<=kE (fun v=>!f v) l))):=by
  refine mC (c:=WD) rfl rfl ?_;simp only[IC]at hi;simp[WD,-J,-y4,-y3,y0,hi]
 rw[<- Hz,<- CM];refine mC (c:=IJ) rfl rfl ?_;simp only[IC]at hc;simp[IJ,-J,-y4,-y3,y0,hc]
theorem r5 (l:List Vl)(hl:l.length<=9223372036854775807)(b:Bool)(h:∀v∈l,IC 161 [MD sn S,.int .i64 t,.agg (TC v),.bool true] (.bool (f v))):IC 225 [MD sn S,.int .i64 t,.sl b (l.map TC),.bool true] (.bool (l.all f)):=by
 refine mC (c:=CO) rfl rfl ?_;simp[CO,-J,-y4,-y3,y0];refine ZC l.length (fun i s=>(s.env 1).v=.int .i64 t/\(s.env 2).v=.sl b (l.map TC)/\(s.env 3).v=.bool true/\(s.env 4).v=.ptr 4 1 0/\s.mem 4 1=some [⟨.sl sn (S.map QC),.no⟩]/\(s.env 9).v=.int .i64 i/\(l.drop i).all f=l.all f)
  (fun e s=>(e=.exit 0/\l.all f=true)\/(e=.ret/\l.all f=false/\(s.env 8).v=.bool false)) (fun i hi s k h' ih hk=>?_) _ _ ?_ (fun e s h=>?_)
 ·obtain ⟨e1,e2,e3,e4,m4,e9,hs⟩:=h';refine EC ?_;by_cases fa:i<l.length
  ·have ga:(i:Int)<l.length:=by omega
   have g1:(l.map TC)[i]?=some (TC l[i]):=by simp[fa]
   have hw:=cD (i:=i);have hx:=h l[i] (y8 _);rw[yc fa,List.all_cons]at hs;generalize l[i]=x at *
   simp only[IC,nC]at g1 hx;cases hp:f x with
   |true =>
    rw[hp]at hx hs;simp[tL,-J,-y4,-y3,y0,e1,e2,e3,e4,m4,e9,ga,g1,hx,hw];refine ih fa _ ⟨?_,?_,?_,?_,?_,?_,by simpa using hs⟩<;>simp[e1,e2,e3,e4,m4]
   |false =>
    rw[hp]at hx hs;simp[tL,-J,-y4,-y3,y0,e1,e2,e3,e4,m4,e9,ga,g1,hx];exact hk _ _ (.inr ⟨rfl,by rw[<- hs];rfl,by simp⟩)
  ·have ga:¬ (i:Int)<l.length:=by omega
   simp[tL,-J,-y4,-y3,y0,e2,e9,ga];rw[yf (by omega)]at hs;exact hk _ _ (.inl ⟨rfl,hs.symm⟩)
 ·simp
 ·rcases h with ⟨rfl,h1⟩ | ⟨rfl,h1,h2⟩
  ·simp[-J,-y4,-y3,y0,h1]
  ·simp[-J,-y4,-y3,y0,h1,h2]
end
end
end Go.Proofs.YthnefkpplcmjdaaGreat
