/- A part of the proof. -/
import Derived.Test.YtbhbeakhognieaaGreatWg
import Derived.Lib.Zigzag
set_option linter.all false
set_option maxRecDepth 100000
set_option maxHeartbeats 8000000
open Option renaming bind_some → J
open List renaming range_succ → y0, map_map → y3, getElem_mem → y8, drop_eq_getElem_cons → yb, drop_eq_nil_of_le → yk
open Int renaming toNat_lt → y4
namespace Go.Proofs.YtbhbeakhognieaaGreat
open Go
def dZ (n:Int):Int:=if 0<=n then 2 * n else -2 * n - 1
def zH (n:Int):Prop:=-9223372036854775808<=n/\n<=9223372036854775807
theorem GF (n:Int) (h:0<=n/\n<18446744073709551616):IntKind.u64.wrap n=n:=by
 simp only [IntKind.wrap,IntKind.bits,IntKind.signed];simp;omega
theorem xor_u64 (a b c:Int) (h:((BitVec.ofInt 64 a ^^^ BitVec.ofInt 64 b).toNat:Int)=c) (hc:0<=c/\c<18446744073709551616):FT .xor false (.int .u64 a) (.int .u64 b)=some (.int .u64 c):=by
 have:FT .xor false (.int .u64 a) (.int .u64 b)=some (.int .u64 (IntKind.u64.wrap ((BitVec.ofInt 64 a ^^^ BitVec.ofInt 64 b).toNat:Int))):=rfl;rw [this,h,GF _ hc]
theorem shl_u64 (a c:Int) (h:IntKind.u64.wrap (a * 2)=c):FT .shl false (.int .u64 a) (.int .u64 1)=some (.int .u64 c):=by
 have:FT .shl false (.int .u64 a) (.int .u64 1)=some (.int .u64 (IntKind.u64.wrap (a * 2))):=rfl;rw [this,h]
theorem shr_63 (a c:Int) (h:a.fdiv 9223372036854775808=c):FT .shr false (.int .i64 a) (.int .u64 63)=some (.int .i64 c):=by
 have:FT .shr false (.int .i64 a) (.int .u64 63)=some (.int .i64 (a.fdiv 9223372036854775808)):=rfl;rw [this,h]
theorem zig_ev (n:Int) (h:zH n):gA 224 [.int .i64 n] (.int .u64 (dZ n)):=by
 refine rA (c:=lG) rfl rfl ?_;obtain ⟨h1,h2⟩:=h;unfold dZ;by_cases h0:0<=n
 ·have w1:IntKind.u64.wrap n=n:=GF _ (by omega);have w2:=shl_u64 n (2 * n) (by rw [GF _ (by omega)]; omega);have w3:=shr_63 n 0 (by rw [Int.fdiv_eq_ediv_of_nonneg _ (by omega)]; omega);have w4:IntKind.u64.wrap 0=0:=GF _ (by omega);have w5:=xor_u64 (2 * n) 0 (2 * n) (by rw [show BitVec.ofInt 64 0=0#64 from rfl,BitVec.xor_zero,BitVec.toNat_ofInt]; omega) (by omega);simp [lG,-J,-y4,-y3,y0,-FT,w1,w2,w3,w4,w5,h0]
 ·have w1:IntKind.u64.wrap n=n + 18446744073709551616:=by
   simp only [IntKind.wrap,IntKind.bits,IntKind.signed];simp;omega
  have w2:=shl_u64 (n + 18446744073709551616) (2 * n + 18446744073709551616) (by
   simp only [IntKind.wrap,IntKind.bits,IntKind.signed];simp;omega)
  have w3:=shr_63 n (-1) (by rw [Int.fdiv_eq_ediv_of_nonneg _ (by omega)]; omega);have w4:IntKind.u64.wrap (-1)=18446744073709551615:=by decide +kernel
  have w5:=xor_u64 (2 * n + 18446744073709551616) 18446744073709551615 (-2 * n - 1) (by
   rw [show BitVec.ofInt 64 18446744073709551615=BitVec.allOnes 64 from by decide +kernel,BitVec.xor_allOnes,BitVec.toNat_not,BitVec.toNat_ofInt];omega) (by omega)
  simp [lG,-J,-y4,-y3,y0,-FT,w1,w2,w3,w4,w5,h0]
theorem d5 (n:Int) (h:zH n):gA 174 [.int .i64 n] (.int .u64 (dZ n)):=by
 refine rA (c:=NG) rfl rfl ?_;obtain ⟨h1,h2⟩:=h;unfold dZ;by_cases h0:0<=n
 ·have w1:IntKind.u64.wrap n=n:=GF _ (by omega);have w2:IntKind.u64.wrap (2 * n)=2 * n:=GF _ (by omega);simp [NG,-J,-y4,-y3,y0,h0,w1,w2]
 ·have w1:IntKind.i64.wrap (n + 1)=n + 1:=IntWalk.i64_in _ (by omega);have w2:IntKind.i64.wrap (0 - (n + 1))=-n - 1:=by rw [IntWalk.i64_in _ (by omega)]; omega
  have w2':IntKind.i64.wrap (-(n + 1))=-n - 1:=by rw [IntWalk.i64_in _ (by omega)]; omega
  have w3:IntKind.u64.wrap (-n - 1)=-n - 1:=GF _ (by omega);have w4:IntKind.u64.wrap (2 * (-n - 1))=-2 * n - 2:=by rw [GF _ (by omega)]; omega
  have w5:IntKind.u64.wrap (-2 * n - 2 + 1)=-2 * n - 1:=by rw [GF _ (by omega)]; omega
  have w6:IntKind.u64.wrap (-(2 * n) - 2 + 1)=-(2 * n) - 1:=by rw [GF _ (by omega)]; omega
  simp [NG,-J,-y4,-y3,y0,h0,w1,w2,w2',w3,w4,w5,w6]
def xM (a b:Int):Int:=if a<b then -1 else if b<a then 1 else 0
def MQ (a b:ByteArray):Bool:=Op.bytesLess a.toList b.toList
def GT (a b:ByteArray):Int:=if a.size<b.size then -1 else if b.size<a.size then 1 else if a=b then 0 else if MQ a b=true then -1 else 1
def IJ (a b:Vl):Int :=
 if a.kind≠b.kind then 0
 else if a.kind=1 then (if a.b=b.b then 0 else if b.b=true then -1 else 1)
 else if a.kind=2 then xM (dZ a.i) (dZ b.i)
 else if a.kind=3 then GT a.s b.s
 else if a.kind=4 then xM a.id b.id
 else 0
theorem order_ev (l e:Bool):gA 173 [.bool l,.bool e] (.int .i64 (if e=true then 0 else if l=true then -1 else 1)):=by
 refine rA (c:=lK) rfl rfl ?_;cases l <;> cases e <;> simp [lK,-J,-y4,-y3,y0]
theorem nan_u (n:Int):gA 242 [.int .u64 n] (.bool false):=by
 refine rA (c:=BF) rfl rfl ?_;simp [BF,-J,-y4,-y3,y0]
theorem nan_i (n:Int):gA 150 [.int .i64 n] (.bool false):=by
 refine rA (c:=MH) rfl rfl ?_;simp [MH,-J,-y4,-y3,y0]
theorem nan_s (s:ByteArray):gA 243 [.str s] (.bool false):=by
 refine rA (c:=CF) rfl rfl ?_;simp [CF,-J,-y4,-y3,y0]
theorem cmpu_ev (a b:Int):gA 223 [.int .u64 a,.int .u64 b] (.int .i64 (xM a b)):=by
 have h1:=nan_u a;have h2:=nan_u b;simp only [gA] at h1 h2;refine rA (c:=tE) rfl rfl ?_;unfold xM;by_cases c1:a<b
 ·simp [tE,-J,-y4,-y3,y0,h1,h2,c1]
 ·by_cases c2:b<a <;> simp [tE,-J,-y4,-y3,y0,h1,h2,c1,c2]
theorem cmpi_ev (a b:Int):gA 112 [.int .i64 a,.int .i64 b] (.int .i64 (xM a b)):=by
 have h1:=nan_i a;have h2:=nan_i b;simp only [gA] at h1 h2;refine rA (c:=pF) rfl rfl ?_;unfold xM;by_cases c1:a<b
 ·simp [pF,-J,-y4,-y3,y0,h1,h2,c1]
 ·by_cases c2:b<a <;> simp [pF,-J,-y4,-y3,y0,h1,h2,c1,c2]
theorem l7:∀ a:List UInt8,Op.bytesLess a a=false
 | []=>rfl
 | x :: r=>by simp [Op.bytesLess,l7 r]
def cmpT (a b:ByteArray):Int:=if MQ a b=true then -1 else if a=b then 0 else 1
theorem cmps_ev (a b:ByteArray):gA 226 [.str a,.str b] (.int .i64 (cmpT a b)):=by
 have h1:=nan_s a;have h2:=nan_s b;simp only [gA] at h1 h2;refine rA (c:=gD) rfl rfl ?_;unfold cmpT MQ;cases c1:Op.bytesLess a.toList b.toList with
 | true=>simp [gD,-J,-y4,-y3,y0,h1,h2,c1]
 | false =>
  by_cases c2:a=b
  ·subst c2;simp [gD,-J,-y4,-y3,y0,h1,c1]
  ·simp [gD,-J,-y4,-y3,y0,h1,h2,c1,c2]
theorem or_ev (a b:Int):gA 225 [.sl false [[.int .i64 a],[.int .i64 b]]] (.int .i64 (if a≠0 then a else b)):=by
 obtain ⟨r0,hr⟩:∃ r0,r0=if a≠0 then a else b:=⟨_,rfl⟩
 rw [<- hr];refine rA (c:=fL) rfl rfl ?_;have w1:IntKind.i64.wrap 1=1:=by decide +kernel
 have w2:IntKind.i64.wrap 2=2:=by decide +kernel
 simp [fL,-J,-y4,-y3,y0];refine RA 2 (fun i s=>(s.env 3).v=.int .i64 0/\(s.env 6).v=.sl false [[.int .i64 a],[.int .i64 b]]/\(s.env 7).v=.int .i64 2/\(s.env 8).v=.int .i64 i/\(0<i->a=0)/\(1<i->b=0))
  (fun e s=>(e=.exit 0/\a=0/\b=0/\(s.env 3).v=.int .i64 0)\/(e=.ret/\(s.env 2).v=.int .i64 r0)) (fun i hi s k h ih hk=>?_) _ _ ?_ (fun e s h=>?_)
 ·obtain ⟨e3,e6,e7,e8,ha,hb⟩:=h;refine iA ?_
  match i,hi with
  | 0,_ =>
   by_cases h0:a=0
   ·simp [rF,-J,-y4,-y3,y0,e3,e6,e7,e8,h0,w1];refine ih (by omega) _ ⟨?_,?_,?_,?_,?_,?_⟩ <;> simp [e3,e6,e7,h0]
   ·simp [rF,-J,-y4,-y3,y0,e3,e6,e7,e8,h0];exact hk _ _ (.inr ⟨rfl,by simp [hr,h0]⟩)
  | 1,_ =>
   have ha:=ha (by omega);by_cases h0:b=0
   ·simp [rF,-J,-y4,-y3,y0,e3,e6,e7,e8,h0,w2];refine ih (by omega) _ ⟨?_,?_,?_,?_,?_,?_⟩ <;> simp [e3,e6,e7,h0,ha]
   ·simp [rF,-J,-y4,-y3,y0,e3,e6,e7,e8,h0];exact hk _ _ (.inr ⟨rfl,by simp [hr,ha]⟩)
  | 2,_ =>
   simp [rF,-J,-y4,-y3,y0,e3,e6,e7,e8];exact hk _ _ (.inl ⟨rfl,ha (by omega),hb (by omega),by simp [e3]⟩)
 ·simp
 ·rcases h with ⟨rfl,h1,h2,h3⟩ | ⟨rfl,h1⟩
  ·simp [-J,-y4,-y3,y0,hr,h1,h2,h3]
  ·simp [-J,-y4,-y3,y0,h1]
theorem cmpS_or (a b:ByteArray):(if xM a.size b.size≠0 then xM a.size b.size else cmpT a b)=GT a b:=by
 unfold GT xM cmpT;by_cases h1:a.size<b.size
 ·have ao:(a.size:Int)<b.size:=by omega
  simp [h1,ao]
 ·have ao:¬ (a.size:Int)<b.size:=by omega
  by_cases h2:b.size<a.size
  ·have pp:(b.size:Int)<a.size:=by omega
   simp [h1,ao,h2,pp]
  ·have pp:¬ (b.size:Int)<a.size:=by omega
   simp only [h1,ao,h2,pp,if_false,ne_eq,not_true_eq_false];by_cases h3:a=b
   ·subst h3;simp [MQ,l7]
   ·simp [h3]
theorem vcmp_ev (a b:Vl) (ha:zH a.i) (hb:zH b.i):gA 210 [.agg (fA a),.agg (fA b)] (.int .i64 (IJ a b)):=by
 refine rA (c:=PC) rfl rfl ?_;have z1:=zig_ev a.i ha;have z2:=zig_ev b.i hb;have q1:=cmpu_ev (dZ a.i) (dZ b.i);have q2:=cmpi_ev a.s.size b.s.size;have q3:=cmps_ev a.s b.s;have q4:=cmpi_ev a.id b.id;have q5:=or_ev (xM a.s.size b.s.size) (cmpT a.s b.s);rw [cmpS_or] at q5;simp only [gA] at z1 z2 q1 q2 q3 q4 q5;rw [qA,qA];unfold IJ;by_cases h0:a.kind=b.kind
 ·rw [h0];by_cases h1:b.kind=1
  ·by_cases h2:a.b=b.b
   ·simp [PC,-J,-y4,-y3,y0,h1,h2]
   ·cases h3:b.b <;> rw [h3] at h2 <;> simp at h2 <;> simp [PC,-J,-y4,-y3,y0,h1,h2,h3]
  ·by_cases h2:b.kind=2
   ·simp [PC,-J,-y4,-y3,y0,h2,z1,z2,q1]
   ·by_cases h3:b.kind=3
    ·simp [PC,-J,-y4,-y3,y0,h3,q2,q3,q5]
    ·by_cases h4:b.kind=4
     ·simp [PC,-J,-y4,-y3,y0,h4,q4]
     ·simp [PC,-J,-y4,-y3,y0,h1,h2,h3,h4]
 ·simp [PC,-J,-y4,-y3,y0,h0]
theorem zig_inj {a b:Int} (h:dZ a=dZ b):a=b:=by
 unfold dZ at h;split at h <;> split at h <;> omega
theorem JY (a b:Vl) (ha:zH a.i) (hb:zH b.i):gA 129 [.agg (fA a),.agg (fA b)] (.int .i64 (IJ a b)):=by
 refine rA (c:=NA) rfl rfl ?_;have z1:=d5 a.i ha;have z2:=d5 b.i hb;have q1:=fun l e=>order_ev l e
 simp only [gA] at z1 z2 q1;rw [qA,qA];unfold IJ;by_cases h0:a.kind=b.kind
 ·rw [h0];by_cases h1:b.kind=1
  ·by_cases h2:a.b=b.b
   ·simp [NA,-J,-y4,-y3,y0,h1,h2,q1]
   ·cases h3:b.b <;> rw [h3] at h2 <;> simp at h2 <;> simp [NA,-J,-y4,-y3,y0,h1,h2,h3,q1]
  ·by_cases h2:b.kind=2
   ·by_cases h5:a.i=b.i
    ·simp [NA,-J,-y4,-y3,y0,h2,h5,z2,q1,xM]
    ·have h6:dZ a.i≠dZ b.i:=fun h=>h5 (zig_inj h)
     by_cases h7:dZ a.i<dZ b.i
     ·simp [NA,-J,-y4,-y3,y0,h2,h5,z1,z2,q1,xM,h7]
     ·have h8:dZ b.i<dZ a.i:=by omega
      simp [NA,-J,-y4,-y3,y0,h2,h5,z1,z2,q1,xM,h7,h8]
   ·by_cases h3:b.kind=3
    ·by_cases h5:a.s.size=b.s.size
     ·have h6:¬ (a.s.size:Int)≠b.s.size:=by omega
      by_cases h7:a.s=b.s
      ·simp [NA,-J,-y4,-y3,y0,h3,h7,q1,GT]
      ·cases h8:MQ a.s b.s with
       | true =>
        have h9:=h8;unfold MQ at h9;simp [NA,-J,-y4,-y3,y0,h3,h5,h6,h7,q1,GT,h8,h9]
       | false =>
        have h9:=h8;unfold MQ at h9;simp [NA,-J,-y4,-y3,y0,h3,h5,h6,h7,q1,GT,h8,h9]
     ·have h6:¬ (a.s.size:Int)=b.s.size:=by omega
      by_cases h7:a.s.size<b.s.size
      ·have h8:(a.s.size:Int)<b.s.size:=by omega
       simp [NA,-J,-y4,-y3,y0,h3,h6,h7,h8,q1,GT]
      ·have h8:¬ (a.s.size:Int)<b.s.size:=by omega
       have h9:b.s.size<a.s.size:=by omega
       simp [NA,-J,-y4,-y3,y0,h3,h6,h7,h8,h9,q1,GT]
    ·by_cases h4:b.kind=4
     ·by_cases h5:a.id=b.id
      ·simp [NA,-J,-y4,-y3,y0,h4,h5,q1,xM]
      ·by_cases h7:a.id<b.id
       ·simp [NA,-J,-y4,-y3,y0,h4,h5,h7,q1,xM]
       ·have h8:b.id<a.id:=by omega
        simp [NA,-J,-y4,-y3,y0,h4,h5,h7,h8,q1,xM]
     ·simp [NA,-J,-y4,-y3,y0,h1,h2,h3,h4]
 ·simp [NA,-J,-y4,-y3,y0,h0]
section
def BG:List Vl->Bool
 | []=>true
 | [_]=>true
 | a :: b :: r=>decide (IJ a b<0)&&BG (b :: r)
def BD (f:Int->Vl->Bool):List zB->List Vl->Bool
 | m :: r,v :: q=>f m.ty v&&BD f r q
 | _,_=>true
def uD (f:Int->Vl->Bool) (m:Option zB) (known re:Bool):List Vl->Bool
 | [u]=>(match m with
  | some m=>known&&re&&f m.ty u
  | none=>false)
 | _=>false
theorem mJ (f:Int->Vl->Bool) (m:Option zB) (a b:Bool) (l:List Vl) (h:¬ l.length=1):uD f m a b l=false:=by
 match l,h with
 | [],_=>rfl
 | [_],h=>exact absurd rfl h
 | _ :: _ :: _,_=>rfl
theorem JV (f:Int->Vl->Bool) (m:Option zB) (b:Bool) (l:List Vl):uD f m false b l=false:=by
 match l with
 | []=>rfl
 | [_]=>cases m <;> rfl
 | _ :: _ :: _=>rfl
theorem J8 (f:Int->Vl->Bool) (m:Option zB) (a:Bool) (l:List Vl):uD f m a false l=false:=by
 match l with
 | []=>rfl
 | [_]=>cases m <;> cases a <;> rfl
 | _ :: _ :: _=>rfl
def jE (f:Int->Vl->Bool) (x:pA) (v:Vl):Bool :=
 if x.kind=1 then true
 else if x.kind=2 then decide (x.low<=v.i)&&decide (v.i<=x.high)
 else if x.kind=3 then decide ((v.s.size:Int)<=x.max)
 else if x.kind=4 then decide (0<=ZF x.syms v.id)
 else if x.kind=5 then decide (v.items.length=x.mems.length)&&v.rest.isEmpty&&BD f x.mems v.items
 else if x.kind=6 then uD f x.mems[(QA x.mems v.id).toNat]? (decide (0<=QA x.mems v.id)) v.rest.isEmpty v.items
 else if x.kind=7 then decide ((v.items.length:Int)<=x.max)&&v.items.all (f x.elem)
 else if x.kind=8 then decide ((v.keys.length:Int)<=x.max)&&decide (v.items.length=v.keys.length)&&v.keys.all (f x.key)&&BG v.keys&&v.items.all (f x.elem)
 else decide (v.items.length<=1)&&v.items.all (f x.elem)
def kE (S:List pA):Nat->Int->Vl->Bool
 | 0,_,_=>false
 | n + 1,t,v=>!sB S.length t&&(match S[t.toNat]? with
  | some x=>decide (v.kind=x.kind)&&sC v&&jE (kE S n) x v
  | none=>false)
mutual
/-- numbers that occur -/
def Vl.i64:Vl->Prop
 | .mk _ _ i _ _ _ ks _ xs _ _=>zH i/\Vl.i64s ks/\Vl.i64s xs
def Vl.i64s:List Vl->Prop
 | []=>True
 | v :: r=>Vl.i64 v/\Vl.i64s r
end
theorem Vl.i64s_iff:∀ l:List Vl,Vl.i64s l ↔ ∀ v∈l,v.i64
 | []=>by simp [Vl.i64s]
 | v :: r=>by simp [Vl.i64s,Vl.i64s_iff r]
theorem Vl.i64_def (v:Vl):v.i64 ↔ zH v.i/\(∀ x∈v.keys,x.i64)/\∀ x∈v.items,x.i64:=by
 cases v;rw [Vl.i64,Vl.i64s_iff,Vl.i64s_iff];rfl
section
variable (sn:Bool) (S:List pA) (t:Int) (f:Vl->Bool)
abbrev QD (sn:Bool) (S:List pA):AV:=.agg [.sl sn (S.map eA)]
theorem each1_ev (v:Vl) (h:gA 165 [QD sn S,.int .i64 t,.agg (fA v),.bool true] (.bool (f v))):gA 222 [.agg (fA v),.bp [.sl sn (S.map eA)],.bp [.int .i64 t],.bp [.bool true]] (.bool (!f v)):=by
 refine rA (c:=aI) rfl rfl ?_;simp only [gA,qA] at h ⊢;simp [aI,-J,-y4,-y3,y0,h]
theorem any_not {α:Type} (f:α->Bool) (l:List α):(!l.any fun x=>!f x)=l.all f:=by
 induction l with
 | nil=>rfl
 | cons x r ih=>simp only [List.any_cons,List.all_cons,Bool.not_or,Bool.not_not,ih]
theorem xW (l:List Vl) (hl:l.length<=9223372036854775807) (b:Bool) (h:∀ v∈l,gA 165 [QD sn S,.int .i64 t,.agg (fA v),.bool true] (.bool (f v))):gA 209 [QD sn S,.int .i64 t,.sl b (l.map fA),.bool true] (.bool (l.all f)):=by
 have hi:=b4 222 [.bp [.sl sn (S.map eA)],.bp [.int .i64 t],.bp [.bool true]] l (fun v=>!f v) hl (fun _ _=>rfl) (fun v hv=>each1_ev sn S t f v (h v hv)) b;have hc:gA 221 [.sl b (l.map fA),.fn 222 [.bp [.sl sn (S.map eA)],.bp [.int .i64 t],.bp [.bool true]]] (.bool (decide (0<=FB (fun v=>!f v) l))):=by
  refine rA (c:=QC) rfl rfl ?_;simp only [gA] at hi;simp [QC,-J,-y4,-y3,y0,hi]
 rw [<- any_not,<- GH];refine rA (c:=mL) rfl rfl ?_;simp only [gA] at hc;simp [mL,-J,-y4,-y3,y0,hc]
theorem Z3 (l:List Vl) (hl:l.length<=9223372036854775807) (b:Bool) (h:∀ v∈l,gA 130 [QD sn S,.int .i64 t,.agg (fA v),.bool true] (.bool (f v))):gA 178 [QD sn S,.int .i64 t,.sl b (l.map fA),.bool true] (.bool (l.all f)):=by
 refine rA (c:=ZM) rfl rfl ?_;simp [ZM,-J,-y4,-y3,y0];refine RA l.length (fun i s=>(s.env 1).v=.int .i64 t/\(s.env 2).v=.sl b (l.map fA)/\(s.env 3).v=.bool true/\(s.env 4).v=.ptr 4 1 0/\s.mem 4 1=some [⟨.sl sn (S.map eA),.no⟩]/\(s.env 9).v=.int .i64 i/\(l.drop i).all f=l.all f)
  (fun e s=>(e=.exit 0/\l.all f=true)\/(e=.ret/\l.all f=false/\(s.env 8).v=.bool false)) (fun i hi s k h' ih hk=>?_) _ _ ?_ (fun e s h=>?_)
 ·obtain ⟨e1,e2,e3,e4,m4,e9,hs⟩:=h';refine iA ?_;by_cases fa:i<l.length
  ·have ga:(i:Int)<l.length:=by omega
   have g1:(l.map fA)[i]?=some (fA l[i]):=by simp [fa]
   have hw:=WB (i:=i);have hx:=h l[i] (y8 _);rw [yb fa,List.all_cons] at hs;generalize l[i]=x at *
   simp only [gA,qA] at g1 hx;cases hp:f x with
   | true =>
    rw [hp] at hx hs;simp [wJ,-J,-y4,-y3,y0,e1,e2,e3,e4,m4,e9,ga,g1,hx,hw];refine ih fa _ ⟨?_,?_,?_,?_,?_,?_,by simpa using hs⟩ <;> simp [e1,e2,e3,e4,m4]
   | false =>
    rw [hp] at hx hs;simp [wJ,-J,-y4,-y3,y0,e1,e2,e3,e4,m4,e9,ga,g1,hx];exact hk _ _ (.inr ⟨rfl,by rw [<- hs]; rfl,by simp⟩)
  ·have ga:¬ (i:Int)<l.length:=by omega
   simp [wJ,-J,-y4,-y3,y0,e2,e9,ga];rw [yk (by omega)] at hs;exact hk _ _ (.inl ⟨rfl,hs.symm⟩)
 ·simp
 ·rcases h with ⟨rfl,h1⟩ | ⟨rfl,h1,h2⟩
  ·simp [-J,-y4,-y3,y0,h1]
  ·simp [-J,-y4,-y3,y0,h1,h2]
end
end
end Go.Proofs.YtbhbeakhognieaaGreat
