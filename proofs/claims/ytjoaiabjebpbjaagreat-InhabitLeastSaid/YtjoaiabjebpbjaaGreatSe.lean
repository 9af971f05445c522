/- A part of the proof. -/
import Derived.Test.YtjoaiabjebpbjaaGreatSc
set_option linter.all false
set_option maxRecDepth 100000
set_option maxHeartbeats 8000000
open Option renaming bind_some → V
open List renaming range_succ → J, map_map → y0, getElem_mem → y5, drop_eq_getElem_cons → y9, drop_eq_nil_of_le → ye, map_cons → yl, map_nil → yo, take_append_getElem → yr, take_of_length_le → yv, mem_append → yE, length_take → yN
open Int renaming toNat_lt → y3
open Bool renaming and_eq_true → y7
namespace Go.Proofs.YtjoaiabjebpbjaaGreat
open Go
structure Raw where
 id:Int
 data:ByteArray
 deriving DecidableEq
inductive Vl where
 | mk (kind:Int) (b:Bool) (i:Int) (s:ByteArray) (id:Int) (kn:Bool) (keys:List Vl) (xn:Bool) (items:List Vl) (rn:Bool) (rest:List Raw)
namespace Vl
def kind:Vl->Int | .mk k _ _ _ _ _ _ _ _ _ _=>k
def b:Vl->Bool | .mk _ b _ _ _ _ _ _ _ _ _=>b
def i:Vl->Int | .mk _ _ i _ _ _ _ _ _ _ _=>i
def s:Vl->ByteArray | .mk _ _ _ s _ _ _ _ _ _ _=>s
def id:Vl->Int | .mk _ _ _ _ d _ _ _ _ _ _=>d
def kn:Vl->Bool | .mk _ _ _ _ _ k _ _ _ _ _=>k
def keys:Vl->List Vl | .mk _ _ _ _ _ _ l _ _ _ _=>l
def xn:Vl->Bool | .mk _ _ _ _ _ _ _ x _ _ _=>x
def items:Vl->List Vl | .mk _ _ _ _ _ _ _ _ l _ _=>l
def rn:Vl->Bool | .mk _ _ _ _ _ _ _ _ _ r _=>r
def rest:Vl->List Raw | .mk _ _ _ _ _ _ _ _ _ _ l=>l
theorem keys_lt (v x:Vl) (h:x∈v.keys):SizeOf.sizeOf x<SizeOf.sizeOf v:=by
 cases v;have:=List.sizeOf_lt_of_mem h;simp only [keys] at this;simp only [mk.sizeOf_spec];omega
theorem items_lt (v x:Vl) (h:x∈v.items):SizeOf.sizeOf x<SizeOf.sizeOf v:=by
 cases v;have:=List.sizeOf_lt_of_mem h;simp only [items] at this;simp only [mk.sizeOf_spec];omega
end Vl
def sK (r:Raw):List AV:=[.int .i64 r.id,.str r.data]
mutual
def pA:Vl->List AV
 | .mk k b i s d kn ks xn xs rn rs=>[.int .i64 k,.bool b,.int .i64 i,.str s,.int .i64 d,.sl kn (W4 ks),.sl xn (W4 xs),.sl rn (rs.map sK)]
def W4:List Vl->List (List AV)
 | []=>[]
 | v :: r=>pA v :: W4 r
end
theorem PV:∀ l:List Vl,W4 l=l.map pA
 | []=>by rw [W4]; rfl
 | v :: r=>by rw [W4,PV r]; rfl
theorem qA (v:Vl):pA v=[.int .i64 v.kind,.bool v.b,.int .i64 v.i,.str v.s,.int .i64 v.id,.sl v.kn (v.keys.map pA),.sl v.xn (v.items.map pA),.sl v.rn (v.rest.map sK)]:=by
 cases v;rw [pA,PV,PV];rfl
mutual
/-- lengths that occur -/
def Vl.ok:Vl->Prop
 | .mk _ _ _ s _ _ ks _ xs _ rs=>ks.length<=9223372036854775807/\xs.length<=9223372036854775807/\rs.length<=9223372036854775807/\s.size<=9223372036854775807/\Vl.oks ks/\Vl.oks xs
def Vl.oks:List Vl->Prop
 | []=>True
 | v :: r=>Vl.ok v/\Vl.oks r
end
theorem Vl.oks_iff:∀ l:List Vl,Vl.oks l ↔ ∀ v∈l,v.ok
 | []=>by simp [Vl.oks]
 | v :: r=>by simp [Vl.oks,Vl.oks_iff r]
theorem Vl.ok_def (v:Vl):v.ok ↔ v.keys.length<=9223372036854775807/\v.items.length<=9223372036854775807/\v.rest.length<=9223372036854775807/\v.s.size<=9223372036854775807/\(∀ x∈v.keys,x.ok)/\∀ x∈v.items,x.ok:=by
 cases v;rw [Vl.ok,Vl.oks_iff,Vl.oks_iff];rfl
def Vl.zero:Vl:=.mk 0 false 0 ⟨#[]⟩ 0 true [] true [] true []
structure eU where
 id:Int
 name:ByteArray
 deriving DecidableEq
def MD (x:eU):List AV:=[.int .i64 x.id,.str x.name]
structure bB where
 id:Int
 name:ByteArray
 ty:Int
 crit:Bool
 has:Bool
 dflt:Vl
def nA (m:bB):List AV:=[.int .i64 m.id,.str m.name,.int .i64 m.ty,.bool m.crit,.bool m.has,.int .i64 m.dflt.kind,.bool m.dflt.b,.int .i64 m.dflt.i,.str m.dflt.s,.int .i64 m.dflt.id,.sl m.dflt.kn (m.dflt.keys.map pA),.sl m.dflt.xn (m.dflt.items.map pA),.sl m.dflt.rn (m.dflt.rest.map sK)]
structure gA where
 kind:Int
 name:ByteArray
 low:Int
 high:Int
 max:Int
 sn:Bool
 syms:List eU
 mn:Bool
 mems:List bB
 key:Int
 elem:Int
 opn:Bool
def eA (t:gA):List AV:=[.int .i64 t.kind,.str t.name,.int .i64 t.low,.int .i64 t.high,.int .i64 t.max,.sl t.sn (t.syms.map MD),.sl t.mn (t.mems.map nA),.int .i64 t.key,.int .i64 t.elem,.bool t.opn]
structure PM where
 nl:Bool
 types:List gA
def JA (s:PM):List AV:=[.sl s.nl (s.types.map eA)]
def bB.ok (m:bB):Prop:=m.dflt.ok/\m.name.size<=9223372036854775807
def gA.ok (t:gA):Prop:=t.syms.length<=9223372036854775807/\t.mems.length<=9223372036854775807/\∀ m∈t.mems,m.ok
def PM.ok (s:PM):Prop:=s.types.length<=9223372036854775807/\∀ t∈s.types,t.ok
theorem LA {i:Nat} (h:i<9223372036854775807:=by omega):IntKind.i64.wrap ((i:Int) + 1)=((i + 1:Nat):Int):=by
 rw [IntWalk.i64_in _ (by omega)]; rfl
theorem ZZ (v:Vl):(pA v).length=8:=by rw [qA]; rfl
theorem fM (l:List Vl):kB 8 (l.map pA)=true:=rD _ _ _ ZZ
theorem els_sym (l:List eU):kB 2 (l.map MD)=true:=rD _ _ _ fun _=>rfl
theorem OO (l:List bB):kB 13 (l.map nA)=true:=rD _ _ _ fun _=>rfl
theorem wA {f:Nat} {c:qB} {args:List AV} {r:RV} (hT:kA f=some c) (hl:args.length=c.np) (h:c.code.run (BI kA tA) (aN kA tA) (aA.init args none) (fin c none)=some r) (hm:IK args=false:=by rfl):BI kA tA f args none=some r:=J2 c hT hl h hm
abbrev sA (f:Nat) (args:List AV) (v:AV):Prop:=BI kA tA f args none=some (v,none)
def zR (x:Int):Bool:=decide (x=95)||(decide (97<=x)&&decide (x<=122))||(decide (65<=x)&&decide (x<=90))
def tY (x:Int):Bool:=decide (48<=x)&&decide (x<=57)
def FG (s:ByteArray):Nat->Nat->Bool
 | 0,_=>true
 | n + 1,i=>(match s[i]? with | some u=>zR u.toNat||tY u.toNat | none=>false)&&FG s n (i + 1)
def GF (s:ByteArray):Bool:=decide (s.size≠0)&&decide (s.size<=24)&&(match s[0]? with | some u=>zR u.toNat | none=>false)&&FG s s.size 0
theorem W3 (x:Int):sA 205 [.int .u8 x] (.bool (zR x)):=by
 refine wA (c:=IH) rfl rfl ?_;unfold zR;by_cases h1:x=95 <;> by_cases h2:97<=x <;> by_cases h3:65<=x <;> by_cases h4:x<=122 <;> by_cases h5:x<=90 <;> simp [IH,-V,GC,J,h1,h2,h3,h4,h5]
theorem digit_ev (x:Int):sA 206 [.int .u8 x] (.bool (tY x)):=by
 refine wA (c:=mI) rfl rfl ?_;unfold tY;by_cases h1:48<=x <;> simp [mI,-V,GC,J,h1]
theorem cZ (x:Int):sA 202 [.int .u8 x] (.bool (zR x)):=by
 refine wA (c:=TJ) rfl rfl ?_;unfold zR;by_cases h1:x=95 <;> by_cases h2:97<=x <;> by_cases h3:65<=x <;> by_cases h4:x<=122 <;> by_cases h5:x<=90 <;> simp [TJ,-V,GC,J,h1,h2,h3,h4,h5]
theorem rdigit_ev (x:Int):sA 203 [.int .u8 x] (.bool (tY x)):=by
 refine wA (c:=BK) rfl rfl ?_;unfold tY;by_cases h1:48<=x <;> simp [BK,-V,GC,J,h1]
theorem TQ {s:ByteArray} {i:Nat} (h:i<s.size):∃ u,s[i]?=some u:=⟨s[i],getElem?_pos s i h⟩
theorem name_lp (s:ByteArray) (hs:s.size<=24) (r:RV) (k:Ex->aA->Option RV) (hk:∀ s',FG s s.size 0=true->k (.exit 0) s'=some r) (hr:∀ s':aA,FG s s.size 0=false->(s'.env 2).v=.bool false->k .ret s'=some r) :
  ∀ (n i:Nat),i + n=s.size->FG s n i=FG s s.size 0->∀ s':aA,(s'.env 0).v=.str s->(s'.env 18).v=.int .i64 s.size->(s'.env 19).v=.int .i64 i->kI kA tA lE s' k=some r:=by
 intro n
 induction n with
 | zero =>
  intro i hi hf s' e0 e18 e19;have fa:¬ ((i:Int)<s.size):=by omega
  refine uA ?_;simp [lE,-V,GC,J,e0,e18,e19,fa];exact hk _ (by rw [<- hf]; rfl)
 | succ n ih =>
  intro i hi hf s' e0 e18 e19;have fa:(i:Int)<s.size:=by omega
  obtain ⟨u,hu⟩:=TQ (s:=s) (i:=i) (by omega);have hw:=LA (i:=i);have h1:=W3 u.toNat;have h2:=digit_ev u.toNat;simp only [FG,hu] at hf;refine uA ?_;cases b1:zR u.toNat with
  | true =>
   simp only [b1] at h1 hf;simp [lE,-V,GC,J,e0,e18,e19,fa,hu,h1,hw];refine ih (i + 1) (by omega) (by simpa using hf) _ ?_ ?_ ?_ <;> simp [*]
  | false =>
   cases b2:tY u.toNat with
   | true =>
    simp only [b1,b2] at h1 h2 hf;simp [lE,-V,GC,J,e0,e18,e19,fa,hu,h1,h2,hw];refine ih (i + 1) (by omega) (by simpa using hf) _ ?_ ?_ ?_ <;> simp [*]
   | false =>
    simp only [b1,b2] at h1 h2 hf;simp [lE,-V,GC,J,e0,e18,e19,fa,hu,h1,h2,hw];refine hr _ (by simpa using hf.symm) ?_;simp
theorem name_ev (s:ByteArray):sA 184 [.str s] (.bool (GF s)):=by
 refine wA (c:=CE) rfl rfl ?_;unfold GF;by_cases h0:s=⟨#[]⟩
 ·subst h0;simp [CE,-V,GC,J];exact fun h=>absurd rfl h
 ·have hz:s.size≠0:=fun h=>h0 (by
   obtain ⟨d⟩:=s;have h:d.size=0:=h;rw [Array.eq_empty_of_size_eq_zero h])
  by_cases h1:s.size<=24
  ·have zk:¬ ((24:Int)<s.size):=by omega
   obtain ⟨u,hu⟩:=TQ (s:=s) (i:=0) (by omega);have h2:=W3 u.toNat;cases b1:zR u.toNat with
   | false =>
    simp only [b1] at h2;simp [CE,-V,GC,J,h0,zk,hu,h2,b1]
   | true =>
    simp only [b1] at h2;simp [CE,-V,GC,J,h0,zk,hu,h2,b1,hz,h1];refine name_lp s h1 _ _ (fun s' hf=>?main) (fun s' hf h2=>?main2) s.size 0 (by simp) rfl _ ?_ ?_ ?_
    case main=>simp [-V,GC,J,hf]
    case main2=>simp [-V,GC,J,hf,h2]
    all_goals simp
  ·have zk:(24:Int)<s.size:=by omega
   simp [CE,-V,GC,J,h0,zk,h1]
theorem rname_lp (s:ByteArray) (hs:s.size<=24) (r:RV) (k:Ex->aA->Option RV) (hk:∀ s',FG s s.size 0=true->k (.exit 0) s'=some r) (hr:∀ s':aA,FG s s.size 0=false->(s'.env 2).v=.bool false->k .ret s'=some r) :
  ∀ (n i:Nat),i + n=s.size->FG s n i=FG s s.size 0->∀ s':aA,(s'.env 0).v=.str s->(s'.env 3).v=.int .i64 i->kI kA tA zE s' k=some r:=by
 intro n
 induction n with
 | zero =>
  intro i hi hf s' e0 e3;have fa:¬ ((i:Int)<s.size):=by omega
  refine uA ?_;simp [zE,-V,GC,J,e0,e3,fa];exact hk _ (by rw [<- hf]; rfl)
 | succ n ih =>
  intro i hi hf s' e0 e3;have fa:(i:Int)<s.size:=by omega
  obtain ⟨u,hu⟩:=TQ (s:=s) (i:=i) (by omega);have hw:=LA (i:=i);have h1:=cZ u.toNat;have h2:=rdigit_ev u.toNat;simp only [FG,hu] at hf;refine uA ?_;cases b1:zR u.toNat with
  | true =>
   simp only [b1] at h1 hf;simp [zE,-V,GC,J,e0,e3,fa,hu,h1,hw];refine ih (i + 1) (by omega) (by simpa using hf) _ ?_ ?_ <;> simp [*]
  | false =>
   cases b2:tY u.toNat with
   | true =>
    simp only [b1,b2] at h1 h2 hf;simp [zE,-V,GC,J,e0,e3,fa,hu,h1,h2,hw];refine ih (i + 1) (by omega) (by simpa using hf) _ ?_ ?_ <;> simp [*]
   | false =>
    simp only [b1,b2] at h1 h2 hf;simp [zE,-V,GC,J,e0,e3,fa,hu,h1,h2,hw];refine hr _ (by simpa using hf.symm) ?_;simp
theorem bZ (s:ByteArray):sA 181 [.str s] (.bool (GF s)):=by
 refine wA (c:=BE) rfl rfl ?_;unfold GF;by_cases h0:s=⟨#[]⟩
 ·subst h0;simp [BE,-V,GC,J];exact fun h=>absurd rfl h
 ·have hz:s.size≠0:=fun h=>h0 (by
   obtain ⟨d⟩:=s;have h:d.size=0:=h;rw [Array.eq_empty_of_size_eq_zero h])
  by_cases h1:s.size<=24
  ·have zk:¬ ((24:Int)<s.size):=by omega
   obtain ⟨u,hu⟩:=TQ (s:=s) (i:=0) (by omega);have h2:=cZ u.toNat;cases b1:zR u.toNat with
   | false =>
    simp only [b1] at h2;simp [BE,-V,GC,J,h0,zk,hu,h2,b1]
   | true =>
    simp only [b1] at h2;simp [BE,-V,GC,J,h0,zk,hu,h2,b1,hz,h1];refine rname_lp s h1 _ _ (fun s' hf=>?main) (fun s' hf h2=>?main2) s.size 0 (by simp) rfl _ ?_ ?_
    case main=>simp [-V,GC,J,hf]
    case main2=>simp [-V,GC,J,hf,h2]
    all_goals simp
  ·have zk:(24:Int)<s.size:=by omega
   simp [BE,-V,GC,J,h0,zk,h1]
mutual
def Vl.same:Vl->Vl->Bool
 | .mk k b i s d _ ks _ xs _ rs,.mk k' b' i' s' d' _ ks' _ jz _ rs'=>decide (k=k')&&(b == b')&&decide (i=i')&&decide (s=s')&&decide (d=d')&&decide (rs=rs')&&Vl.sames ks ks'&&Vl.sames xs jz
def Vl.sames:List Vl->List Vl->Bool
 | [],[]=>true
 | v :: r,v' :: r'=>Vl.same v v'&&Vl.sames r r'
 | [],_ :: _=>false
 | _ :: _,[]=>false
end
theorem Vl.same_def (v w:Vl):v.same w=(decide (v.kind=w.kind)&&(v.b == w.b)&&decide (v.i=w.i)&&decide (v.s=w.s)&&decide (v.id=w.id)&&decide (v.rest=w.rest)&&Vl.sames v.keys w.keys&&Vl.sames v.items w.items):=by
 cases v; cases w; rw [Vl.same]; rfl
theorem Vl.sames_len:∀ l m:List Vl,l.length≠m.length->Vl.sames l m=false
 | [],[],h=>absurd rfl h
 | [],_ :: _,_=>by rw [Vl.sames]
 | _ :: _,[],_=>by rw [Vl.sames]
 | v :: r,w :: r',h=>by rw [Vl.sames,Vl.sames_len r r' (by simpa using h)]; simp
theorem raws_lp (rs qs:List Raw) (hl:rs.length<=9223372036854775807) (he:rs.length=qs.length) (b1 b2:Bool) (r:RV) (k:Ex->aA->Option RV) (hk:∀ s',rs=qs->k (.exit 0) s'=some r) (hr:∀ s':aA,rs≠qs->(s'.env 4).v=.bool false->k .ret s'=some r) :
  ∀ (n i:Nat),i + n=rs.length->(rs.drop i=qs.drop i ↔ rs=qs)->∀ s':aA,(s'.env 0).v=.sl b1 (rs.map sK)->(s'.env 1).v=.sl b2 (qs.map sK)->(s'.env 12).v=.int .i64 rs.length->(s'.env 13).v=.int .i64 i->kI kA tA uC s' k=some r:=by
 intro n
 induction n with
 | zero =>
  intro i hi hf s' e0 e1 pg cq;have fa:¬ ((i:Int)<rs.length):=by omega
  refine uA ?_;simp [uC,-V,GC,J,pg,cq,fa];exact hk _ (hf.1 (by rw [ye (by omega),ye (by omega)]))
 | succ n ih =>
  intro i hi hf s' e0 e1 pg cq;have fa:(i:Int)<rs.length:=by omega
  have nf:i<rs.length:=by omega
  have bh:i<qs.length:=by omega
  have hw:=LA (i:=i);have g1:(rs.map sK)[i]?=some (sK rs[i]):=by simp [nf]
  have g2:(qs.map sK)[i]?=some (sK qs[i]):=by simp [bh]
  rw [y9 nf,y9 bh] at hf;simp only [List.cons.injEq] at hf;generalize rs[i]=x at *
  generalize qs[i]=y at *
  obtain ⟨xi,xd⟩:=x;obtain ⟨yi,yd⟩:=y;simp only [sK] at g1 g2;simp only [Raw.mk.injEq] at hf;refine uA ?_;by_cases h1:xi=yi
  ·by_cases h2:xd=yd
   ·subst h1 h2;simp [uC,-V,GC,J,e0,e1,pg,cq,fa,g1,g2,GL,hw];refine ih (i + 1) (by omega) (by simpa using hf) _ ?_ ?_ ?_ ?_ <;> simp [*]
   ·subst h1;simp [uC,-V,GC,J,e0,e1,pg,cq,fa,g1,g2,GL,h2];exact hr _ (fun h=>h2 (hf.2 h).1.2) (by simp)
  ·simp [uC,-V,GC,J,e0,e1,pg,cq,fa,g1,g2,GL,h1];exact hr _ (fun h=>h1 (hf.2 h).1.1) (by simp)
theorem raws_ev (rs qs:List Raw) (hl:rs.length<=9223372036854775807) (b1 b2:Bool):sA 171 [.sl b1 (rs.map sK),.sl b2 (qs.map sK)] (.bool (decide (rs=qs))):=by
 refine wA (c:=DD) rfl rfl ?_;by_cases he:rs.length=qs.length
 ·have th:(rs.length:Int)=qs.length:=by omega
  simp [DD,-V,GC,J,he];refine raws_lp rs qs hl he b1 b2 _ _ (fun s' hf=>?main) (fun s' hf h4=>?main2) rs.length 0 (by simp) (by simp) _ ?_ ?_ ?_ ?_
  case main=>simp [-V,GC,J,hf]
  case main2=>simp [-V,GC,J,hf,h4]
  all_goals simp [he]
 ·have th:¬ (rs.length:Int)=qs.length:=by omega
  have ta:rs≠qs:=fun h=>he (by rw [h])
  simp [DD,-V,GC,J,th,ta]
theorem eqf_lp (F:Nat) (l m:List Vl) (hl:l.length<=9223372036854775807) (he:l.length=m.length) (hF:∀ x∈l,∀ y∈m,sA F [.agg (pA x),.agg (pA y)] (.bool (x.same y))) (b1 b2:Bool) (r:RV) (k:Ex->aA->Option RV) (hk:∀ s',Vl.sames l m=true->k (.exit 0) s'=some r) (hr:∀ s':aA,Vl.sames l m=false->(s'.env 6).v=.bool false->k .ret s'=some r) :
  ∀ (n i:Nat),i + n=l.length->Vl.sames (l.drop i) (m.drop i)=Vl.sames l m->∀ s':aA,(s'.env 1).v=.sl b2 (m.map pA)->(s'.env 2).v=.fn F []->(s'.env 15).v=.sl b1 (l.map pA)->(s'.env 16).v=.int .i64 l.length->(s'.env 17).v=.int .i64 i->kI kA tA FB s' k=some r:=by
 intro n
 induction n with
 | zero =>
  intro i hi hf s' e1 e2 bd je fi;have fa:¬ ((i:Int)<l.length):=by omega
  refine uA ?_;simp [FB,-V,GC,J,je,fi,fa];refine hk _ ?_;rw [<- hf,ye (by omega),ye (by omega),Vl.sames]
 | succ n ih =>
  intro i hi hf s' e1 e2 bd je fi;have fa:(i:Int)<l.length:=by omega
  have nf:i<l.length:=by omega
  have bh:i<m.length:=by omega
  have hw:=LA (i:=i);have g1:(l.map pA)[i]?=some (pA l[i]):=by simp [nf]
  have g2:(m.map pA)[i]?=some (pA m[i]):=by simp [bh]
  have hx:=hF l[i] (y5 _) m[i] (y5 _);rw [y9 nf,y9 bh,Vl.sames] at hf;generalize l[i]=x at *
  generalize m[i]=y at *
  simp only [sA,qA] at g1 g2 hx;refine uA ?_;cases h1:x.same y with
  | true =>
   rw [h1] at hx hf;simp [FB,-V,GC,J,e1,e2,bd,je,fi,fa,g1,g2,gG,JD,hx,hw];refine ih (i + 1) (by omega) (by simpa using hf) _ ?_ ?_ ?_ ?_ ?_ <;> simp [*]
  | false =>
   rw [h1] at hx hf;simp [FB,-V,GC,J,e1,e2,bd,je,fi,fa,g1,g2,gG,JD,hx];exact hr _ (by simpa using hf.symm) (by simp)
theorem C4 (F:Nat) (l m:List Vl) (hl:l.length<=9223372036854775807) (hF:∀ x∈l,∀ y∈m,sA F [.agg (pA x),.agg (pA y)] (.bool (x.same y))) (b1 b2:Bool):sA 172 [.sl b1 (l.map pA),.sl b2 (m.map pA),.fn F []] (.bool (Vl.sames l m)):=by
 refine wA (c:=fC) rfl rfl ?_;by_cases he:l.length=m.length
 ·simp [fC,-V,GC,J,he];refine eqf_lp F l m hl he hF b1 b2 _ _ (fun s' hf=>?main) (fun s' hf h4=>?main2) l.length 0 (by simp) (by simp) _ ?_ ?_ ?_ ?_ ?_
  case main=>simp [-V,GC,J,hf]
  case main2=>simp [-V,GC,J,hf,h4]
  all_goals simp [he]
 ·have th:¬ (l.length:Int)=m.length:=by omega
  simp [fC,-V,GC,J,th,Vl.sames_len l m he]
theorem same_ev:∀ (n:Nat) (v w:Vl),SizeOf.sizeOf v<n->v.ok->sA 212 [.agg (pA v),.agg (pA w)] (.bool (v.same w)):=by
 intro n
 induction n with
 | zero=>intro v w h; omega
 | succ n ih =>
  intro v w hn hv;rw [Vl.ok_def] at hv;obtain ⟨o1,o2,o3,o4,o5,o6⟩:=hv;have hr:=raws_ev v.rest w.rest o3 v.rn w.rn;have ck:=C4 212 v.keys w.keys o1 (fun x hx y _=>ih x y (by have:=Vl.keys_lt v x hx; omega) (o5 x hx)) v.kn w.kn;have ze:=C4 212 v.items w.items o2 (fun x hx y _=>ih x y (by have:=Vl.items_lt v x hx; omega) (o6 x hx)) v.xn w.xn;simp only [sA] at hr ck ze;refine wA (c:=uD) rfl rfl ?_;rw [qA,qA,Vl.same_def];by_cases h1:v.kind=w.kind
  ·by_cases h2:v.b=w.b
   ·by_cases h3:v.i=w.i
    ·by_cases h4:v.s=w.s
     ·by_cases h5:v.id=w.id
      ·by_cases h6:v.rest=w.rest
       ·cases h7:Vl.sames v.keys w.keys with
        | true=>rw [h7] at ck; simp [uD,-V,GC,J,h1,h2,h3,h4,h5,h6 ▸ hr,h6,gG,JD,ck,ze,h7]
        | false=>rw [h7] at ck; simp [uD,-V,GC,J,h1,h2,h3,h4,h5,h6 ▸ hr,h6,gG,JD,ck,h7]
       ·simp [uD,-V,GC,J,h1,h2,h3,h4,h5,hr,h6]
      ·simp [uD,-V,GC,J,h1,h2,h3,h4,h5]
     ·simp [uD,-V,GC,J,h1,h2,h3,h4]
    ·simp [uD,-V,GC,J,h1,h2,h3]
   ·simp [uD,-V,GC,J,h1,h2]
  ·simp [uD,-V,GC,J,h1]
abbrev bD (v:Vl):List rA:=[⟨.int .i64 v.kind,.no⟩,⟨.bool v.b,.no⟩,⟨.int .i64 v.i,.no⟩,⟨.str v.s,.no⟩,⟨.int .i64 v.id,.no⟩,⟨.sl v.kn (v.keys.map pA),.no⟩,⟨.sl v.xn (v.items.map pA),.no⟩,⟨.sl v.rn (v.rest.map sK),.no⟩]
theorem rrest_lp (v w:Vl) (hl:v.rest.length<=9223372036854775807) (he:v.rest.length=w.rest.length) (m:Nat) (r:RV) (k:Ex->aA->Option RV)
  (hk:∀ s':aA,v.rest=w.rest->(s'.env 2).v=.ptr 2 m 0->(s'.env 3).v=.ptr 3 m 0->s'.mem 2 m=some (bD v)->s'.mem 3 m=some (bD w)->k (.exit 0) s'=some r) (hr:∀ s':aA,v.rest≠w.rest->(s'.env 4).v=.bool false->k .ret s'=some r) :
  ∀ (n i:Nat),i + n=v.rest.length->(v.rest.drop i=w.rest.drop i ↔ v.rest=w.rest)->∀ s':aA,(s'.env 2).v=.ptr 2 m 0->(s'.env 3).v=.ptr 3 m 0->s'.mem 2 m=some (bD v)->s'.mem 3 m=some (bD w)->(s'.env 5).v=.int .i64 i->kI kA tA ED s' k=some r:=by
 intro n
 induction n with
 | zero =>
  intro i hi hf s' e2 e3 m2 m3 e5;have fa:¬ ((i:Int)<v.rest.length):=by omega
  refine uA ?_;simp [ED,-V,GC,J,e2,e3,m2,m3,e5,fa];exact hk _ (hf.1 (by rw [ye (by omega),ye (by omega)])) (by simp [e2]) (by simp [e3]) (by simp [m2]) (by simp [m3])
 | succ n ih =>
  intro i hi hf s' e2 e3 m2 m3 e5;have fa:(i:Int)<v.rest.length:=by omega
  have nf:i<v.rest.length:=by omega
  have bh:i<w.rest.length:=by omega
  have hw:=LA (i:=i);have g1:(v.rest.map sK)[i]?=some (sK v.rest[i]):=by simp [nf]
  have g2:(w.rest.map sK)[i]?=some (sK w.rest[i]):=by simp [bh]
  rw [y9 nf,y9 bh] at hf;simp only [List.cons.injEq] at hf;generalize v.rest[i]=x at *
  generalize w.rest[i]=y at *
  obtain ⟨xi,xd⟩:=x;obtain ⟨yi,yd⟩:=y;simp only [sK] at g1 g2;simp only [Raw.mk.injEq] at hf;refine uA ?_;by_cases h1:xi=yi
  ·by_cases h2:xd=yd
   ·subst h1 h2;simp [ED,-V,GC,J,e2,e3,m2,m3,e5,fa,g1,g2,GL,hw];refine ih (i + 1) (by omega) (by simpa using hf) _ ?_ ?_ ?_ ?_ ?_ <;> simp [*]
   ·subst h1;simp [ED,-V,GC,J,e2,e3,m2,m3,e5,fa,g1,g2,GL,h2];exact hr _ (fun h=>h2 (hf.2 h).1.2) (by simp)
  ·simp [ED,-V,GC,J,e2,e3,m2,m3,e5,fa,g1,g2,GL,h1];exact hr _ (fun h=>h1 (hf.2 h).1.1) (by simp)
theorem rsames_lp (l m:List Vl) (hl:l.length<=9223372036854775807) (he:l.length=m.length) (hF:∀ x∈l,∀ y∈m,sA 71 [.agg (pA x),.agg (pA y)] (.bool (x.same y))) (b1 b2:Bool) (r:RV) (k:Ex->aA->Option RV) (hk:∀ s',Vl.sames l m=true->k (.exit 0) s'=some r) (hr:∀ s':aA,Vl.sames l m=false->(s'.env 4).v=.bool false->k .ret s'=some r) :
  ∀ (n i:Nat),i + n=l.length->Vl.sames (l.drop i) (m.drop i)=Vl.sames l m->∀ s':aA,(s'.env 0).v=.sl b1 (l.map pA)->(s'.env 1).v=.sl b2 (m.map pA)->(s'.env 5).v=.int .i64 i->kI kA tA ND s' k=some r:=by
 intro n
 induction n with
 | zero =>
  intro i hi hf s' e0 e1 e5;have fa:¬ ((i:Int)<l.length):=by omega
  refine uA ?_;simp [ND,-V,GC,J,e0,e5,fa];refine hk _ ?_;rw [<- hf,ye (by omega),ye (by omega),Vl.sames]
 | succ n ih =>
  intro i hi hf s' e0 e1 e5;have fa:(i:Int)<l.length:=by omega
  have nf:i<l.length:=by omega
  have bh:i<m.length:=by omega
  have hw:=LA (i:=i);have g1:(l.map pA)[i]?=some (pA l[i]):=by simp [nf]
  have g2:(m.map pA)[i]?=some (pA m[i]):=by simp [bh]
  have hx:=hF l[i] (y5 _) m[i] (y5 _);rw [y9 nf,y9 bh,Vl.sames] at hf;generalize l[i]=x at *
  generalize m[i]=y at *
  simp only [sA,qA] at g1 g2 hx;refine uA ?_;cases h1:x.same y with
  | true =>
   rw [h1] at hx hf;simp [ND,-V,GC,J,e0,e1,e5,fa,g1,g2,gG,hx,hw];refine ih (i + 1) (by omega) (by simpa using hf) _ ?_ ?_ ?_ <;> simp [*]
  | false =>
   rw [h1] at hx hf;simp [ND,-V,GC,J,e0,e1,e5,fa,g1,g2,gG,hx];exact hr _ (by simpa using hf.symm) (by simp)
theorem B3 (l m:List Vl) (hl:l.length<=9223372036854775807) (hF:∀ x∈l,∀ y∈m,sA 71 [.agg (pA x),.agg (pA y)] (.bool (x.same y))) (b1 b2:Bool):sA 115 [.sl b1 (l.map pA),.sl b2 (m.map pA)] (.bool (Vl.sames l m)):=by
 refine wA (c:=NE) rfl rfl ?_;by_cases he:l.length=m.length
 ·simp [NE,-V,GC,J,he];refine rsames_lp l m hl he hF b1 b2 _ _ (fun s' hf=>?main) (fun s' hf h4=>?main2) l.length 0 (by simp) (by simp) _ ?_ ?_ ?_
  case main=>simp [-V,GC,J,hf]
  case main2=>simp [-V,GC,J,hf,h4]
  all_goals simp [he]
 ·have th:¬ (l.length:Int)=m.length:=by omega
  simp [NE,-V,GC,J,th,Vl.sames_len l m he]
theorem HT:∀ (n:Nat) (v w:Vl),SizeOf.sizeOf v<n->v.ok->sA 71 [.agg (pA v),.agg (pA w)] (.bool (v.same w)):=by
 intro n
 induction n with
 | zero=>intro v w h; omega
 | succ n ih =>
  intro v w hn hv;rw [Vl.ok_def] at hv;obtain ⟨o1,o2,o3,o4,o5,o6⟩:=hv;have ck:=B3 v.keys w.keys o1 (fun x hx y _=>ih x y (by have:=Vl.keys_lt v x hx; omega) (o5 x hx)) v.kn w.kn;have ze:=B3 v.items w.items o2 (fun x hx y _=>ih x y (by have:=Vl.items_lt v x hx; omega) (o6 x hx)) v.xn w.xn;simp only [sA] at ck ze;refine wA (c:=BB) rfl rfl ?_;rw [qA,qA,Vl.same_def];by_cases h1:v.kind=w.kind
  ·by_cases h2:v.b=w.b
   ·by_cases h3:v.i=w.i
    ·by_cases h4:v.s=w.s
     ·by_cases h5:v.id=w.id
      ·by_cases he:v.rest.length=w.rest.length
       ·simp [BB,-V,GC,J,h1,h2,h3,h4,h5,he];refine rrest_lp v w o3 he 1 _ _ (fun s' h6 e2 e3 m2 m3=>?main) (fun s' h6 e4=>?main2) v.rest.length 0 (by simp) (by simp) _ ?_ ?_ ?_ ?_ ?_
        case main =>
         cases h7:Vl.sames v.keys w.keys with
         | true=>rw [h7] at ck; simp [-V,GC,J,e2,e3,m2,m3,gG,ck,ze,h6]
         | false=>rw [h7] at ck; simp [-V,GC,J,e2,e3,m2,m3,gG,ck,h6]
        case main2=>simp [-V,GC,J,e4,h6]
        all_goals simp [h1,h2,h3,h4,h5]
       ·have th:¬ (v.rest.length:Int)=w.rest.length:=by omega
        have h6:¬ v.rest=w.rest:=fun h=>he (by rw [h])
        simp [BB,-V,GC,J,h1,h2,h3,h4,h5,th,h6]
      ·simp [BB,-V,GC,J,h1,h2,h3,h4,h5]
     ·simp [BB,-V,GC,J,h1,h2,h3,h4]
    ·simp [BB,-V,GC,J,h1,h2,h3]
   ·simp [BB,-V,GC,J,h1,h2]
  ·simp [BB,-V,GC,J,h1]
def bB.same (m m':bB):Bool:=decide (m.id=m'.id)&&decide (m.name=m'.name)&&decide (m.ty=m'.ty)&&(m.crit == m'.crit)&&(m.has == m'.has)&&m.dflt.same m'.dflt
def pB:List bB->List bB->Bool
 | [],[]=>true
 | m :: r,m' :: r'=>m.same m'&&pB r r'
 | [],_ :: _=>false
 | _ :: _,[]=>false
theorem GO:∀ l m:List bB,l.length≠m.length->pB l m=false
 | [],[],h=>absurd rfl h
 | [],_ :: _,_=>rfl
 | _ :: _,[],_=>rfl
 | v :: r,w :: r',h=>by rw [pB,GO r r' (by simpa using h)]; simp
def gA.same (t u:gA):Bool:=decide (t.kind=u.kind)&&decide (t.name=u.name)&&decide (t.low=u.low)&&decide (t.high=u.high)&&decide (t.max=u.max)&&decide (t.key=u.key)&&decide (t.elem=u.elem)&&(t.opn == u.opn)&&decide (t.syms=u.syms)&&pB t.mems u.mems
theorem msame_ev (m m':bB) (hm:m.ok):sA 211 [.agg (nA m),.agg (nA m')] (.bool (m.same m')):=by
 have hs:=same_ev _ m.dflt m'.dflt (Nat.lt_succ_self _) hm.1;simp only [sA,qA] at hs;refine wA (c:=zC) rfl rfl ?_;unfold bB.same nA;by_cases h1:m.id=m'.id
 ·by_cases h2:m.name=m'.name
  ·by_cases h3:m.ty=m'.ty
   ·by_cases h4:m.crit=m'.crit
    ·by_cases h5:m.has=m'.has
     ·simp [zC,-V,GC,J,h1,h2,h3,h4,h5,hs]
     ·simp [zC,-V,GC,J,h1,h2,h3,h4,h5]
    ·simp [zC,-V,GC,J,h1,h2,h3,h4]
   ·simp [zC,-V,GC,J,h1,h2,h3]
  ·simp [zC,-V,GC,J,h1,h2]
 ·simp [zC,-V,GC,J,h1]
theorem rmsame_ev (m m':bB) (hm:m.ok):sA 201 [.agg (nA m),.agg (nA m')] (.bool (m.same m')):=by
 have hs:=HT _ m.dflt m'.dflt (Nat.lt_succ_self _) hm.1;simp only [sA,qA] at hs;refine wA (c:=iC) rfl rfl ?_;unfold bB.same nA;by_cases h1:m.id=m'.id
 ·by_cases h2:m.name=m'.name
  ·by_cases h3:m.ty=m'.ty
   ·by_cases h4:m.crit=m'.crit
    ·by_cases h5:m.has=m'.has
     ·simp [iC,-V,GC,J,h1,h2,h3,h4,h5,hs]
     ·simp [iC,-V,GC,J,h1,h2,h3,h4,h5]
    ·simp [iC,-V,GC,J,h1,h2,h3,h4]
   ·simp [iC,-V,GC,J,h1,h2,h3]
  ·simp [iC,-V,GC,J,h1,h2]
 ·simp [iC,-V,GC,J,h1]
theorem syms_lp (rs qs:List eU) (hl:rs.length<=9223372036854775807) (he:rs.length=qs.length) (b1 b2:Bool) (r:RV) (k:Ex->aA->Option RV) (hk:∀ s',rs=qs->k (.exit 0) s'=some r) (hr:∀ s':aA,rs≠qs->(s'.env 4).v=.bool false->k .ret s'=some r) :
  ∀ (n i:Nat),i + n=rs.length->(rs.drop i=qs.drop i ↔ rs=qs)->∀ s':aA,(s'.env 0).v=.sl b1 (rs.map MD)->(s'.env 1).v=.sl b2 (qs.map MD)->(s'.env 12).v=.int .i64 rs.length->(s'.env 13).v=.int .i64 i->kI kA tA RB s' k=some r:=by
 intro n
 induction n with
 | zero =>
  intro i hi hf s' e0 e1 pg cq;have fa:¬ ((i:Int)<rs.length):=by omega
  refine uA ?_;simp [RB,-V,GC,J,pg,cq,fa];exact hk _ (hf.1 (by rw [ye (by omega),ye (by omega)]))
 | succ n ih =>
  intro i hi hf s' e0 e1 pg cq;have fa:(i:Int)<rs.length:=by omega
  have nf:i<rs.length:=by omega
  have bh:i<qs.length:=by omega
  have hw:=LA (i:=i);have g1:(rs.map MD)[i]?=some (MD rs[i]):=by simp [nf]
  have g2:(qs.map MD)[i]?=some (MD qs[i]):=by simp [bh]
  rw [y9 nf,y9 bh] at hf;simp only [List.cons.injEq] at hf;generalize rs[i]=x at *
  generalize qs[i]=y at *
  obtain ⟨xi,xd⟩:=x;obtain ⟨yi,yd⟩:=y;simp only [MD] at g1 g2;simp only [eU.mk.injEq] at hf;refine uA ?_;by_cases h1:xi=yi
  ·by_cases h2:xd=yd
   ·subst h1 h2;simp [RB,-V,GC,J,e0,e1,pg,cq,fa,g1,g2,GL,hw];refine ih (i + 1) (by omega) (by simpa using hf) _ ?_ ?_ ?_ ?_ <;> simp [*]
   ·subst h1;simp [RB,-V,GC,J,e0,e1,pg,cq,fa,g1,g2,GL,h2];exact hr _ (fun h=>h2 (hf.2 h).1.2) (by simp)
  ·simp [RB,-V,GC,J,e0,e1,pg,cq,fa,g1,g2,GL,h1];exact hr _ (fun h=>h1 (hf.2 h).1.1) (by simp)
theorem syms_ev (rs qs:List eU) (hl:rs.length<=9223372036854775807) (b1 b2:Bool):sA 209 [.sl b1 (rs.map MD),.sl b2 (qs.map MD)] (.bool (decide (rs=qs))):=by
 refine wA (c:=JC) rfl rfl ?_;by_cases he:rs.length=qs.length
 ·simp [JC,-V,GC,J,he];refine syms_lp rs qs hl he b1 b2 _ _ (fun s' hf=>?main) (fun s' hf h4=>?main2) rs.length 0 (by simp) (by simp) _ ?_ ?_ ?_ ?_
  case main=>simp [-V,GC,J,hf]
  case main2=>simp [-V,GC,J,hf,h4]
  all_goals simp [he]
 ·have th:¬ (rs.length:Int)=qs.length:=by omega
  have ta:rs≠qs:=fun h=>he (by rw [h])
  simp [JC,-V,GC,J,th,ta]
theorem eqm_lp (l m:List bB) (hl:l.length<=9223372036854775807) (he:l.length=m.length) (hF:∀ x∈l,x.ok) (b1 b2:Bool) (r:RV) (k:Ex->aA->Option RV) (hk:∀ s',pB l m=true->k (.exit 0) s'=some r) (hr:∀ s':aA,pB l m=false->(s'.env 6).v=.bool false->k .ret s'=some r) :
  ∀ (n i:Nat),i + n=l.length->pB (l.drop i) (m.drop i)=pB l m->∀ s':aA,(s'.env 1).v=.sl b2 (m.map nA)->(s'.env 2).v=.fn 211 []->(s'.env 15).v=.sl b1 (l.map nA)->(s'.env 16).v=.int .i64 l.length->(s'.env 17).v=.int .i64 i->kI kA tA UB s' k=some r:=by
 intro n
 induction n with
 | zero =>
  intro i hi hf s' e1 e2 bd je fi;have fa:¬ ((i:Int)<l.length):=by omega
  refine uA ?_;simp [UB,-V,GC,J,je,fi,fa];refine hk _ ?_;rw [<- hf,ye (by omega),ye (by omega),pB]
 | succ n ih =>
  intro i hi hf s' e1 e2 bd je fi;have fa:(i:Int)<l.length:=by omega
  have nf:i<l.length:=by omega
  have bh:i<m.length:=by omega
  have hw:=LA (i:=i);have g1:(l.map nA)[i]?=some (nA l[i]):=by simp [nf]
  have g2:(m.map nA)[i]?=some (nA m[i]):=by simp [bh]
  have hx:=msame_ev l[i] m[i] (hF l[i] (y5 _));rw [y9 nf,y9 bh,pB] at hf;generalize l[i]=x at *
  generalize m[i]=y at *
  simp only [sA,nA] at g1 g2 hx;refine uA ?_;cases h1:x.same y with
  | true =>
   rw [h1] at hx hf;simp [UB,-V,GC,J,e1,e2,bd,je,fi,fa,g1,g2,gG,JD,hx,hw];refine ih (i + 1) (by omega) (by simpa using hf) _ ?_ ?_ ?_ ?_ ?_ <;> simp [*]
  | false =>
   rw [h1] at hx hf;simp [UB,-V,GC,J,e1,e2,bd,je,fi,fa,g1,g2,gG,JD,hx];exact hr _ (by simpa using hf.symm) (by simp)
theorem eqm_ev (l m:List bB) (hl:l.length<=9223372036854775807) (hF:∀ x∈l,x.ok) (b1 b2:Bool):sA 210 [.sl b1 (l.map nA),.sl b2 (m.map nA),.fn 211 []] (.bool (pB l m)):=by
 refine wA (c:=qC) rfl rfl ?_;by_cases he:l.length=m.length
 ·simp [qC,-V,GC,J,he];refine eqm_lp l m hl he hF b1 b2 _ _ (fun s' hf=>?main) (fun s' hf h4=>?main2) l.length 0 (by simp) (by simp) _ ?_ ?_ ?_ ?_ ?_
  case main=>simp [-V,GC,J,hf]
  case main2=>simp [-V,GC,J,hf,h4]
  all_goals simp [he]
 ·have th:¬ (l.length:Int)=m.length:=by omega
  simp [qC,-V,GC,J,th,GO l m he]
theorem tsame_ev (t u:gA) (ht:t.ok):sA 187 [.agg (eA t),.agg (eA u)] (.bool (t.same u)):=by
 have hs:=syms_ev t.syms u.syms ht.1 t.sn u.sn;have hm:=eqm_ev t.mems u.mems ht.2.1 ht.2.2 t.mn u.mn;simp only [sA] at hs hm;refine wA (c:=ZB) rfl rfl ?_;unfold gA.same eA;by_cases h1:t.kind=u.kind
 ·by_cases h2:t.name=u.name
  ·by_cases h3:t.low=u.low
   ·by_cases h4:t.high=u.high
    ·by_cases h5:t.max=u.max
     ·by_cases h6:t.key=u.key
      ·by_cases h7:t.elem=u.elem
       ·by_cases h8:t.opn=u.opn
        ·by_cases h9:t.syms=u.syms
         ·rw [decide_eq_true h9] at hs;simp [ZB,-V,GC,J,h1,h2,h3,h4,h5,h6,h7,h8,hs,h9 ▸ hs,h9,gG,JD,hm]
         ·rw [decide_eq_false h9] at hs;simp [ZB,-V,GC,J,h1,h2,h3,h4,h5,h6,h7,h8,hs,h9]
        ·simp [ZB,-V,GC,J,h1,h2,h3,h4,h5,h6,h7,h8]
       ·simp [ZB,-V,GC,J,h1,h2,h3,h4,h5,h6,h7]
      ·simp [ZB,-V,GC,J,h1,h2,h3,h4,h5,h6]
     ·simp [ZB,-V,GC,J,h1,h2,h3,h4,h5]
    ·simp [ZB,-V,GC,J,h1,h2,h3,h4]
   ·simp [ZB,-V,GC,J,h1,h2,h3]
  ·simp [ZB,-V,GC,J,h1,h2]
 ·simp [ZB,-V,GC,J,h1]
abbrev MA (t:gA):List rA:=[⟨.int .i64 t.kind,.no⟩,⟨.str t.name,.no⟩,⟨.int .i64 t.low,.no⟩,⟨.int .i64 t.high,.no⟩,⟨.int .i64 t.max,.no⟩,⟨.sl t.sn (t.syms.map MD),.no⟩,⟨.sl t.mn (t.mems.map nA),.no⟩,⟨.int .i64 t.key,.no⟩,⟨.int .i64 t.elem,.no⟩,⟨.bool t.opn,.no⟩]
theorem rsyms_lp (v w:gA) (hl:v.syms.length<=9223372036854775807) (he:v.syms.length=w.syms.length) (m:Nat) (r:RV) (k:Ex->aA->Option RV)
  (hk:∀ s':aA,v.syms=w.syms->(s'.env 2).v=.ptr 2 m 0->(s'.env 3).v=.ptr 3 m 0->s'.mem 2 m=some (MA v)->s'.mem 3 m=some (MA w)->k (.exit 0) s'=some r) (hr:∀ s':aA,v.syms≠w.syms->(s'.env 4).v=.bool false->k .ret s'=some r) :
  ∀ (n i:Nat),i + n=v.syms.length->(v.syms.drop i=w.syms.drop i ↔ v.syms=w.syms)->∀ s':aA,(s'.env 2).v=.ptr 2 m 0->(s'.env 3).v=.ptr 3 m 0->s'.mem 2 m=some (MA v)->s'.mem 3 m=some (MA w)->(s'.env 5).v=.int .i64 i->kI kA tA GD s' k=some r:=by
 intro n
 induction n with
 | zero =>
  intro i hi hf s' e2 e3 m2 m3 e5;have fa:¬ ((i:Int)<v.syms.length):=by omega
  refine uA ?_;simp [GD,-V,GC,J,e2,e3,m2,m3,e5,fa];exact hk _ (hf.1 (by rw [ye (by omega),ye (by omega)])) (by simp [e2]) (by simp [e3]) (by simp [m2]) (by simp [m3])
 | succ n ih =>
  intro i hi hf s' e2 e3 m2 m3 e5;have fa:(i:Int)<v.syms.length:=by omega
  have nf:i<v.syms.length:=by omega
  have bh:i<w.syms.length:=by omega
  have hw:=LA (i:=i);have g1:(v.syms.map MD)[i]?=some (MD v.syms[i]):=by simp [nf]
  have g2:(w.syms.map MD)[i]?=some (MD w.syms[i]):=by simp [bh]
  rw [y9 nf,y9 bh] at hf;simp only [List.cons.injEq] at hf;generalize v.syms[i]=x at *
  generalize w.syms[i]=y at *
  obtain ⟨xi,xd⟩:=x;obtain ⟨yi,yd⟩:=y;simp only [MD] at g1 g2;simp only [eU.mk.injEq] at hf;refine uA ?_;by_cases h1:xi=yi
  ·by_cases h2:xd=yd
   ·subst h1 h2;simp [GD,-V,GC,J,e2,e3,m2,m3,e5,fa,g1,g2,GL,hw];refine ih (i + 1) (by omega) (by simpa using hf) _ ?_ ?_ ?_ ?_ ?_ <;> simp [*]
   ·subst h1;simp [GD,-V,GC,J,e2,e3,m2,m3,e5,fa,g1,g2,GL,h2];exact hr _ (fun h=>h2 (hf.2 h).1.2) (by simp)
  ·simp [GD,-V,GC,J,e2,e3,m2,m3,e5,fa,g1,g2,GL,h1];exact hr _ (fun h=>h1 (hf.2 h).1.1) (by simp)
theorem rmems_lp (v w:gA) (hl:v.mems.length<=9223372036854775807) (hF:∀ x∈v.mems,x.ok) (he:v.mems.length=w.mems.length) (m:Nat) (r:RV) (k:Ex->aA->Option RV)
  (hk:∀ s':aA,pB v.mems w.mems=true->k (.exit 2) s'=some r) (hr:∀ s':aA,pB v.mems w.mems=false->(s'.env 4).v=.bool false->k .ret s'=some r) :
  ∀ (n i:Nat),i + n=v.mems.length->pB (v.mems.drop i) (w.mems.drop i)=pB v.mems w.mems->∀ s':aA,(s'.env 2).v=.ptr 2 m 0->(s'.env 3).v=.ptr 3 m 0->s'.mem 2 m=some (MA v)->s'.mem 3 m=some (MA w)->(s'.env 6).v=.int .i64 i->kI kA tA TE s' k=some r:=by
 intro n
 induction n with
 | zero =>
  intro i hi hf s' e2 e3 m2 m3 e6;have fa:¬ ((i:Int)<v.mems.length):=by omega
  refine uA ?_;simp [TE,-V,GC,J,e2,e3,m2,m3,e6,fa];refine hk _ ?_;rw [<- hf,ye (by omega),ye (by omega),pB]
 | succ n ih =>
  intro i hi hf s' e2 e3 m2 m3 e6;have fa:(i:Int)<v.mems.length:=by omega
  have nf:i<v.mems.length:=by omega
  have bh:i<w.mems.length:=by omega
  have hw:=LA (i:=i);have g1:(v.mems.map nA)[i]?=some (nA v.mems[i]):=by simp [nf]
  have g2:(w.mems.map nA)[i]?=some (nA w.mems[i]):=by simp [bh]
  have hx:=rmsame_ev v.mems[i] w.mems[i] (hF _ (y5 _));rw [y9 nf,y9 bh,pB] at hf;generalize v.mems[i]=x at *
  generalize w.mems[i]=y at *
  simp only [sA,nA] at g1 g2 hx;refine uA ?_;cases h1:x.same y with
  | true =>
   rw [h1] at hx hf;simp [TE,-V,GC,J,e2,e3,m2,m3,e6,fa,g1,g2,gG,hx,hw];refine ih (i + 1) (by omega) (by simpa using hf) _ ?_ ?_ ?_ ?_ ?_ <;> simp [*]
  | false =>
   rw [h1] at hx hf;simp [TE,-V,GC,J,e2,e3,m2,m3,e6,fa,g1,g2,gG,hx];exact hr _ (by simpa using hf.symm) (by simp)
theorem rtsame_ev (t u:gA) (ht:t.ok):sA 179 [.agg (eA t),.agg (eA u)] (.bool (t.same u)):=by
 refine wA (c:=dB) rfl rfl ?_;unfold gA.same eA;by_cases h1:t.kind=u.kind
 ·by_cases h2:t.name=u.name
  ·by_cases h3:t.low=u.low
   ·by_cases h4:t.high=u.high
    ·by_cases h5:t.max=u.max
     ·by_cases h6:t.key=u.key
      ·by_cases h7:t.elem=u.elem
       ·by_cases h8:t.opn=u.opn
        ·by_cases h9:t.syms.length=u.syms.length
         ·by_cases zt:t.mems.length=u.mems.length
          ·simp [dB,-V,GC,J,h1,h2,h3,h4,h5,h6,h7,h8,h9,zt];refine rsyms_lp t u ht.1 h9 1 _ _ (fun s' h11 e2 e3 m2 m3=>?main) (fun s' h11 e4=>?main2) t.syms.length 0 (by simp) (by simp) _ ?_ ?_ ?_ ?_ ?_
           case main =>
            simp [-V,GC,J,h11];refine rmems_lp t u ht.2.1 ht.2.2 zt 1 _ _ (fun s' h12=>?a) (fun s' h12 e4=>?b) t.mems.length 0 (by simp) (by simp) _ ?_ ?_ ?_ ?_ ?_
            case a=>simp [-V,GC,J,h12]
            case b=>simp [-V,GC,J,h12,e4]
            all_goals simp [e2,e3,m2,m3]
           case main2=>simp [-V,GC,J,h11,e4]
           all_goals simp [h1,h2,h3,h4,h5,h6,h7,h8]
          ·have h10':¬ (t.mems.length:Int)=u.mems.length:=by omega
           simp [dB,-V,GC,J,h1,h2,h3,h4,h5,h6,h7,h8,h9,h10',GO _ _ zt]
         ·have h9':¬ (t.syms.length:Int)=u.syms.length:=by omega
          have h11:¬ t.syms=u.syms:=fun h=>h9 (by rw [h])
          simp [dB,-V,GC,J,h1,h2,h3,h4,h5,h6,h7,h8,h9',h11]
        ·simp [dB,-V,GC,J,h1,h2,h3,h4,h5,h6,h7,h8]
       ·simp [dB,-V,GC,J,h1,h2,h3,h4,h5,h6,h7]
      ·simp [dB,-V,GC,J,h1,h2,h3,h4,h5,h6]
     ·simp [dB,-V,GC,J,h1,h2,h3,h4,h5]
    ·simp [dB,-V,GC,J,h1,h2,h3,h4]
   ·simp [dB,-V,GC,J,h1,h2,h3]
  ·simp [dB,-V,GC,J,h1,h2]
 ·simp [dB,-V,GC,J,h1]
theorem anN_t (a:An):GC true a=.ex:=rfl
theorem anN_f (a:An):GC false a=a:=rfl
theorem anN_ex (b:Bool):GC b .ex=.ex:=by cases b <;> rfl
attribute [simp] anN_t anN_f anN_ex
theorem bA {b:C} {r:RV} (n:Nat) (I:Nat->aA->Prop) (E:Ex->aA->Prop)
  (step:∀ i,i<=n->∀ s k,I i s->(i<n->∀ s',I (i + 1) s'->kI kA tA b s' k=some r)->(∀ e s',E e s'->k e s'=some r)->kI kA tA b s k=some r)
  (s:aA) (k:Ex->aA->Option RV) (h:I 0 s) (hk:∀ e s',E e s'->k e s'=some r):kI kA tA b s k=some r:=by
 have:∀ m i,i + m=n->∀ s,I i s->kI kA tA b s k=some r:=by
  intro m
  induction m with
  | zero=>intro i hi s h; exact step i (by omega) s k h (fun fa=>absurd fa (by omega)) hk
  | succ m ih=>intro i hi s h; exact step i (by omega) s k h (fun _ s' h'=>ih (i + 1) (by omega) s' h') hk
 exact this n 0 (by omega) s h
instance memStr (s:ByteArray) (l:List ByteArray):Decidable (s∈l):=@List.instDecidableMemOfLawfulBEq _ instBEqOfDecidableEq _ s l
def AR (s:ByteArray) (l:List ByteArray):Bool:=decide (s∈l)
theorem XS {s:ByteArray} {l:List ByteArray} (h:s∈l):AR s l=true:=decide_eq_true h
theorem ZS {s:ByteArray} {l:List ByteArray} (h:¬ s∈l):AR s l=false:=decide_eq_false h
def SR (b n:Int):Bool:=decide (b<n)&&decide (1<=n)&&decide (n<=1000)
def TC:Int->List ByteArray->List (Int × ByteArray)->Bool
 | _,_,[]=>true
 | b,seen,(n,s) :: r=>SR b n&&!AR s seen&&GF s&&TC n (seen++[s]) r
def M4 (x:Int × ByteArray):List AV:=[.int .i64 x.1]
def nmC (x:Int × ByteArray):List AV:=[.str x.2]
def fJ (s:ByteArray):List AV:=[.str s,.bool true]
theorem RZ (s:ByteArray):∀ l:List ByteArray,UK (l.map fJ) (.str s)=if s∈l then some (AV.bool true) else none
 | []=>rfl
 | x :: r=>by
  simp only [yl,fJ,UK,xR];by_cases h:x=s
  ·simp [h]
  ·have h':¬ s=x:=fun e=>h e.symm
   have:=RZ s r;simp [h,h',this]
theorem TZ (s:ByteArray):∀ l:List ByteArray,¬ s∈l->NI (l.map fJ) (.str s) (.bool true)=(l++[s]).map fJ
 | [],_=>rfl
 | x :: r,hn=>by
  have h:¬ x=s:=fun e=>hn (by simp [e])
  have:=TZ s r fun e=>hn (by simp [e])
  simp [fJ,NI,xR,h,this]
theorem B5:∀ l:List ByteArray,GN .none (l.map fJ)=true
 | []=>rfl
 | x :: r=>by
  have:=B5 r;simp only [GN] at this;simp [GN,fJ,uJ,AV.flat,AV.scal]
def jE (l:List (Int × ByteArray)):Nat->Int
 | 0=>0
 | i + 1=>match l[i]? with
  | some x=>x.1
  | none=>0
theorem ids_ev (l:List (Int × ByteArray)) (hl:l.length<=9223372036854775807) (b1 b2:Bool):sA 207 [.sl b1 (l.map M4),.sl b2 (l.map nmC)] (.bool (TC 0 [] l&&decide (l.length<=16))):=by
 refine wA (c:=iM) rfl rfl ?_;simp [iM,-V,-y3,-y0,J];refine bA l.length (fun i s=>(s.env 0).v=.sl b1 (l.map M4)/\(s.env 1).v=.sl b2 (l.map nmC)/\(s.env 5).v=.mp 8 2/\(s.env 9).v=.sl b1 (l.map M4)/\(s.env 10).v=.int .i64 l.length/\(s.env 11).v=.int .i64 i/\s.obj 8 2=some (zH (((l.take i).map (·.2)).map fJ))/\TC (jE l i) ((l.take i).map (·.2)) (l.drop i)=TC 0 [] l)
  (fun e s=>(e=.exit 0/\TC 0 [] l=true/\(s.env 0).v=.sl b1 (l.map M4))\/(e=.ret/\TC 0 [] l=false/\(s.env 4).v=.bool false)) (fun i hi s k h ih hk=>?_) _ _ ?_ (fun e s h=>?_)
 ·obtain ⟨e0,e1,e5,e9,e10,zh,o,hs⟩:=h;refine uA ?_;by_cases fa:i<l.length
  ·have ga:(i:Int)<l.length:=by omega
   have g1:(l.map M4)[i]?=some (M4 l[i]):=by simp [fa]
   have g2:(l.map nmC)[i]?=some (nmC l[i]):=by simp [fa]
   have hw:=LA (i:=i);have ht:l.take (i + 1)=l.take i++[l[i]]:=(yr fa).symm;have hp:jE l (i + 1)=l[i].1:=by simp [jE,fa]
   have hn:=name_ev l[i].2;rw [y9 fa,TC] at hs;generalize hx:l[i]=x at *
   generalize hsn:(l.take i).map (·.2)=seen at *
   have hg:=RZ x.2 seen;have xw:=B5 seen;simp only [M4,nmC] at g1 g2;have hprev:(0<(i:Int)->∃ p,(l.map M4)[i - 1]?=some [.int .i64 p]/\jE l i=p):=fun h0=>by
    obtain ⟨j,rfl⟩:∃ j,i=j + 1:=⟨i - 1,by omega⟩;exact ⟨l[j].1,by simp [M4,show j<l.length from by omega],by simp [jE,show j<l.length from by omega]⟩
   have fail:∀ s',(s'.env 4).v=.bool false->(SR (jE l i) x.1&&!AR x.2 seen&&GF x.2)=false->k .ret s'=some (.bool (TC 0 [] l&&decide (l.length<=16)),none):=fun s' h4 hf=>hk _ _ (.inr ⟨rfl,by rw [<- hs,hf]; rfl,h4⟩)
   obtain ⟨z,hz⟩:∃ z:Int,z=i:=⟨_,rfl⟩;have bc:0<=z:=by omega
   have hzt:z.toNat=i:=by omega
   have ki:z<l.length:=by omega
   have zi:IntKind.i64.wrap (z + 1)=((i + 1:Nat):Int):=by rw [hz]; exact hw
   rw [<- hz] at zh;rw [<- hzt] at g1 g2;by_cases c1:x.1<1
   ·simp [EB,-V,-y3,-y0,J,e0,e1,e5,e9,e10,zh,ki,bc,g1,c1];exact fail _ (by simp) (by simp [SR,show ¬ 1<=x.1 from by omega])
   by_cases c2:1000<x.1
   ·simp [EB,-V,-y3,-y0,J,e0,e1,e5,e9,e10,zh,ki,bc,g1,c1,c2];exact fail _ (by simp) (by simp [SR,show ¬ x.1<=1000 from by omega])
   have rest:(¬ 0<z\/∃ y p,0<z/\IntKind.i64.wrap (z - 1)=y/\0<=y/\(l.map M4)[y.toNat]?=some [.int .i64 p]/\¬ x.1<=p)->jE l i<x.1->EB.run (BI kA tA) (aN kA tA) s (AM (kI kA tA) EB k)=some (.bool (TC 0 [] l&&decide (l.length<=16)),none):=by
    intro h0 hlast;by_cases c5:x.2∈seen
    ·rw [if_pos c5] at hg;rcases h0 with c3 | ⟨y,p,c3,hy,tg,zj,oy⟩
     ·simp [EB,-V,-y3,-y0,J,e0,e1,e5,e9,e10,zh,ki,bc,g1,g2,c1,c2,c3,o,BJ,xw,uJ,AV.flat,AV.scal,hg];exact fail _ (by simp) (by simp [XS c5])
     ·simp [EB,-V,-y3,-y0,J,e0,e1,e5,e9,e10,zh,ki,bc,g1,g2,c1,c2,c3,hy,tg,zj,oy,o,BJ,xw,uJ,AV.flat,AV.scal,hg];exact fail _ (by simp) (by simp [XS c5])
    ·rw [if_neg c5] at hg;have mb:=TZ x.2 seen c5;cases c6:GF x.2 with
     | false =>
      rw [c6] at hn;rcases h0 with c3 | ⟨y,p,c3,hy,tg,zj,oy⟩
      ·simp [EB,-V,-y3,-y0,J,e0,e1,e5,e9,e10,zh,ki,bc,g1,g2,c1,c2,c3,o,BJ,xw,uJ,AV.flat,AV.scal,hg,hn];exact fail _ (by simp) (by simp [c6])
      ·simp [EB,-V,-y3,-y0,J,e0,e1,e5,e9,e10,zh,ki,bc,g1,g2,c1,c2,c3,hy,tg,zj,oy,o,BJ,xw,uJ,AV.flat,AV.scal,hg,hn];exact fail _ (by simp) (by simp [c6])
     | true =>
      rw [c6] at hn;have mg:TC x.1 (seen++[x.2]) (l.drop (i + 1))=TC 0 [] l:=by rw [<- hs]; simp [SR,ZS c5,c6,hlast,show 1<=x.1 from by omega,show x.1<=1000 from by omega]
      rcases h0 with c3 | ⟨y,p,c3,hy,tg,zj,oy⟩
      ·simp [EB,-V,-y3,-y0,J,e0,e1,e5,e9,e10,zh,ki,bc,g1,g2,c1,c2,c3,o,BJ,xw,uJ,AV.flat,AV.scal,hg,hn,mb,zi];refine ih fa _ ⟨?_,?_,?_,?_,?_,?_,?_,?_⟩ <;> simp [ht,hsn,hp,mg,e0,e1,e5,e9,e10]
      ·simp [EB,-V,-y3,-y0,J,e0,e1,e5,e9,e10,zh,ki,bc,g1,g2,c1,c2,c3,hy,tg,zj,oy,o,BJ,xw,uJ,AV.flat,AV.scal,hg,hn,mb,zi];refine ih fa _ ⟨?_,?_,?_,?_,?_,?_,?_,?_⟩ <;> simp [ht,hsn,hp,mg,e0,e1,e5,e9,e10]
   by_cases c3:0<(i:Int)
   ·obtain ⟨p,hp1,zj⟩:=hprev c3;have c3z:0<z:=by omega
    have aq:IntKind.i64.wrap (z - 1)=((i - 1:Nat):Int):=by rw [IntWalk.i64_in _ (by omega)]; omega
    obtain ⟨y,hy⟩:∃ y:Int,y=((i - 1:Nat):Int):=⟨_,rfl⟩;have tg:0<=y:=by omega
    rw [<- hy] at aq;rw [show i - 1=y.toNat from by omega] at hp1;by_cases c4:x.1<=p
    ·simp [EB,-V,-y3,-y0,J,e0,e1,e5,e9,e10,zh,ki,bc,g1,c1,c2,c3z,aq,tg,hp1,c4];exact fail _ (by simp) (by simp [SR,zj,show ¬ p<x.1 from by omega])
    ·exact rest (.inr ⟨y,p,c3z,aq,tg,hp1,c4⟩) (by rw [zj]; omega)
   ·have h0:i=0:=by omega
    subst h0;exact rest (.inl (by omega)) (by simp only [jE]; omega)
  ·have ga:¬ (i:Int)<l.length:=by omega
   simp [EB,-V,-y3,-y0,J,e10,zh,ga];refine hk _ _ (.inl ⟨rfl,?_,by simp [e0]⟩);rw [<- hs,ye (by omega),TC]
 ·simp [zH,jE]
 ·rcases h with ⟨rfl,h1,h2⟩ | ⟨rfl,h1,h2⟩ <;> simp [-V,-y3,-y0,J,h1,h2]
  omega
def zI (x:eU):Int × ByteArray:=(x.id,x.name)
def PF (x:bB):Int × ByteArray:=(x.id,x.name)
def JK (l:List eU):Bool:=decide (0<l.length)&&(TC 0 [] (l.map zI)&&decide (l.length<=16))
theorem symbols_ev (l:List eU) (hl:l.length<=8796093022206) (b:Bool):sA 185 [.sl b (l.map MD)] (.bool (JK l)):=by
 refine wA (c:=SH) rfl rfl ?_;have wh:=fun b1 b2=>ids_ev (l.map zI) (by simp; omega) b1 b2
 simp only [sA] at wh;simp [SH,-V,-y3,-y0,J];refine bA l.length (fun i s=>(s.env 0).v=.sl b (l.map MD)/\(s.env 7).v=.sl b (l.map MD)/\(s.env 8).v=.int .i64 l.length/\(s.env 9).v=.int .i64 i/\(s.env 3).v=.sl (l.take i).isEmpty (((l.take i).map zI).map M4)/\(s.env 4).v=.sl (l.take i).isEmpty (((l.take i).map zI).map nmC)/\((s.env 3).a=.ex/\(s.env 4).a=.ex\/(l.take i).isEmpty=false/\(s.env 3).a=.own 17 3/\(s.env 4).a=.own 22 9))
  (fun e s=>e=.exit 0/\(s.env 0).v=.sl b (l.map MD)/\(s.env 3).v=.sl l.isEmpty ((l.map zI).map M4)/\(s.env 4).v=.sl l.isEmpty ((l.map zI).map nmC)) (fun i hi s k h ih hk=>?_) _ _ ?_ (fun e s h=>?_)
 ·obtain ⟨e0,e7,e8,e9,e3,e4,an⟩:=h;refine uA ?_;by_cases fa:i<l.length
  ·have ga:(i:Int)<l.length:=by omega
   have g1:(l.map MD)[i]?=some (MD l[i]):=by simp [fa]
   have hw:=LA (i:=i);have ht:l.take (i + 1)=l.take i++[l[i]]:=(yr fa).symm;generalize l[i]=x at *
   simp only [MD] at g1;have ba:(l.take i).length=i:=by simp; omega
   generalize l.take i=t at *
   have eg:PB 8 (t.length + 1)=true:=by rw [CA]; omega
   have wi:PB 16 (t.length + 1)=true:=by rw [CA]; omega
   have q1:kB 1 ((t.map zI).map M4)=true:=rD _ _ _ fun _=>rfl
   have q2:kB 1 ((t.map zI).map nmC)=true:=rD _ _ _ fun _=>rfl
   rcases an with ⟨a3,a4⟩ | ⟨a0,a3,a4⟩
   ·simp [CF,-V,-y3,-y0,J,e0,e7,e8,e9,e3,e4,a3,a4,ga,g1,hw,eg,wi,q1,q2];refine ih fa _ ⟨?_,?_,?_,?_,?_,?_,?_⟩ <;> simp [ht,e0,e7,e8,M4,nmC,zI]
   ·simp [CF,-V,-y3,-y0,J,e0,e7,e8,e9,e3,e4,a0,a3,a4,ga,g1,hw,eg,wi,q1,q2];refine ih fa _ ⟨?_,?_,?_,?_,?_,?_,?_⟩ <;> simp [ht,e0,e7,e8,M4,nmC,zI]
  ·have ga:¬ (i:Int)<l.length:=by omega
   simp [CF,-V,-y3,-y0,J,e8,e9,ga];rw [yv (by omega)] at e3 e4;exact hk _ _ ⟨rfl,by simp [e0],by simp [e3],by simp [e4]⟩
 ·simp
 ·obtain ⟨rfl,e0,e3,e4⟩:=h;unfold JK;by_cases h0:0<l.length
  ·have sf:(0:Int)<l.length:=by omega
   simp [-V,-y3,-y0,J,e0,e3,e4,h0,sf,wh]
  ·have sf:¬ (0:Int)<l.length:=by omega
   simp [-V,-y3,-y0,J,e0,e3,e4,h0,sf]
theorem rid_ev (b n:Int):sA 204 [.int .i64 b,.int .i64 n] (.bool (SR b n)):=by
 refine wA (c:=WO) rfl rfl ?_;unfold SR;by_cases h1:b<n <;> by_cases h2:1<=n <;> simp [WO,-V,-y3,-y0,J,h1,h2]
theorem s9 (l:List eU) (hl:l.length<=8796093022206) (b:Bool):sA 182 [.sl b (l.map MD)] (.bool (JK l)):=by
 refine wA (c:=UI) rfl rfl ?_;simp [UI,-V,-y3,-y0,J];have g0:∀ j,j<l.length->∃ x,l[j]?=some x:=fun j hj=>⟨l[j],by simp [hj]⟩
 refine bA l.length (fun i s=>(s.env 0).v=.sl b (l.map MD)/\(s.env 3).v=.int .i64 (jE (l.map zI) i)/\(s.env 4).v=.int .i64 i/\TC (jE (l.map zI) i) ((l.map zI).take i |>.map (·.2)) ((l.map zI).drop i)=TC 0 [] (l.map zI))
  (fun e s=>(e=.exit 0/\TC 0 [] (l.map zI)=true/\(s.env 0).v=.sl b (l.map MD))\/(e=.ret/\TC 0 [] (l.map zI)=false/\(s.env 2).v=.bool false)) (fun i hi s k h ih hk=>?_) _ _ ?_ (fun e s h=>?_)
 ·obtain ⟨e0,e3,e4,hs⟩:=h;refine uA ?_;by_cases fa:i<l.length
  ·have ga:(i:Int)<l.length:=by omega
   have g1:(l.map MD)[i]?=some (MD l[i]):=by simp [fa]
   have hw:=LA (i:=i);have fe:i<(l.map zI).length:=by simpa using fa
   have hp:jE (l.map zI) (i + 1)=l[i].id:=by simp [jE,fa,zI]
   have hn:=bZ l[i].name;have LN:=rid_ev (jE (l.map zI) i) l[i].id;have dh:(l.map zI)[i]=zI l[i]:=by simp
   have ht:((l.map zI).take (i + 1)).map (·.2)=((l.map zI).take i).map (·.2)++[l[i].name]:=by rw [<- yr fe,dh]; simp [zI]
   rw [y9 fe,dh] at hs;obtain ⟨x,hx⟩:∃ x,x=l[i]:=⟨_,rfl⟩;rw [<- hx] at g1 hp hn LN ht hs;simp only [zI,TC] at hs;have fail:∀ s',(s'.env 2).v=.bool false->(SR (jE (l.map zI) i) x.id&&!AR x.name (((l.map zI).take i).map (·.2))&&GF x.name)=false->k .ret s'=some (.bool (JK l),none):=fun s' h4 hf=>hk _ _ (.inr ⟨rfl,by rw [<- hs,hf]; rfl,h4⟩)
   simp only [sA] at hn LN;simp only [MD] at g1;cases c1:SR (jE (l.map zI) i) x.id with
   | false =>
    rw [c1] at LN;simp [wF,-V,-y3,-y0,J,e0,e3,e4,ga,g1,LN];exact fail _ (by simp) (by simp [c1])
   | true =>
    rw [c1] at LN;cases c2:GF x.name with
    | false =>
     rw [c2] at hn;simp [wF,-V,-y3,-y0,J,e0,e3,e4,ga,g1,LN,hn];exact fail _ (by simp) (by simp [c2])
    | true =>
     rw [c2] at hn;simp [wF,-V,-y3,-y0,J,e0,e3,e4,ga,g1,LN,hn];have zm:((l.map zI).take i).map (·.2)=(l.take i).map eU.name:=by simp [<- List.map_take,zI,Function.comp_def]
     refine bA i (fun j s=>(s.env 0).v=.sl b (l.map MD)/\(s.env 4).v=.int .i64 i/\(s.env 5).v=.int .i64 j/\¬ x.name∈(l.take j).map eU.name)
      (fun e s=>(e=.exit 2/\¬ x.name∈(l.take i).map eU.name/\(s.env 0).v=.sl b (l.map MD)/\(s.env 4).v=.int .i64 i)\/(e=.ret/\x.name∈(l.take i).map eU.name/\(s.env 2).v=.bool false)) (fun j hj s k' h dt tc=>?_) _ _ ?_ (fun e s h=>?_)
     ·obtain ⟨e0,e4,e5,hm⟩:=h;refine uA ?_;by_cases hji:j<i
      ·have bk:(j:Int)<i:=by omega
       have g2:(l.map MD)[j]?=some (MD l[j]):=by simp [show j<l.length from by omega]
       have hwj:=LA (i:=j);have htj:l.take (j + 1)=l.take j++[l[j]]:=(yr (by omega)).symm;simp only [MD] at g2;by_cases kg:l[j].name=x.name
       ·simp [nG,-V,-y3,-y0,J,e0,e4,e5,bk,g1,g2,kg];refine tc _ _ (.inr ⟨rfl,?_,by simp⟩);rw [<- kg];exact List.mem_map_of_mem (List.mem_take_iff_getElem.2 ⟨j,by omega,rfl⟩)
       ·simp [nG,-V,-y3,-y0,J,e0,e4,e5,bk,g1,g2,kg,hwj];refine dt hji _ ⟨?_,?_,?_,?_⟩
        ·simp [e0]
        ·simp [e4]
        ·simp
        ·rw [htj,List.map_append,yE];rintro (h | h)
         ·exact hm h
         ·simp at h; exact kg h.symm
      ·have bk:¬ (j:Int)<i:=by omega
       have ay:j=i:=by omega
       simp [nG,-V,-y3,-y0,J,e4,e5,bk];exact tc _ _ (.inl ⟨rfl,ay ▸ hm,by simp [e0],by simp [e4]⟩)
     ·simp [e0,e4]
     ·rcases h with ⟨rfl,h1,e0,e4⟩ | ⟨rfl,h1,e2⟩
      ·simp [-V,-y3,-y0,J,e0,e4,g1,hw];refine ih fa _ ⟨?_,?_,?_,?_⟩
       ·simp [e0]
       ·simp [hp]
       ·simp
       ·rw [hp,ht,<- hs,c1,c2,zm,ZS h1];rfl
      ·simp [-V,-y3,-y0,J];exact fail _ e2 (by rw [zm,XS h1]; simp)
  ·have ga:¬ (i:Int)<l.length:=by omega
   simp [wF,-V,-y3,-y0,J,e0,e4,ga];refine hk _ _ (.inl ⟨rfl,?_,by simp [e0]⟩);rw [<- hs,ye (by simp; omega),TC]
 ·simp [jE]
 ·unfold JK;rcases h with ⟨rfl,h1,e0⟩ | ⟨rfl,h1,e2⟩
  ·by_cases h0:0<l.length
   ·have sf:(1:Int)<=l.length:=by omega
    simp [-V,-y3,-y0,J,e0,h0,sf,h1];omega
   ·have sf:¬ (1:Int)<=l.length:=by omega
    simp [-V,-y3,-y0,J,e0,h0,sf,h1]
  ·simp [-V,-y3,-y0,J,h1,e2]
theorem blank_ev (v:Vl) (hv:v.ok):sA 208 [.agg (pA v)] (.bool (v.same Vl.zero)):=by
 have h:=same_ev _ v Vl.zero (Nat.lt_succ_self _) hv;refine wA (c:=JJ) rfl rfl ?_;simp only [sA,qA,Vl.zero,Vl.kind,Vl.b,Vl.i,Vl.s,Vl.id,Vl.kn,Vl.keys,Vl.xn,Vl.items,Vl.rn,Vl.rest,yo] at h ⊢;simp [JJ,-V,-y3,-y0,J,h]
theorem rblank_ev (v:Vl) (hv:v.ok):sA 71 [.agg (pA v),.agg [.int .i64 0,.bool false,.int .i64 0,.str ⟨#[]⟩,.int .i64 0,.sl true [],.sl true [],.sl true []]] (.bool (v.same Vl.zero)):=by
 have h:=HT _ v Vl.zero (Nat.lt_succ_self _) hv;simp only [sA,qA,Vl.zero,Vl.kind,Vl.b,Vl.i,Vl.s,Vl.id,Vl.kn,Vl.keys,Vl.xn,Vl.items,Vl.rn,Vl.rest,yo] at h ⊢;exact h
def mB (rec:Bool) (m:bB):Bool:=!(!rec&&(m.crit||m.has))&&!(m.crit&&m.has)&&(m.has||m.dflt.same Vl.zero)
def cH (rec:Bool) (l:List bB):Bool:=l.all (mB rec)&&((rec||decide (0<l.length))&&(TC 0 [] (l.map PF)&&decide (l.length<=16)))
theorem members_ev (t:gA) (ht:t.ok) (hl:t.mems.length<=8796093022206) (hk:t.kind=5\/t.kind=6):sA 186 [.agg (eA t)] (.bool (cH (decide (t.kind=5)) t.mems)):=by
 obtain ⟨rc,hrc⟩:∃ rc,rc=decide (t.kind=5):=⟨_,rfl⟩;have hk:t.kind=5/\rc=true\/t.kind=6/\rc=false:=by
  rcases hk with h | h
  ·exact .inl ⟨h,by rw [hrc,h]; rfl⟩
  ·exact .inr ⟨h,by rw [hrc,h]; rfl⟩
 rw [<- hrc];clear hrc;refine wA (c:=AH) rfl rfl ?_;have wh:=fun b1 b2=>ids_ev (t.mems.map PF) (by simp; omega) b1 b2
 simp only [sA] at wh;simp [AH,-V,-y3,-y0,J,eA];refine bA t.mems.length (fun i s=>(s.env 1).v=.ptr 1 1 0/\s.mem 1 1=some (MA t)/\(s.env 8).v=.sl t.mn (t.mems.map nA)/\(s.env 9).v=.int .i64 t.mems.length/\(s.env 10).v=.int .i64 i/\(s.env 3).v=.sl (t.mems.take i).isEmpty (((t.mems.take i).map PF).map M4)/\(s.env 4).v=.sl (t.mems.take i).isEmpty (((t.mems.take i).map PF).map nmC)/\((t.mems.take i).isEmpty=(t.mems.take i).isEmpty/\(s.env 3).a=.ex/\(s.env 4).a=.ex\/(t.mems.take i).isEmpty=false/\(s.env 3).a=.own 18 3/\(s.env 4).a=.own 23 9)/\(t.mems.drop i).all (mB rc)=t.mems.all (mB rc))
  (fun e s=>(e=.exit 0/\t.mems.all (mB rc)=true/\(s.env 1).v=.ptr 1 1 0/\s.mem 1 1=some (MA t)/\(s.env 3).v=.sl t.mems.isEmpty ((t.mems.map PF).map M4)/\(s.env 4).v=.sl t.mems.isEmpty ((t.mems.map PF).map nmC))\/(e=.ret/\t.mems.all (mB rc)=false/\(s.env 2).v=.bool false)) (fun i hi s k h ih tc=>?_) _ _ ?_ (fun e s h=>?_)
 ·obtain ⟨e1,m1,e8,e9,e10,e3,e4,an,hs⟩:=h;refine uA ?_;by_cases fa:i<t.mems.length
  ·have ga:(i:Int)<t.mems.length:=by omega
   have g1:(t.mems.map nA)[i]?=some (nA t.mems[i]):=by simp [fa]
   have hw:=LA (i:=i);have zy:t.mems.take (i + 1)=t.mems.take i++[t.mems[i]]:=(yr fa).symm;have nj:=blank_ev t.mems[i].dflt (ht.2.2 _ (y5 _)).1;rw [y9 fa,List.all_cons] at hs;generalize t.mems[i]=x at *
   simp only [nA] at g1;simp only [sA,qA] at nj;have ba:(t.mems.take i).length=i:=by simp; omega
   generalize hq:t.mems.take i=q at *
   have eg:PB 8 (q.length + 1)=true:=by rw [CA]; omega
   have wi:PB 16 (q.length + 1)=true:=by rw [CA]; omega
   have q1:kB 1 ((q.map PF).map M4)=true:=rD _ _ _ fun _=>rfl
   have q2:kB 1 ((q.map PF).map nmC)=true:=rD _ _ _ fun _=>rfl
   have fail:∀ s',(s'.env 2).v=.bool false->mB rc x=false->k .ret s'=some (.bool (cH rc t.mems),none):=fun s' h4 hf=>tc _ _ (.inr ⟨rfl,by rw [<- hs,hf]; rfl,h4⟩)
   have good:mB rc x=true->(t.mems.drop (i + 1)).all (mB rc)=t.mems.all (mB rc):=fun h=>by rw [<- hs,h]; rfl
   generalize hB:t.mems.all (mB rc)=B at *
   cases hg:mB rc x with
   | false =>
    cases hz:x.dflt.same Vl.zero <;> rw [hz] at nj <;> rcases hk with ⟨h5,rfl⟩ | ⟨h5,rfl⟩ <;> cases hc:x.crit <;> cases hh:x.has <;> first | (simp [mB,hc,hh,hz] at hg; done) | skip
    all_goals rcases an with ⟨a0,a3,a4⟩ | ⟨a0,a3,a4⟩ <;>
     simp [XF,-V,-y3,-y0,J,e1,m1,e8,e9,e10,e3,e4,a0,a3,a4,ga,g1,hw,eg,wi,q1,q2,hc,hh,h5,nj]
    all_goals exact fail _ (by simp) hg
   | true =>
    have good:=good hg;cases hz:x.dflt.same Vl.zero <;> rw [hz] at nj <;> rcases hk with ⟨h5,rfl⟩ | ⟨h5,rfl⟩ <;> cases hc:x.crit <;> cases hh:x.has <;> first | (simp [mB,hc,hh,hz] at hg; done) | skip
    all_goals rcases an with ⟨a0,a3,a4⟩ | ⟨a0,a3,a4⟩ <;>
     simp [XF,-V,-y3,-y0,J,e1,m1,e8,e9,e10,e3,e4,a0,a3,a4,ga,g1,hw,eg,wi,q1,q2,hc,hh,h5,nj]
    all_goals refine ih fa _ ⟨?_,?_,?_,?_,?_,?_,?_,?_,good⟩
    all_goals simp [zy,e1,m1,e8,e9,M4,nmC,PF,An.strip]
  ·have ga:¬ (i:Int)<t.mems.length:=by omega
   simp [XF,-V,-y3,-y0,J,e9,e10,ga];rw [yv (by omega)] at e3 e4;rw [ye (by omega)] at hs;exact tc _ _ (.inl ⟨rfl,hs.symm,by simp [e1],by simp [m1],by simp [e3],by simp [e4]⟩)
 ·simp
 ·unfold cH;rcases h with ⟨rfl,h1,e1,m1,e3,e4⟩ | ⟨rfl,h1,e2⟩
  ·rw [h1];rcases hk with ⟨h5,rfl⟩ | ⟨h5,rfl⟩
   ·simp [-V,-y3,-y0,J,e1,m1,e3,e4,h5,wh]
   ·by_cases h0:0<t.mems.length
    ·have sf:(0:Int)<t.mems.length:=by omega
     simp [-V,-y3,-y0,J,e1,m1,e3,e4,h5,h0,sf,wh]
    ·have sf:¬ (0:Int)<t.mems.length:=by omega
     simp [-V,-y3,-y0,J,e1,m1,e3,e4,h5,h0,sf]
  ·simp [-V,-y3,-y0,J,h1,e2]
theorem r9 (l:List bB) (hl:l.length<=8796093022206) (na:∀ m∈l,m.ok) (b rec:Bool):sA 183 [.sl b (l.map nA),.bool rec] (.bool (cH rec l)):=by
  refine wA (c:=WI) rfl rfl ?_;simp [WI,-V,-y3,-y0,J];refine bA l.length (fun i s=>(s.env 0).v=.sl b (l.map nA)/\(s.env 1).v=.bool rec/\(s.env 5).v=.int .i64 (jE (l.map PF) i)/\(s.env 6).v=.int .i64 i/\(TC (jE (l.map PF) i) ((l.map PF).take i |>.map (·.2)) ((l.map PF).drop i)&&(l.drop i).all (mB rec))=(TC 0 [] (l.map PF)&&l.all (mB rec)))
    (fun e s=>(e=.exit 0/\(TC 0 [] (l.map PF)&&l.all (mB rec))=true/\(s.env 0).v=.sl b (l.map nA)/\(s.env 1).v=.bool rec)\/(e=.ret/\(TC 0 [] (l.map PF)&&l.all (mB rec))=false/\(s.env 4).v=.bool false)) (fun i hi s k h ih hk=>?_) _ _ ?_ (fun e s h=>?_)
  · obtain ⟨e0,e1,e5,e6,hs⟩:=h
    refine uA ?_;by_cases fa:i<l.length
    · have ga:(i:Int)<l.length:=by omega
      have g1:(l.map nA)[i]?=some (nA l[i]):=by simp [fa]
      have hw:=LA (i:=i);have fe:i<(l.map PF).length:=by simpa using fa
      have hp:jE (l.map PF) (i + 1)=l[i].id:=by simp [jE,fa,PF]
      have hn:=bZ l[i].name;have LN:=rid_ev (jE (l.map PF) i) l[i].id;have nj:=rblank_ev l[i].dflt (na _ (y5 _)).1;have dh:(l.map PF)[i]=PF l[i]:=by simp
      have ht:((l.map PF).take (i + 1)).map (·.2)=((l.map PF).take i).map (·.2)++[l[i].name]:=by rw [<- yr fe,dh]; simp [PF]
      rw [y9 fe,dh,y9 fa,List.all_cons] at hs;obtain ⟨x,hx⟩:∃ x,x=l[i]:=⟨_,rfl⟩;rw [<- hx] at g1 hp hn LN ht hs nj;simp only [TC] at hs;have uz:((SR (jE (l.map PF) i) x.id&&!AR x.name (((l.map PF).take i).map (·.2))&&GF x.name&&mB rec x)&&(TC x.id (((l.map PF).take i).map (·.2)++[x.name]) ((l.map PF).drop (i + 1))&&(l.drop (i + 1)).all (mB rec)))=(TC 0 [] (l.map PF)&&l.all (mB rec)):=by
        rw [<- hs];simp only [PF,Bool.and_assoc];congr 1;congr 1;congr 1;rw [<- Bool.and_assoc,<- Bool.and_assoc,Bool.and_comm (mB rec x)]
      clear hs;have fail:∀ s',(s'.env 4).v=.bool false->(SR (jE (l.map PF) i) x.id&&!AR x.name (((l.map PF).take i).map (·.2))&&GF x.name&&mB rec x)=false->k .ret s'=some (.bool (cH rec l),none):=fun s' h4 hf=>hk _ _ (.inr ⟨rfl,by rw [<- uz,hf]; rfl,h4⟩)
      simp only [sA,qA] at hn LN nj;simp only [nA] at g1;cases c1:SR (jE (l.map PF) i) x.id with
      | false =>
        rw [c1] at LN;simp [iE,-V,-y3,-y0,J,e0,e1,e5,e6,ga,g1,LN];exact fail _ (by simp) (by simp [c1])
      | true =>
        rw [c1] at LN;cases c2:GF x.name with
        | false =>
          rw [c2] at hn;simp [iE,-V,-y3,-y0,J,e0,e1,e5,e6,ga,g1,LN,hn];exact fail _ (by simp) (by simp [c2])
        | true =>
          rw [c2] at hn;have zm:((l.map PF).take i).map (·.2)=(l.take i).map bB.name:=by simp [<- List.map_take,PF,Function.comp_def]
          have inner:∀ s:aA,mB rec x=true->(s.env 0).v=.sl b (l.map nA)->(s.env 1).v=.bool rec->(s.env 6).v=.int .i64 i->(s.env 8).v=.int .i64 0->∀ p,(s.env 7).v=.ptr 7 p 0->s.mem 7 p=some ((nA x).map (⟨·,.no⟩)) →
              ∀ k2:Ex->aA->Option RV,(∀ s',(s'.env 4).v=.bool false->k2 .ret s'=k .ret s')->(∀ s',(s'.env 0).v=.sl b (l.map nA)->(s'.env 1).v=.bool rec->(s'.env 6).v=.int .i64 i->(s'.env 7).v=.ptr 7 p 0->s'.mem 7 p=some ((nA x).map (⟨·,.no⟩))->¬ x.name∈(l.take i).map bB.name->k2 (.exit 2) s'=some (.bool (cH rec l),none)) →
              kI kA tA qF s k2=some (.bool (cH rec l),none):=by
            intro s sj e0 e1 e6 e8 p e7 m7 k2 hk2 hk3;refine bA i (fun j s=>(s.env 0).v=.sl b (l.map nA)/\(s.env 1).v=.bool rec/\(s.env 6).v=.int .i64 i/\(s.env 7).v=.ptr 7 p 0/\s.mem 7 p=some ((nA x).map (⟨·,.no⟩))/\(s.env 8).v=.int .i64 j/\¬ x.name∈(l.take j).map bB.name)
              (fun e s=>(e=.exit 2/\¬ x.name∈(l.take i).map bB.name/\(s.env 0).v=.sl b (l.map nA)/\(s.env 1).v=.bool rec/\(s.env 6).v=.int .i64 i/\(s.env 7).v=.ptr 7 p 0/\s.mem 7 p=some ((nA x).map (⟨·,.no⟩)))\/(e=.ret/\x.name∈(l.take i).map bB.name/\(s.env 4).v=.bool false)) (fun j hj s k' h dt tc=>?_) _ _ ?_ (fun e s h=>?_)
            · obtain ⟨e0,e1,e6,e7,m7,e8,hm⟩:=h
              refine uA ?_;by_cases hji:j<i
              · have bk:(j:Int)<i:=by omega
                have g2:(l.map nA)[j]?=some (nA l[j]):=by simp [show j<l.length from by omega]
                have hwj:=LA (i:=j);have htj:l.take (j + 1)=l.take j++[l[j]]:=(yr (by omega)).symm;simp only [nA,yl,yo] at g2 m7;by_cases kg:l[j].name=x.name
                · simp [qF,-V,-y3,-y0,J,e0,e1,e6,e7,m7,e8,bk,g1,g2,kg]
                  refine tc _ _ (.inr ⟨rfl,?_,by simp⟩);rw [<- kg];exact List.mem_map_of_mem (List.mem_take_iff_getElem.2 ⟨j,by omega,rfl⟩)
                · simp [qF,-V,-y3,-y0,J,e0,e1,e6,e7,m7,e8,bk,g1,g2,kg,hwj]
                  refine dt hji _ ⟨?_,?_,?_,?_,?_,?_,?_⟩
                  · simp [e0]
                  · simp [e1]
                  · simp [e6]
                  · simp [e7]
                  · simp [m7,nA]
                  · simp
                  · rw [htj,List.map_append,yE]
                    rintro (h | h)
                    · exact hm h
                    · simp at h; exact kg h.symm
              · have bk:¬ (j:Int)<i:=by omega
                have ay:j=i:=by omega
                simp [qF,-V,-y3,-y0,J,e6,e8,bk];exact tc _ _ (.inl ⟨rfl,ay ▸ hm,by simp [e0],by simp [e1],by simp [e6],by simp [e7],by simp [m7]⟩)
            · simp [e0,e1,e6,e7,e8,m7]
            · rcases h with ⟨rfl,h1,e0,e1,e6,e7,m7⟩ | ⟨rfl,h1,e4⟩
              · exact hk3 s e0 e1 e6 e7 m7 h1
              · rw [hk2 _ e4]
                exact fail _ e4 (by rw [zm,XS h1]; simp)
          have next:∀ s',(s'.env 0).v=.sl b (l.map nA)->(s'.env 1).v=.bool rec->(s'.env 5).v=.int .i64 x.id->(s'.env 6).v=.int .i64 ((i + 1:Nat):Int)->mB rec x=true->¬ x.name∈(l.take i).map bB.name->kI kA tA iE s' k=some (.bool (cH rec l),none):=fun s' f0 f1 f5 f6 hg sb=>ih fa _ ⟨f0,f1,by rw [hp]; exact f5,f6,by rw [hp,ht,<- uz,c1,c2,hg,zm,ZS sb]; rfl⟩
          cases hz:x.dflt.same Vl.zero <;> rw [hz] at nj <;> cases rec <;> cases hc:x.crit <;> cases hh:x.has <;>
            simp [iE,-V,-y3,-y0,J,e0,e1,e5,e6,ga,g1,LN,hn,hc,hh,nj] <;>
            first
            | exact fail _ (by simp) (by simp [mB,hc,hh,hz])
            | (refine inner _ (by simp [mB,hc,hh,hz]) ?_ ?_ ?_ ?_ (s.next + 1) ?_ ?_ _ ?_ ?_
               · simp [e0]
               · simp [e1]
               · simp [e6]
               · simp
               · simp
               · simp [nA,hc,hh]
               · intro s' _; rfl
               · intro s' f0 f1 f6 f7 fm sb
                 simp only [nA,yl,yo] at fm;simp [-V,-y3,-y0,J,f0,f1,f6,f7,fm,hw];refine next _ ?_ ?_ ?_ ?_ (by simp [mB,hc,hh,hz]) sb <;> simp [f0,f1])
    · have ga:¬ (i:Int)<l.length:=by omega
      simp [iE,-V,-y3,-y0,J,e0,e6,ga];refine hk _ _ (.inl ⟨rfl,?_,by simp [e0],by simp [e1]⟩);rw [<- hs,ye (by simp; omega),ye (by omega),TC];rfl
  · simp [jE]
  · unfold cH
    rcases h with ⟨rfl,h1,e0,e1⟩ | ⟨rfl,h1,e2⟩
    · rw [y7] at h1
      rw [h1.1,h1.2];by_cases h16:l.length<=16
      · have gu:(l.length:Int)<=16:=by omega
        cases rec
        · by_cases h0:0<l.length
          · have sf:(1:Int)<=l.length:=by omega
            simp [-V,-y3,-y0,J,e0,e1,h0,sf,h16,gu]
          · have sf:¬ (1:Int)<=l.length:=by omega
            simp [-V,-y3,-y0,J,e0,e1,h0,sf,h16,gu]
        · simp [-V,-y3,-y0,J,e0,e1,h16,gu]
      · have gu:¬ (l.length:Int)<=16:=by omega
        simp [-V,-y3,-y0,J,e0,e1,h16,gu]
    · have:(l.all (mB rec)&&((rec||decide (0<l.length))&&(TC 0 [] (l.map PF)&&decide (l.length<=16))))=false:=by
        rw [Bool.and_eq_false_iff] at h1;rcases h1 with h1 | h1 <;> simp [h1]
      rw [this];simp [-V,-y3,-y0,J,e2]
mutual
theorem Vl.same_refl:∀ v:Vl,v.same v=true
 | .mk k b i s d kn ks xn xs rn rs=>by rw [Vl.same]; simp [Vl.sames_refl ks,Vl.sames_refl xs]
theorem Vl.sames_refl:∀ l:List Vl,Vl.sames l l=true
 | []=>by rw [Vl.sames]
 | v :: r=>by rw [Vl.sames]; simp [Vl.same_refl v,Vl.sames_refl r]
end
theorem bB.same_refl (m:bB):m.same m=true:=by simp [bB.same,Vl.same_refl]
theorem bR:∀ l:List bB,pB l l=true
 | []=>rfl
 | m :: r=>by simp [pB,bB.same_refl,bR r]
def sC:gA:=⟨0,⟨#[]⟩,0,0,0,true,[],true,[],0,0,false⟩
def gA.left (t:gA):gA :=
 if t.kind=1 then { t with kind:=0 }
 else if t.kind=2 then { t with kind:=0,low:=0,high:=0 }
 else if t.kind=3 then { t with kind:=0,max:=0 }
 else if t.kind=4 then { t with kind:=0,name:=⟨#[]⟩,sn:=true,syms:=[],opn:=false }
 else if t.kind=5 then { t with kind:=0,name:=⟨#[]⟩,mn:=true,mems:=[] }
 else if t.kind=6 then { t with kind:=0,name:=⟨#[]⟩,mn:=true,mems:=[],opn:=false }
 else if t.kind=7 then { t with kind:=0,max:=0,elem:=0 }
 else if t.kind=8 then { t with kind:=0,max:=0,elem:=0,key:=0 }
 else { t with kind:=0,elem:=0 }
def kF (t:gA):Bool :=
 if t.kind=2 then decide (t.low<=t.high)
 else if t.kind=3 then decide (0<=t.max)&&decide (t.max<=200)
 else if t.kind=4 then GF t.name&&JK t.syms
 else if t.kind=5 then GF t.name&&cH true t.mems
 else if t.kind=6 then GF t.name&&cH false t.mems
 else if t.kind=7\/t.kind=8 then decide (0<=t.max)&&decide (t.max<=50)
 else true
def aB (t:gA):Bool:=decide (1<=t.kind/\t.kind<=9)&&(kF t&&t.left.same sC)
def gA.fine (t:gA):Prop:=t.ok/\t.syms.length<=8796093022206/\t.mems.length<=8796093022206
theorem QT {t u:gA} (h:t.ok) (h1:u.syms=t.syms\/u.syms=[]) (h2:u.mems=t.mems\/u.mems=[]):u.ok:=by
 refine ⟨?_,?_,?_⟩
 ·rcases h1 with h1 | h1
  ·rw [h1]; exact h.1
  ·rw [h1]; simp
 ·rcases h2 with h2 | h2
  ·rw [h2]; exact h.2.1
  ·rw [h2]; simp
 ·rcases h2 with h2 | h2
  ·rw [h2]; exact h.2.2
  ·rw [h2]; simp
theorem left_ok {t:gA} (h:t.ok):t.left.ok:=by
 unfold gA.left;by_cases h1:t.kind=1
 ·rw [if_pos h1]; exact QT h (.inl rfl) (.inl rfl)
 by_cases h2:t.kind=2
 ·rw [if_neg h1,if_pos h2]; exact QT h (.inl rfl) (.inl rfl)
 by_cases h3:t.kind=3
 ·rw [if_neg h1,if_neg h2,if_pos h3]; exact QT h (.inl rfl) (.inl rfl)
 by_cases h4:t.kind=4
 ·rw [if_neg h1,if_neg h2,if_neg h3,if_pos h4]; exact QT h (.inr rfl) (.inl rfl)
 by_cases h5:t.kind=5
 ·rw [if_neg h1,if_neg h2,if_neg h3,if_neg h4,if_pos h5]; exact QT h (.inl rfl) (.inr rfl)
 by_cases h6:t.kind=6
 ·rw [if_neg h1,if_neg h2,if_neg h3,if_neg h4,if_neg h5,if_pos h6]; exact QT h (.inl rfl) (.inr rfl)
 rw [if_neg h1,if_neg h2,if_neg h3,if_neg h4,if_neg h5,if_neg h6];by_cases h7:t.kind=7
 ·rw [if_pos h7]; exact QT h (.inl rfl) (.inl rfl)
 by_cases h8:t.kind=8
 ·rw [if_neg h7,if_pos h8]; exact QT h (.inl rfl) (.inl rfl)
 rw [if_neg h7,if_neg h8]; exact QT h (.inl rfl) (.inl rfl)
theorem kinds (k:Int):k=1\/k=2\/k=3\/k=4\/k=5\/k=6\/k=7\/k=8\/k=9\/¬ (1<=k/\k<=9):=by omega
def GH (n:Int):List AV:=[.int .i64 n]
def gA.usesL (t:gA):List Int:=(t.mems.map bB.ty++(if t.kind=8 then [t.key] else []))++(if 7<=t.kind then [t.elem] else [])
section
variable (t:gA) (hl:t.mems.length<=8796093022206)
include t hl
theorem uses_lp (r:RV) (k:Ex->aA->Option RV)
  (hk:∀ s':aA,(s'.env 1).v=.ptr 1 1 0->s'.mem 1 1=some (MA t)->(s'.env 3).v=.sl t.mems.isEmpty ((t.mems.map bB.ty).map GH)->(t.mems.isEmpty=t.mems.isEmpty/\(s'.env 3).a=.ex\/t.mems.isEmpty=false/\(s'.env 3).a=.own 17 3)->k (.exit 0) s'=some r)
  (s:aA) (h1:(s.env 1).v=.ptr 1 1 0) (h2:s.mem 1 1=some (MA t)) (h3:(s.env 7).v=.sl t.mn (t.mems.map nA)) (h4:(s.env 8).v=.int .i64 t.mems.length) (h5:(s.env 9).v=.int .i64 0) (h6:(s.env 3).v=.sl true []) (h7:(s.env 3).a=.ex):kI kA tA tG s k=some r:=by
 refine bA t.mems.length (fun i s=>(s.env 1).v=.ptr 1 1 0/\s.mem 1 1=some (MA t)/\(s.env 7).v=.sl t.mn (t.mems.map nA)/\(s.env 8).v=.int .i64 t.mems.length/\(s.env 9).v=.int .i64 i/\(s.env 3).v=.sl (t.mems.take i).isEmpty (((t.mems.take i).map bB.ty).map GH)/\((t.mems.take i).isEmpty=(t.mems.take i).isEmpty/\(s.env 3).a=.ex\/(t.mems.take i).isEmpty=false/\(s.env 3).a=.own 17 3))
  (fun e s=>e=.exit 0/\(s.env 1).v=.ptr 1 1 0/\s.mem 1 1=some (MA t)/\(s.env 3).v=.sl t.mems.isEmpty ((t.mems.map bB.ty).map GH)/\(t.mems.isEmpty=t.mems.isEmpty/\(s.env 3).a=.ex\/t.mems.isEmpty=false/\(s.env 3).a=.own 17 3)) (fun i hi s k h ih hk=>?_) _ _ ?_ (fun e s h=>?_)
 ·obtain ⟨e1,m1,e7,e8,e9,e3,an⟩:=h;refine uA ?_;by_cases fa:i<t.mems.length
  ·have ga:(i:Int)<t.mems.length:=by omega
   have g1:(t.mems.map nA)[i]?=some (nA t.mems[i]):=by simp [fa]
   have hw:=LA (i:=i);have ht:t.mems.take (i + 1)=t.mems.take i++[t.mems[i]]:=(yr fa).symm;generalize t.mems[i]=x at *
   simp only [nA] at g1;have ba:(t.mems.take i).length=i:=by simp; omega
   generalize t.mems.take i=q at *
   have eg:PB 8 (q.length + 1)=true:=by rw [CA]; omega
   have q1:kB 1 ((q.map bB.ty).map GH)=true:=rD _ _ _ fun _=>rfl
   rcases an with ⟨a0,a3⟩ | ⟨a0,a3⟩
   ·simp [tG,-V,-y3,-y0,J,e1,m1,e7,e8,e9,e3,a0,a3,ga,g1,hw,eg,q1];refine ih fa _ ⟨?_,?_,?_,?_,?_,?_,?_⟩ <;> simp [ht,e1,m1,e7,e8,GH,An.strip]
   ·simp [tG,-V,-y3,-y0,J,e1,m1,e7,e8,e9,e3,a0,a3,ga,g1,hw,eg,q1];refine ih fa _ ⟨?_,?_,?_,?_,?_,?_,?_⟩ <;> simp [ht,e1,m1,e7,e8,GH,An.strip]
  ·have ga:¬ (i:Int)<t.mems.length:=by omega
   simp [tG,-V,-y3,-y0,J,e8,e9,ga];rw [yv (by omega)] at e3 an;exact hk _ _ ⟨rfl,by simp [e1],by simp [m1],by simp [e3],by simpa using an⟩
 ·simp [h1,h2,h3,h4,h5,h6,h7]
 ·obtain ⟨rfl,e1,m1,e3,an⟩:=h;exact hk s e1 m1 e3 an
theorem uses_ev (b:Bool) (hb:b=t.usesL.isEmpty):sA 150 [.agg (eA t)] (.sl b (t.usesL.map GH)):=by
 subst hb;refine wA (c:=tL) rfl rfl ?_;simp [tL,-V,-y3,-y0,J,eA];refine uses_lp t hl _ _ (fun s e1 m1 e3 an=>?_) _ ?_ ?_ ?_ ?_ ?_ ?_ ?_
 ·have q1:kB 1 ((t.mems.map bB.ty).map GH)=true:=rD _ _ _ fun _=>rfl
  have eg:PB 8 (t.mems.length + 1)=true:=by rw [CA]; omega
  have wi:PB 8 (t.mems.length + 1 + 1)=true:=by rw [CA]; omega
  unfold gA.usesL;by_cases h8:t.kind=8
  ·rcases an with ⟨a0,a3⟩ | ⟨a0,a3⟩
   ·simp [-V,-y3,-y0,J,e1,m1,e3,a0,a3,h8,q1,eg,wi,GH]
   ·simp [-V,-y3,-y0,J,e1,m1,e3,a0,a3,h8,q1,eg,wi,GH]
  ·by_cases h7:7<=t.kind
   ·rcases an with ⟨a0,a3⟩ | ⟨a0,a3⟩
    ·simp [-V,-y3,-y0,J,e1,m1,e3,a0,a3,h8,h7,q1,eg,wi,GH]
    ·simp [-V,-y3,-y0,J,e1,m1,e3,a0,a3,h8,h7,q1,eg,wi,GH]
   ·simp [-V,-y3,-y0,J,e1,m1,e3,h8,h7]
 all_goals simp
theorem ruses_lp (r:RV) (k:Ex->aA->Option RV)
  (hk:∀ s':aA,(s'.env 1).v=.ptr 1 1 0->s'.mem 1 1=some (MA t)->(s'.env 3).v=.sl t.mems.isEmpty ((t.mems.map bB.ty).map GH)->(t.mems.isEmpty=t.mems.isEmpty/\(s'.env 3).a=.ex\/t.mems.isEmpty=false/\(s'.env 3).a=.own 20 3)->k (.exit 0) s'=some r)
  (s:aA) (h1:(s.env 1).v=.ptr 1 1 0) (h2:s.mem 1 1=some (MA t)) (h5:(s.env 4).v=.int .i64 0) (h6:(s.env 3).v=.sl true []) (h7:(s.env 3).a=.ex):kI kA tA PG s k=some r:=by
 refine bA t.mems.length (fun i s=>(s.env 1).v=.ptr 1 1 0/\s.mem 1 1=some (MA t)/\(s.env 4).v=.int .i64 i/\(s.env 3).v=.sl (t.mems.take i).isEmpty (((t.mems.take i).map bB.ty).map GH)/\((t.mems.take i).isEmpty=(t.mems.take i).isEmpty/\(s.env 3).a=.ex\/(t.mems.take i).isEmpty=false/\(s.env 3).a=.own 20 3))
  (fun e s=>e=.exit 0/\(s.env 1).v=.ptr 1 1 0/\s.mem 1 1=some (MA t)/\(s.env 3).v=.sl t.mems.isEmpty ((t.mems.map bB.ty).map GH)/\(t.mems.isEmpty=t.mems.isEmpty/\(s.env 3).a=.ex\/t.mems.isEmpty=false/\(s.env 3).a=.own 20 3)) (fun i hi s k h ih hk=>?_) _ _ ?_ (fun e s h=>?_)
 ·obtain ⟨e1,m1,e9,e3,an⟩:=h;refine uA ?_;by_cases fa:i<t.mems.length
  ·have ga:(i:Int)<t.mems.length:=by omega
   have g1:(t.mems.map nA)[i]?=some (nA t.mems[i]):=by simp [fa]
   have hw:=LA (i:=i);have ht:t.mems.take (i + 1)=t.mems.take i++[t.mems[i]]:=(yr fa).symm;generalize t.mems[i]=x at *
   simp only [nA] at g1;have ba:(t.mems.take i).length=i:=by simp; omega
   generalize t.mems.take i=q at *
   have eg:PB 8 (q.length + 1)=true:=by rw [CA]; omega
   have q1:kB 1 ((q.map bB.ty).map GH)=true:=rD _ _ _ fun _=>rfl
   rcases an with ⟨a0,a3⟩ | ⟨a0,a3⟩
   ·simp [PG,-V,-y3,-y0,J,e1,m1,e9,e3,a0,a3,ga,g1,hw,eg,q1];refine ih fa _ ⟨?_,?_,?_,?_,?_⟩ <;> simp [ht,e1,m1,GH,An.strip]
   ·simp [PG,-V,-y3,-y0,J,e1,m1,e9,e3,a0,a3,ga,g1,hw,eg,q1];refine ih fa _ ⟨?_,?_,?_,?_,?_⟩ <;> simp [ht,e1,m1,GH,An.strip]
  ·have ga:¬ (i:Int)<t.mems.length:=by omega
   simp [PG,-V,-y3,-y0,J,e1,m1,e9,ga];rw [yv (by omega)] at e3 an;exact hk _ _ ⟨rfl,by simp [e1],by simp [m1],by simp [e3],by simpa using an⟩
 ·simp [h1,h2,h5,h6,h7]
 ·obtain ⟨rfl,e1,m1,e3,an⟩:=h;exact hk s e1 m1 e3 an
theorem ruses_ev (h9:t.kind<=9) (b:Bool) (hb:b=t.usesL.isEmpty):sA 148 [.agg (eA t)] (.sl b (t.usesL.map GH)):=by
 subst hb;refine wA (c:=rM) rfl rfl ?_;simp [rM,-V,-y3,-y0,J,eA];refine ruses_lp t hl _ _ (fun s e1 m1 e3 an=>?_) _ ?_ ?_ ?_ ?_ ?_
 ·have q1:kB 1 ((t.mems.map bB.ty).map GH)=true:=rD _ _ _ fun _=>rfl
  have eg:PB 8 (t.mems.length + 1)=true:=by rw [CA]; omega
  have wi:PB 8 (t.mems.length + 1 + 1)=true:=by rw [CA]; omega
  unfold gA.usesL;have hc:t.kind=8\/t.kind=7\/t.kind=9\/(¬ t.kind=8/\¬ t.kind=7/\¬ t.kind=9/\¬ 7<=t.kind):=by omega
  rcases hc with h | h | h | ⟨h8,h7,h9,h⟩
  ·rcases an with ⟨a0,a3⟩ | ⟨a0,a3⟩ <;> simp [-V,-y3,-y0,J,e1,m1,e3,a0,a3,h,q1,eg,wi,GH]
  ·rcases an with ⟨a0,a3⟩ | ⟨a0,a3⟩ <;> simp [-V,-y3,-y0,J,e1,m1,e3,a0,a3,h,q1,eg,wi,GH]
  ·rcases an with ⟨a0,a3⟩ | ⟨a0,a3⟩ <;> simp [-V,-y3,-y0,J,e1,m1,e3,a0,a3,h,q1,eg,wi,GH]
  ·simp [-V,-y3,-y0,J,e1,m1,e3,h8,h7,h9,h]
 all_goals simp
end
def OC (v:Vl):Bool :=
 (decide (v.kind=1)||!v.b)&&((decide (v.kind=2)||decide (v.i=0))&&((decide (v.kind=3)||decide (v.s=⟨#[]⟩))&&((decide (v.kind=4)||decide (v.kind=6)||decide (v.id=0))&&((decide (v.kind=8)||v.keys.isEmpty)&&((decide (5<=v.kind)||v.items.isEmpty)&&(decide (v.kind=5)||decide (v.kind=6)||v.rest.isEmpty))))))
def Vl.bare (v:Vl):Vl:=.mk v.kind (if v.kind=1 then v.b else false) (if v.kind=2 then v.i else 0) (if v.kind=3 then v.s else ⟨#[]⟩) (if v.kind=4\/v.kind=6 then v.id else 0)
 (if v.kind=8 then v.kn else true) (if v.kind=8 then v.keys else []) (if 5<=v.kind then v.xn else true) (if 5<=v.kind then v.items else []) (if v.kind=5\/v.kind=6 then v.rn else true) (if v.kind=5\/v.kind=6 then v.rest else [])
section
variable (v:Vl)
include v
theorem bare_ev1 (h:v.kind=1):sA 226 [.agg (pA v)] (.agg (pA v.bare)):=by
 refine wA (c:=gB) rfl rfl ?_;obtain ⟨k,b,i,s,d,kn,ks,xn,xs,rn,rs⟩:=v;have h:k=1:=h;subst h;rw [qA,qA];simp [gB,-V,-y3,-y0,J,Vl.bare,Vl.kind,Vl.b,Vl.i,Vl.s,Vl.id,Vl.kn,Vl.keys,Vl.xn,Vl.items,Vl.rn,Vl.rest]
theorem bare_ev2 (h:v.kind=2):sA 226 [.agg (pA v)] (.agg (pA v.bare)):=by
 refine wA (c:=gB) rfl rfl ?_;obtain ⟨k,b,i,s,d,kn,ks,xn,xs,rn,rs⟩:=v;have h:k=2:=h;subst h;rw [qA,qA];simp [gB,-V,-y3,-y0,J,Vl.bare,Vl.kind,Vl.b,Vl.i,Vl.s,Vl.id,Vl.kn,Vl.keys,Vl.xn,Vl.items,Vl.rn,Vl.rest]
theorem bare_ev3 (h:v.kind=3):sA 226 [.agg (pA v)] (.agg (pA v.bare)):=by
 refine wA (c:=gB) rfl rfl ?_;obtain ⟨k,b,i,s,d,kn,ks,xn,xs,rn,rs⟩:=v;have h:k=3:=h;subst h;rw [qA,qA];simp [gB,-V,-y3,-y0,J,Vl.bare,Vl.kind,Vl.b,Vl.i,Vl.s,Vl.id,Vl.kn,Vl.keys,Vl.xn,Vl.items,Vl.rn,Vl.rest]
theorem bare_ev4 (h:v.kind=4):sA 226 [.agg (pA v)] (.agg (pA v.bare)):=by
 refine wA (c:=gB) rfl rfl ?_;obtain ⟨k,b,i,s,d,kn,ks,xn,xs,rn,rs⟩:=v;have h:k=4:=h;subst h;rw [qA,qA];simp [gB,-V,-y3,-y0,J,Vl.bare,Vl.kind,Vl.b,Vl.i,Vl.s,Vl.id,Vl.kn,Vl.keys,Vl.xn,Vl.items,Vl.rn,Vl.rest]
theorem bare_ev5 (h:v.kind=5):sA 226 [.agg (pA v)] (.agg (pA v.bare)):=by
 refine wA (c:=gB) rfl rfl ?_;obtain ⟨k,b,i,s,d,kn,ks,xn,xs,rn,rs⟩:=v;have h:k=5:=h;subst h;rw [qA,qA];simp [gB,-V,-y3,-y0,J,Vl.bare,Vl.kind,Vl.b,Vl.i,Vl.s,Vl.id,Vl.kn,Vl.keys,Vl.xn,Vl.items,Vl.rn,Vl.rest]
theorem bare_ev6 (h:v.kind=6):sA 226 [.agg (pA v)] (.agg (pA v.bare)):=by
 refine wA (c:=gB) rfl rfl ?_;obtain ⟨k,b,i,s,d,kn,ks,xn,xs,rn,rs⟩:=v;have h:k=6:=h;subst h;rw [qA,qA];simp [gB,-V,-y3,-y0,J,Vl.bare,Vl.kind,Vl.b,Vl.i,Vl.s,Vl.id,Vl.kn,Vl.keys,Vl.xn,Vl.items,Vl.rn,Vl.rest]
theorem bare_ev7 (h:v.kind=7):sA 226 [.agg (pA v)] (.agg (pA v.bare)):=by
 refine wA (c:=gB) rfl rfl ?_;obtain ⟨k,b,i,s,d,kn,ks,xn,xs,rn,rs⟩:=v;have h:k=7:=h;subst h;rw [qA,qA];simp [gB,-V,-y3,-y0,J,Vl.bare,Vl.kind,Vl.b,Vl.i,Vl.s,Vl.id,Vl.kn,Vl.keys,Vl.xn,Vl.items,Vl.rn,Vl.rest]
theorem bare_ev8 (h:v.kind=8):sA 226 [.agg (pA v)] (.agg (pA v.bare)):=by
 refine wA (c:=gB) rfl rfl ?_;obtain ⟨k,b,i,s,d,kn,ks,xn,xs,rn,rs⟩:=v;have h:k=8:=h;subst h;rw [qA,qA];simp [gB,-V,-y3,-y0,J,Vl.bare,Vl.kind,Vl.b,Vl.i,Vl.s,Vl.id,Vl.kn,Vl.keys,Vl.xn,Vl.items,Vl.rn,Vl.rest]
theorem bare_ev9 (h:v.kind=9):sA 226 [.agg (pA v)] (.agg (pA v.bare)):=by
 refine wA (c:=gB) rfl rfl ?_;obtain ⟨k,b,i,s,d,kn,ks,xn,xs,rn,rs⟩:=v;have h:k=9:=h;subst h;rw [qA,qA];simp [gB,-V,-y3,-y0,J,Vl.bare,Vl.kind,Vl.b,Vl.i,Vl.s,Vl.id,Vl.kn,Vl.keys,Vl.xn,Vl.items,Vl.rn,Vl.rest]
theorem bare_ev (h:1<=v.kind/\v.kind<=9):sA 226 [.agg (pA v)] (.agg (pA v.bare)):=by
 rcases kinds v.kind with e | e | e | e | e | e | e | e | e | e
 ·exact bare_ev1 v e
 ·exact bare_ev2 v e
 ·exact bare_ev3 v e
 ·exact bare_ev4 v e
 ·exact bare_ev5 v e
 ·exact bare_ev6 v e
 ·exact bare_ev7 v e
 ·exact bare_ev8 v e
 ·exact bare_ev9 v e
 ·exact absurd h e
end
theorem proper_ev1 (v w:Vl) (hb:sA 226 [.agg (pA v)] (.agg (pA w))):sA 213 [.agg (pA v)] (.bool ((v.b == w.b)&&(decide (v.i=w.i)&&(decide (v.s=w.s)&&(decide (v.id=w.id)&&(decide (v.keys.length=w.keys.length)&&(decide (v.items.length=w.items.length)&&decide (v.rest.length=w.rest.length)))))))):=by
 refine wA (c:=RC) rfl rfl ?_;rw [qA,qA] at hb;rw [qA];simp only [sA] at hb;by_cases h1:v.b=w.b
 ·by_cases h2:v.i=w.i
  ·by_cases h3:v.s=w.s
   ·by_cases h4:v.id=w.id
    ·by_cases h5:v.keys.length=w.keys.length
     ·by_cases h6:v.items.length=w.items.length
      ·by_cases h7:v.rest.length=w.rest.length
       ·simp [RC,-V,-y3,-y0,J,hb,h1.symm,h2.symm,h3.symm,h4.symm,h5,h6,h7]
       ·have h7':¬ (v.rest.length:Int)=w.rest.length:=by omega
        simp [RC,-V,-y3,-y0,J,hb,h1.symm,h2.symm,h3.symm,h4.symm,h5,h6,h7,h7']
      ·have h6':¬ (v.items.length:Int)=w.items.length:=by omega
       simp [RC,-V,-y3,-y0,J,hb,h1.symm,h2.symm,h3.symm,h4.symm,h5,h6,h6']
     ·have h5':¬ (v.keys.length:Int)=w.keys.length:=by omega
      simp [RC,-V,-y3,-y0,J,hb,h1.symm,h2.symm,h3.symm,h4.symm,h5,h5']
    ·simp [RC,-V,-y3,-y0,J,hb,h1.symm,h2.symm,h3.symm,h4]
   ·simp [RC,-V,-y3,-y0,J,hb,h1.symm,h2.symm,h3]
  ·simp [RC,-V,-y3,-y0,J,hb,h1.symm,h2]
 ·simp [RC,-V,-y3,-y0,J,hb,h1]
theorem zero_bare {α β:Type} (k:Int) (h:1<=k/\k<=9) (b:Bool) (i:Int) (s:ByteArray) (d:Int) (ks xs:List α) (rs:List β) :
  ((decide (k=1)||!b)&&((decide (k=2)||decide (i=0))&&((decide (k=3)||decide (s=⟨#[]⟩))&&((decide (k=4)||decide (k=6)||decide (d=0))&&((decide (k=8)||ks.isEmpty)&&((decide (5<=k)||xs.isEmpty)&&(decide (k=5)||decide (k=6)||rs.isEmpty))))))) =
  ((b == (if k=1 then b else false))&&(decide (i=(if k=2 then i else 0))&&(decide (s=(if k=3 then s else ⟨#[]⟩))&&(decide (d=(if k=4\/k=6 then d else 0))&&(decide (ks.length=(if k=8 then ks else []).length)&&(decide (xs.length=(if 5<=k then xs else []).length)&&decide (rs.length=(if k=5\/k=6 then rs else []).length))))))):=by
 rcases kinds k with e | e | e | e | e | e | e | e | e | e
 all_goals first | exact absurd h e | skip
 all_goals cases b <;> cases ks <;> cases xs <;> cases rs <;> simp [e]
theorem S3 (v:Vl) (h:1<=v.kind/\v.kind<=9):sA 213 [.agg (pA v)] (.bool (OC v)):=by
 have r:=proper_ev1 v v.bare (bare_ev v h);have e:=zero_bare v.kind h v.b v.i v.s v.id v.keys v.items v.rest;unfold OC;rw [e];exact r
theorem rzero_ev1 (v:Vl) (h:v.kind=1):sA 159 [.agg (pA v)] (.bool (OC v)):=by
 refine wA (c:=iA) rfl rfl ?_;rw [qA];unfold OC;by_cases hi:v.i=0
 ·by_cases hs:v.s=⟨#[]⟩
  ·by_cases hd:v.id=0
   ·by_cases hk:v.keys=[]
    ·by_cases hx:v.items=[]
     ·by_cases hr:v.rest=[]
      ·simp [iA,-V,-y3,-y0,J,h,hi,hs,hd,hk,hx,hr]
      ·simp [iA,-V,-y3,-y0,J,h,hi,hs,hd,hk,hx,hr]
     ·simp [iA,-V,-y3,-y0,J,h,hi,hs,hd,hk,hx]
    ·simp [iA,-V,-y3,-y0,J,h,hi,hs,hd,hk]
   ·simp [iA,-V,-y3,-y0,J,h,hi,hs,hd]
  ·simp [iA,-V,-y3,-y0,J,h,hi,hs]
 ·simp [iA,-V,-y3,-y0,J,h,hi]
theorem rzero_ev2 (v:Vl) (h:v.kind=2):sA 159 [.agg (pA v)] (.bool (OC v)):=by
 refine wA (c:=iA) rfl rfl ?_;rw [qA];unfold OC;by_cases hb:v.b=false
 ·by_cases hs:v.s=⟨#[]⟩
  ·by_cases hd:v.id=0
   ·by_cases hk:v.keys=[]
    ·by_cases hx:v.items=[]
     ·by_cases hr:v.rest=[]
      ·simp [iA,-V,-y3,-y0,J,h,hb,hs,hd,hk,hx,hr]
      ·simp [iA,-V,-y3,-y0,J,h,hb,hs,hd,hk,hx,hr]
     ·simp [iA,-V,-y3,-y0,J,h,hb,hs,hd,hk,hx]
    ·simp [iA,-V,-y3,-y0,J,h,hb,hs,hd,hk]
   ·simp [iA,-V,-y3,-y0,J,h,hb,hs,hd]
  ·simp [iA,-V,-y3,-y0,J,h,hb,hs]
 ·simp [iA,-V,-y3,-y0,J,h,hb]
theorem rzero_ev3 (v:Vl) (h:v.kind=3):sA 159 [.agg (pA v)] (.bool (OC v)):=by
 refine wA (c:=iA) rfl rfl ?_;rw [qA];unfold OC;by_cases hb:v.b=false
 ·by_cases hi:v.i=0
  ·by_cases hd:v.id=0
   ·by_cases hk:v.keys=[]
    ·by_cases hx:v.items=[]
     ·by_cases hr:v.rest=[]
      ·simp [iA,-V,-y3,-y0,J,h,hb,hi,hd,hk,hx,hr]
      ·simp [iA,-V,-y3,-y0,J,h,hb,hi,hd,hk,hx,hr]
     ·simp [iA,-V,-y3,-y0,J,h,hb,hi,hd,hk,hx]
    ·simp [iA,-V,-y3,-y0,J,h,hb,hi,hd,hk]
   ·simp [iA,-V,-y3,-y0,J,h,hb,hi,hd]
  ·simp [iA,-V,-y3,-y0,J,h,hb,hi]
 ·simp [iA,-V,-y3,-y0,J,h,hb]
theorem rzero_ev4 (v:Vl) (h:v.kind=4):sA 159 [.agg (pA v)] (.bool (OC v)):=by
 refine wA (c:=iA) rfl rfl ?_;rw [qA];unfold OC;by_cases hb:v.b=false
 ·by_cases hi:v.i=0
  ·by_cases hs:v.s=⟨#[]⟩
   ·by_cases hk:v.keys=[]
    ·by_cases hx:v.items=[]
     ·by_cases hr:v.rest=[]
      ·simp [iA,-V,-y3,-y0,J,h,hb,hi,hs,hk,hx,hr]
      ·simp [iA,-V,-y3,-y0,J,h,hb,hi,hs,hk,hx,hr]
     ·simp [iA,-V,-y3,-y0,J,h,hb,hi,hs,hk,hx]
    ·simp [iA,-V,-y3,-y0,J,h,hb,hi,hs,hk]
   ·simp [iA,-V,-y3,-y0,J,h,hb,hi,hs]
  ·simp [iA,-V,-y3,-y0,J,h,hb,hi]
 ·simp [iA,-V,-y3,-y0,J,h,hb]
theorem rzero_ev5 (v:Vl) (h:v.kind=5):sA 159 [.agg (pA v)] (.bool (OC v)):=by
 refine wA (c:=iA) rfl rfl ?_;rw [qA];unfold OC;by_cases hb:v.b=false
 ·by_cases hi:v.i=0
  ·by_cases hs:v.s=⟨#[]⟩
   ·by_cases hd:v.id=0
    ·by_cases hk:v.keys=[]
     ·simp [iA,-V,-y3,-y0,J,h,hb,hi,hs,hd,hk]
     ·simp [iA,-V,-y3,-y0,J,h,hb,hi,hs,hd,hk]
    ·simp [iA,-V,-y3,-y0,J,h,hb,hi,hs,hd]
   ·simp [iA,-V,-y3,-y0,J,h,hb,hi,hs]
  ·simp [iA,-V,-y3,-y0,J,h,hb,hi]
 ·simp [iA,-V,-y3,-y0,J,h,hb]
theorem rzero_ev6 (v:Vl) (h:v.kind=6):sA 159 [.agg (pA v)] (.bool (OC v)):=by
 refine wA (c:=iA) rfl rfl ?_;rw [qA];unfold OC;by_cases hb:v.b=false
 ·by_cases hi:v.i=0
  ·by_cases hs:v.s=⟨#[]⟩
   ·by_cases hk:v.keys=[]
    ·simp [iA,-V,-y3,-y0,J,h,hb,hi,hs,hk]
    ·simp [iA,-V,-y3,-y0,J,h,hb,hi,hs,hk]
   ·simp [iA,-V,-y3,-y0,J,h,hb,hi,hs]
  ·simp [iA,-V,-y3,-y0,J,h,hb,hi]
 ·simp [iA,-V,-y3,-y0,J,h,hb]
theorem rzero_ev7 (v:Vl) (h:v.kind=7):sA 159 [.agg (pA v)] (.bool (OC v)):=by
 refine wA (c:=iA) rfl rfl ?_;rw [qA];unfold OC;by_cases hb:v.b=false
 ·by_cases hi:v.i=0
  ·by_cases hs:v.s=⟨#[]⟩
   ·by_cases hd:v.id=0
    ·by_cases hk:v.keys=[]
     ·by_cases hr:v.rest=[]
      ·simp [iA,-V,-y3,-y0,J,h,hb,hi,hs,hd,hk,hr]
      ·simp [iA,-V,-y3,-y0,J,h,hb,hi,hs,hd,hk,hr]
     ·simp [iA,-V,-y3,-y0,J,h,hb,hi,hs,hd,hk]
    ·simp [iA,-V,-y3,-y0,J,h,hb,hi,hs,hd]
   ·simp [iA,-V,-y3,-y0,J,h,hb,hi,hs]
  ·simp [iA,-V,-y3,-y0,J,h,hb,hi]
 ·simp [iA,-V,-y3,-y0,J,h,hb]
theorem rzero_ev8 (v:Vl) (h:v.kind=8):sA 159 [.agg (pA v)] (.bool (OC v)):=by
 refine wA (c:=iA) rfl rfl ?_;rw [qA];unfold OC;by_cases hb:v.b=false
 ·by_cases hi:v.i=0
  ·by_cases hs:v.s=⟨#[]⟩
   ·by_cases hd:v.id=0
    ·by_cases hr:v.rest=[]
     ·simp [iA,-V,-y3,-y0,J,h,hb,hi,hs,hd,hr]
     ·simp [iA,-V,-y3,-y0,J,h,hb,hi,hs,hd,hr]
    ·simp [iA,-V,-y3,-y0,J,h,hb,hi,hs,hd]
   ·simp [iA,-V,-y3,-y0,J,h,hb,hi,hs]
  ·simp [iA,-V,-y3,-y0,J,h,hb,hi]
 ·simp [iA,-V,-y3,-y0,J,h,hb]
theorem rzero_ev9 (v:Vl) (h:v.kind=9):sA 159 [.agg (pA v)] (.bool (OC v)):=by
 refine wA (c:=iA) rfl rfl ?_;rw [qA];unfold OC;by_cases hb:v.b=false
 ·by_cases hi:v.i=0
  ·by_cases hs:v.s=⟨#[]⟩
   ·by_cases hd:v.id=0
    ·by_cases hk:v.keys=[]
     ·by_cases hr:v.rest=[]
      ·simp [iA,-V,-y3,-y0,J,h,hb,hi,hs,hd,hk,hr]
      ·simp [iA,-V,-y3,-y0,J,h,hb,hi,hs,hd,hk,hr]
     ·simp [iA,-V,-y3,-y0,J,h,hb,hi,hs,hd,hk]
    ·simp [iA,-V,-y3,-y0,J,h,hb,hi,hs,hd]
   ·simp [iA,-V,-y3,-y0,J,h,hb,hi,hs]
  ·simp [iA,-V,-y3,-y0,J,h,hb,hi]
 ·simp [iA,-V,-y3,-y0,J,h,hb]
def wP:Int->List Raw->Int
 | n,[]=>n
 | n,x :: r=>wP (IntKind.i64.wrap (IntKind.i64.wrap (n + 1) + x.data.size)) r
mutual
def IZ:Vl->Int
 | .mk _ _ _ s _ _ ks _ xs _ rs=>wP (aG (aG (IntKind.i64.wrap (1 + s.size)) ks) xs) rs
def aG:Int->List Vl->Int
 | n,[]=>n
 | n,v :: r=>aG (IntKind.i64.wrap (n + IZ v)) r
end
theorem sizeV_def (v:Vl):IZ v=wP (aG (aG (IntKind.i64.wrap (1 + v.s.size)) v.keys) v.items) v.rest:=by
 cases v;rw [IZ];rfl
section
variable (n:Nat) (ih0:∀ v:Vl,SizeOf.sizeOf v<n->v.ok->sA 46 [.agg (pA v)] (.int .i64 (IZ v))) {rv:RV} (v:Vl)
include n ih0 rv v
theorem size_lp3 (hl:v.keys.length<=9223372036854775807) (hv:∀ x∈v.keys,SizeOf.sizeOf x<n/\x.ok) (a0:Int) (s:aA) (e1:(s.env 1).v=.ptr 1 1 0) (m1:s.mem 1 1=some (bD v)) (e3:(s.env 3).v=.int .i64 a0) (e4:(s.env 4).v=.int .i64 0) (k:Ex->aA->Option RV)
  (hk:∀ s',(s'.env 1).v=.ptr 1 1 0->s'.mem 1 1=some (bD v)->(s'.env 3).v=.int .i64 (aG a0 v.keys)->k (.exit 0) s'=some rv):kI kA tA TI s k=some rv:=by
 refine bA v.keys.length (fun i s=>(s.env 1).v=.ptr 1 1 0/\s.mem 1 1=some (bD v)/\(∃ a,(s.env 3).v=.int .i64 a/\aG a (v.keys.drop i)=aG a0 v.keys)/\(s.env 4).v=.int .i64 i)
  (fun e s=>e=.exit 0/\(s.env 1).v=.ptr 1 1 0/\s.mem 1 1=some (bD v)/\(s.env 3).v=.int .i64 (aG a0 v.keys)) (fun i hi s k h ih hk=>?_) _ _ ⟨e1,m1,⟨a0,e3,rfl⟩,e4⟩ (fun e s h=>by obtain ⟨rfl,h1,h2,h3⟩:=h; exact hk _ h1 h2 h3)
 obtain ⟨e1,m1,⟨a,e3,hs⟩,ei⟩:=h;refine uA ?_;have m1':=m1;simp only [bD] at m1;by_cases fa:i<v.keys.length
 ·have ga:(i:Int)<v.keys.length:=by omega
  have g1:(v.keys.map pA)[i]?=some (pA v.keys[i]):=by simp [fa]
  have hw:=LA (i:=i);obtain ⟨hx1,hx2⟩:=hv _ (y5 fa);have hx:=ih0 _ hx1 hx2;rw [y9 fa,aG] at hs;generalize v.keys[i]=x at *
  simp only [sA,qA] at hx;rw [qA x] at g1;simp [TI,-V,-y3,-y0,J,e1,m1,e3,ei,ga,g1,hx,hw];refine ih fa _ ⟨?_,?_,⟨_,?_,hs⟩,?_⟩
  ·simp [e1]
  ·simp [m1,bD]
  ·simp
  ·simp
 ·have ga:¬ (i:Int)<v.keys.length:=by omega
  rw [ye (by omega),aG] at hs;simp [TI,-V,-y3,-y0,J,e1,m1,ei,ga];refine hk _ _ ⟨rfl,?_,?_,?_⟩
  ·simp [e1]
  ·simp [m1,bD]
  ·simp [e3,hs]
theorem size_lp2 (hl:v.items.length<=9223372036854775807) (hv:∀ x∈v.items,SizeOf.sizeOf x<n/\x.ok) (a0:Int) (s:aA) (e1:(s.env 1).v=.ptr 1 1 0) (m1:s.mem 1 1=some (bD v)) (e3:(s.env 3).v=.int .i64 a0) (e5:(s.env 5).v=.int .i64 0) (k:Ex->aA->Option RV)
  (hk:∀ s',(s'.env 1).v=.ptr 1 1 0->s'.mem 1 1=some (bD v)->(s'.env 3).v=.int .i64 (aG a0 v.items)->k (.exit 2) s'=some rv):kI kA tA RI s k=some rv:=by
 refine bA v.items.length (fun i s=>(s.env 1).v=.ptr 1 1 0/\s.mem 1 1=some (bD v)/\(∃ a,(s.env 3).v=.int .i64 a/\aG a (v.items.drop i)=aG a0 v.items)/\(s.env 5).v=.int .i64 i)
  (fun e s=>e=.exit 2/\(s.env 1).v=.ptr 1 1 0/\s.mem 1 1=some (bD v)/\(s.env 3).v=.int .i64 (aG a0 v.items)) (fun i hi s k h ih hk=>?_) _ _ ⟨e1,m1,⟨a0,e3,rfl⟩,e5⟩ (fun e s h=>by obtain ⟨rfl,h1,h2,h3⟩:=h; exact hk _ h1 h2 h3)
 obtain ⟨e1,m1,⟨a,e3,hs⟩,ei⟩:=h;refine uA ?_;have m1':=m1;simp only [bD] at m1;by_cases fa:i<v.items.length
 ·have ga:(i:Int)<v.items.length:=by omega
  have g1:(v.items.map pA)[i]?=some (pA v.items[i]):=by simp [fa]
  have hw:=LA (i:=i);obtain ⟨hx1,hx2⟩:=hv _ (y5 fa);have hx:=ih0 _ hx1 hx2;rw [y9 fa,aG] at hs;generalize v.items[i]=x at *
  simp only [sA,qA] at hx;rw [qA x] at g1;simp [RI,-V,-y3,-y0,J,e1,m1,e3,ei,ga,g1,hx,hw];refine ih fa _ ⟨?_,?_,⟨_,?_,hs⟩,?_⟩
  ·simp [e1]
  ·simp [m1,bD]
  ·simp
  ·simp
 ·have ga:¬ (i:Int)<v.items.length:=by omega
  rw [ye (by omega),aG] at hs;simp [RI,-V,-y3,-y0,J,e1,m1,ei,ga];refine hk _ _ ⟨rfl,?_,?_,?_⟩
  ·simp [e1]
  ·simp [m1,bD]
  ·simp [e3,hs]
end
theorem size_lp1 {rv:RV} (v:Vl) (hl:v.rest.length<=9223372036854775807) (a0:Int) (s:aA) (e1:(s.env 1).v=.ptr 1 1 0) (m1:s.mem 1 1=some (bD v)) (e3:(s.env 3).v=.int .i64 a0) (e6:(s.env 6).v=.int .i64 0) (k:Ex->aA->Option RV)
  (hk:∀ s',(s'.env 3).v=.int .i64 (wP a0 v.rest)->k (.exit 4) s'=some rv):kI kA tA EI s k=some rv:=by
 refine bA v.rest.length (fun i s=>(s.env 1).v=.ptr 1 1 0/\s.mem 1 1=some (bD v)/\(∃ a,(s.env 3).v=.int .i64 a/\wP a (v.rest.drop i)=wP a0 v.rest)/\(s.env 6).v=.int .i64 i)
  (fun e s=>e=.exit 4/\(s.env 3).v=.int .i64 (wP a0 v.rest)) (fun i hi s k h ih hk=>?_) _ _ ⟨e1,m1,⟨a0,e3,rfl⟩,e6⟩ (fun e s h=>by obtain ⟨rfl,h1⟩:=h; exact hk _ h1)
 obtain ⟨e1,m1,⟨a,e3,hs⟩,ei⟩:=h;refine uA ?_;simp only [bD] at m1;by_cases fa:i<v.rest.length
 ·have ga:(i:Int)<v.rest.length:=by omega
  have g1:(v.rest.map sK)[i]?=some (sK v.rest[i]):=by simp [fa]
  have hw:=LA (i:=i);rw [y9 fa,wP] at hs;generalize v.rest[i]=x at *
  simp only [sK] at g1;simp [EI,-V,-y3,-y0,J,e1,m1,e3,ei,ga,g1,hw];refine ih fa _ ⟨?_,?_,⟨_,?_,hs⟩,?_⟩
  ·simp [e1]
  ·simp [m1,bD]
  ·simp
  ·simp
 ·have ga:¬ (i:Int)<v.rest.length:=by omega
  rw [ye (by omega),wP] at hs;simp [EI,-V,-y3,-y0,J,e1,m1,ei,ga];exact hk _ _ ⟨rfl,by simp [e3,hs]⟩
theorem size_ev:∀ (n:Nat) (v:Vl),SizeOf.sizeOf v<n->v.ok->sA 46 [.agg (pA v)] (.int .i64 (IZ v)):=by
 intro n
 induction n with
 | zero=>intro v h; omega
 | succ n ih =>
  intro v hn hv;rw [Vl.ok_def] at hv;obtain ⟨k1,k2,k3,k4,k5,k6⟩:=hv;refine wA (c:=eM) rfl rfl ?_;rw [qA];simp [eM,-V,-y3,-y0,J];refine size_lp3 n ih v k1 (fun x hx=>⟨by have:=Vl.keys_lt v x hx; omega,k5 x hx⟩) (IntKind.i64.wrap (1 + v.s.size)) _ ?_ ?_ ?_ ?_ _ (fun s' e1 m1 e3=>?_)
  ·simp
  ·simp [bD]
  ·simp
  ·simp
  simp [-V,-y3,-y0,J];refine size_lp2 n ih v k2 (fun x hx=>⟨by have:=Vl.items_lt v x hx; omega,k6 x hx⟩) (aG (IntKind.i64.wrap (1 + v.s.size)) v.keys) _ ?_ ?_ ?_ ?_ _ (fun s2 f1 n1 f3=>?_)
  ·simp [e1]
  ·simpa using m1
  ·simp [e3]
  ·simp
  simp [-V,-y3,-y0,J];refine size_lp1 v k3 (aG (aG (IntKind.i64.wrap (1 + v.s.size)) v.keys) v.items) _ ?_ ?_ ?_ ?_ _ (fun s3 g3=>?_)
  ·simp [f1]
  ·simpa using n1
  ·simp [f3]
  ·simp
  simp [-V,-y3,-y0,J,g3,sizeV_def]
def aW:Int->List bB->Int
 | n,[]=>n
 | n,m :: r=>aW (IntKind.i64.wrap (IntKind.i64.wrap (n + IZ m.dflt) + m.name.size)) r
def typF (n:Int) (t:gA):Int:=aW (IntKind.i64.wrap (IntKind.i64.wrap (IntKind.i64.wrap (n + t.mems.length) + t.syms.length) + t.name.size)) (t.mems.take 100)
def sS:Int->List gA->Int
 | n,[]=>n
 | n,t :: r=>sS (typF n t) r
def fewP (s:PM):Bool:=!decide (40<s.types.length)&&decide (sS 0 s.types<=400)
def U9 (t:gA):List rA:=(eA t).map (⟨·,.no⟩)
theorem few_lp1 {rv:RV} (t:gA) (ht:∀ m∈t.mems,m.ok) (hl:t.mems.length<=9223372036854775807) {nl:Bool} {S:List gA} {j:Nat} {n5:Nat} (a0:Int) (s:aA) (e1:(s.env 1).v=.ptr 1 1 0) (m1:s.mem 1 1=some [⟨.sl nl (S.map eA),.no⟩]) (e3:(s.env 3).v=.int .i64 a0) (e4:(s.env 4).v=.int .i64 j) (e5:(s.env 5).v=.ptr 5 n5 0) (m5:s.mem 5 n5=some (U9 t)) (e6:(s.env 6).v=.int .i64 0) (k:Ex->aA->Option RV)
  (hk:∀ s',(s'.env 1).v=.ptr 1 1 0->s'.mem 1 1=some [⟨.sl nl (S.map eA),.no⟩]->(s'.env 3).v=.int .i64 (aW a0 (t.mems.take 100))->(s'.env 4).v=.int .i64 j->k (.exit 2) s'=some rv):kI kA tA dH s k=some rv:=by
 have hN:(t.mems.take 100).length<=t.mems.length/\(t.mems.take 100).length<=100/\((t.mems.take 100).length=t.mems.length\/(t.mems.take 100).length=100):=by
  rw [yN];omega
 obtain ⟨N,hNe⟩:∃ N,(t.mems.take 100).length=N:=⟨_,rfl⟩;rw [hNe] at hN;obtain ⟨hN1,hN2,hN3⟩:=hN;refine bA N (fun i s=>(s.env 1).v=.ptr 1 1 0/\s.mem 1 1=some [⟨.sl nl (S.map eA),.no⟩]/\(∃ a,(s.env 3).v=.int .i64 a/\aW a ((t.mems.take 100).drop i)=aW a0 (t.mems.take 100))/\(s.env 4).v=.int .i64 j/\(s.env 5).v=.ptr 5 n5 0/\s.mem 5 n5=some (U9 t)/\(s.env 6).v=.int .i64 i)
  (fun e s=>e=.exit 2/\(s.env 1).v=.ptr 1 1 0/\s.mem 1 1=some [⟨.sl nl (S.map eA),.no⟩]/\(s.env 3).v=.int .i64 (aW a0 (t.mems.take 100))/\(s.env 4).v=.int .i64 j) (fun i hi s k h ih hk=>?_) _ _ ⟨e1,m1,⟨a0,e3,rfl⟩,e4,e5,m5,e6⟩ (fun e s h=>by obtain ⟨rfl,h1,h2,h3,h4⟩:=h; exact hk _ h1 h2 h3 h4)
 obtain ⟨e1,m1,⟨a,e3,hs⟩,e4,e5,m5,e6⟩:=h;refine uA ?_;simp only [U9,eA,yl,yo] at m5;by_cases fa:i<N
 ·have ga:(i:Int)<t.mems.length:=by omega
  have fe:(i:Int)<100:=by omega
  have bh:i<t.mems.length:=by omega
  have hi3:i<(t.mems.take 100).length:=by omega
  have g1:(t.mems.map nA)[i]?=some (nA t.mems[i]):=by simp [bh]
  have hw:=LA (i:=i);have hx:=size_ev _ _ (Nat.lt_succ_self _) (ht _ (y5 bh)).1;rw [y9 hi3,aW,List.getElem_take] at hs;generalize t.mems[i]=x at *
  simp only [nA] at g1;simp only [sA,qA] at hx;simp [dH,-V,-y3,-y0,J,e3,e5,m5,e6,ga,fe,g1,hx,hw];refine ih fa _ ⟨?_,?_,⟨_,?_,hs⟩,?_,?_,?_,?_⟩
  ·simp [e1]
  ·simp [m1]
  ·simp
  ·simp [e4]
  ·simp [e5]
  ·simp [m5,U9,eA]
  ·simp
 ·have ji:i=N:=by omega
  rw [ye (by omega),aW] at hs;by_cases c:(i:Int)<t.mems.length
  ·have c2:¬ (i:Int)<100:=by omega
   simp [dH,-V,-y3,-y0,J,e5,m5,e6,c,c2];exact hk _ _ ⟨rfl,by simp [e1],by simp [m1],by simp [e3,hs],by simp [e4]⟩
  ·simp [dH,-V,-y3,-y0,J,e5,m5,e6,c];exact hk _ _ ⟨rfl,by simp [e1],by simp [m1],by simp [e3,hs],by simp [e4]⟩
theorem few_ev (s:PM) (hs:s.ok):sA 13 [.agg (JA s)] (.bool (fewP s)):=by
 obtain ⟨hl,ht⟩:=hs;refine wA (c:=cL) rfl rfl ?_;unfold fewP;by_cases c:40<s.types.length
 ·have c':(40:Int)<s.types.length:=by omega
  simp [cL,-V,-y3,-y0,J,JA,c,c']
 have c':¬ (40:Int)<s.types.length:=by omega
 simp [cL,-V,-y3,-y0,J,JA,c,c'];refine bA s.types.length (fun i st=>(st.env 1).v=.ptr 1 1 0/\st.mem 1 1=some [⟨.sl s.nl (s.types.map eA),.no⟩]/\(∃ a,(st.env 3).v=.int .i64 a/\sS a (s.types.drop i)=sS 0 s.types)/\(st.env 4).v=.int .i64 i)
  (fun e st=>e=.exit 0/\(st.env 3).v=.int .i64 (sS 0 s.types)) (fun i hi st k h ih hk=>?_) _ _ ?_ (fun e st h=>?_)
 ·obtain ⟨e1,m1,⟨a,e3,gq⟩,e4⟩:=h;refine uA ?_;by_cases fa:i<s.types.length
  ·have ga:(i:Int)<s.types.length:=by omega
   have g1:(s.types.map eA)[i]?=some (eA s.types[i]):=by simp [fa]
   have hw:=LA (i:=i);have hto:=ht _ (y5 fa);rw [y9 fa,sS] at gq;generalize s.types[i]=x at *
   simp only [eA] at g1;simp [GM,-V,-y3,-y0,J,e1,m1,e3,e4,ga,g1];refine few_lp1 (nl:=s.nl) (S:=s.types) x hto.2.2 hto.2.1 (j:=i) (n5:=st.next + 1) (IntKind.i64.wrap (IntKind.i64.wrap (IntKind.i64.wrap (a + x.mems.length) + x.syms.length) + x.name.size)) _ ?_ ?_ ?_ ?_ ?_ ?_ ?_ _ (fun s' f1 n1 f3 f4=>?_)
   ·simp [e1]
   ·simp [m1]
   ·simp
   ·simp [e4]
   ·simp
   ·simp [U9,eA]
   ·simp
   ·simp [-V,-y3,-y0,J,f4,hw];refine ih fa _ ⟨?_,?_,⟨_,?_,gq⟩,?_⟩
    ·simp [f1]
    ·simp [n1]
    ·simp [f3,typF]
    ·simp
  ·have ga:¬ (i:Int)<s.types.length:=by omega
   rw [ye (by omega),sS] at gq;simp [GM,-V,-y3,-y0,J,e1,m1,e4,ga];exact hk _ _ ⟨rfl,by simp [e3,gq]⟩
 ·refine ⟨?_,?_,⟨0,?_,rfl⟩,?_⟩ <;> simp
 ·obtain ⟨rfl,e3⟩:=h;simp [-V,-y3,-y0,J,e3]
end Go.Proofs.YtjoaiabjebpbjaaGreat
