/- A part of the proof. -/
import Derived.Test.YtbnlmgncbgaepaaGreatYc
set_option linter.all false
set_option maxRecDepth 100000
set_option maxHeartbeats 8000000
open Option renaming bind_some → V
open List renaming range_succ → J, map_map → y0, getElem_mem → y6, drop_eq_getElem_cons → y9, drop_eq_nil_of_le → ye, map_cons → yj, map_nil → yt, mem_append → yw, take_of_length_le → yD, take_append_getElem → yI, map_take → yM, map_append → yU, mem_map_of_mem → Y01
open Int renaming toNat_lt → y3
open Bool renaming and_eq_true → y8
namespace Go.Proofs.YtbnlmgncbgaepaaGreat
open Go
structure Raw where
 id:Int
 data:ByteArray
 deriving DecidableEq
inductive Vl where
 | mk (kind:Int) (b:Bool) (i:Int) (s:ByteArray) (id:Int) (kn:Bool) (keys:List Vl) (xn:Bool) (items:List Vl) (rn:Bool) (rest:List Raw)
namespace Vl
def kind:Vl->Int | .mk k _ _ _ _ _ _ _ _ _ _=>k
def b:Vl->Bool | .mk _ b _ _ _ _ _ _ _ _ _=>b
def i:Vl->Int | .mk _ _ i _ _ _ _ _ _ _ _=>i
def s:Vl->ByteArray | .mk _ _ _ s _ _ _ _ _ _ _=>s
def id:Vl->Int | .mk _ _ _ _ d _ _ _ _ _ _=>d
def kn:Vl->Bool | .mk _ _ _ _ _ k _ _ _ _ _=>k
def keys:Vl->List Vl | .mk _ _ _ _ _ _ l _ _ _ _=>l
def xn:Vl->Bool | .mk _ _ _ _ _ _ _ x _ _ _=>x
def items:Vl->List Vl | .mk _ _ _ _ _ _ _ _ l _ _=>l
def rn:Vl->Bool | .mk _ _ _ _ _ _ _ _ _ r _=>r
def rest:Vl->List Raw | .mk _ _ _ _ _ _ _ _ _ _ l=>l
theorem keys_lt (v x:Vl) (h:x∈v.keys):SizeOf.sizeOf x<SizeOf.sizeOf v:=by
 cases v;have:=List.sizeOf_lt_of_mem h;simp only [keys] at this;simp only [mk.sizeOf_spec];omega
theorem items_lt (v x:Vl) (h:x∈v.items):SizeOf.sizeOf x<SizeOf.sizeOf v:=by
 cases v;have:=List.sizeOf_lt_of_mem h;simp only [items] at this;simp only [mk.sizeOf_spec];omega
end Vl
def jO (r:Raw):List AV:=[.int .i64 r.id,.str r.data]
mutual
def zA:Vl->List AV
 | .mk k b i s d kn ks xn xs rn rs=>[.int .i64 k,.bool b,.int .i64 i,.str s,.int .i64 d,.sl kn (O1 ks),.sl xn (O1 xs),.sl rn (rs.map jO)]
def O1:List Vl->List (List AV)
 | []=>[]
 | v :: r=>zA v :: O1 r
end
theorem PU:∀ l:List Vl,O1 l=l.map zA
 | []=>by rw [O1]; rfl
 | v :: r=>by rw [O1,PU r]; rfl
theorem uA (v:Vl):zA v=[.int .i64 v.kind,.bool v.b,.int .i64 v.i,.str v.s,.int .i64 v.id,.sl v.kn (v.keys.map zA),.sl v.xn (v.items.map zA),.sl v.rn (v.rest.map jO)]:=by
 cases v;rw [zA,PU,PU];rfl
mutual
/-- lengths that occur -/
def Vl.ok:Vl->Prop
 | .mk _ _ _ s _ _ ks _ xs _ rs=>ks.length<=9223372036854775807/\xs.length<=9223372036854775807/\rs.length<=9223372036854775807/\s.size<=9223372036854775807/\Vl.oks ks/\Vl.oks xs
def Vl.oks:List Vl->Prop
 | []=>True
 | v :: r=>Vl.ok v/\Vl.oks r
end
theorem Vl.oks_iff:∀ l:List Vl,Vl.oks l ↔ ∀ v∈l,v.ok
 | []=>by simp [Vl.oks]
 | v :: r=>by simp [Vl.oks,Vl.oks_iff r]
theorem Vl.ok_def (v:Vl):v.ok ↔ v.keys.length<=9223372036854775807/\v.items.length<=9223372036854775807/\v.rest.length<=9223372036854775807/\v.s.size<=9223372036854775807/\(∀ x∈v.keys,x.ok)/\∀ x∈v.items,x.ok:=by
 cases v;rw [Vl.ok,Vl.oks_iff,Vl.oks_iff];rfl
def Vl.zero:Vl:=.mk 0 false 0 ⟨#[]⟩ 0 true [] true [] true []
structure NV where
 id:Int
 name:ByteArray
 deriving DecidableEq
def lD (x:NV):List AV:=[.int .i64 x.id,.str x.name]
structure uC where
 id:Int
 name:ByteArray
 ty:Int
 crit:Bool
 has:Bool
 dflt:Vl
def bA (m:uC):List AV:=[.int .i64 m.id,.str m.name,.int .i64 m.ty,.bool m.crit,.bool m.has,.int .i64 m.dflt.kind,.bool m.dflt.b,.int .i64 m.dflt.i,.str m.dflt.s,.int .i64 m.dflt.id,.sl m.dflt.kn (m.dflt.keys.map zA),.sl m.dflt.xn (m.dflt.items.map zA),.sl m.dflt.rn (m.dflt.rest.map jO)]
structure dA where
 kind:Int
 name:ByteArray
 low:Int
 high:Int
 max:Int
 sn:Bool
 syms:List NV
 mn:Bool
 mems:List uC
 key:Int
 elem:Int
 opn:Bool
def rA (t:dA):List AV:=[.int .i64 t.kind,.str t.name,.int .i64 t.low,.int .i64 t.high,.int .i64 t.max,.sl t.sn (t.syms.map lD),.sl t.mn (t.mems.map bA),.int .i64 t.key,.int .i64 t.elem,.bool t.opn]
structure wI where
 nl:Bool
 types:List dA
def UA (s:wI):List AV:=[.sl s.nl (s.types.map rA)]
def uC.ok (m:uC):Prop:=m.dflt.ok/\m.name.size<=9223372036854775807
def dA.ok (t:dA):Prop:=t.syms.length<=9223372036854775807/\t.mems.length<=9223372036854775807/\∀ m∈t.mems,m.ok
def wI.ok (s:wI):Prop:=s.types.length<=9223372036854775807/\∀ t∈s.types,t.ok
theorem ZA {i:Nat} (h:i<9223372036854775807:=by omega):IntKind.i64.wrap ((i:Int) + 1)=((i + 1:Nat):Int):=by
 rw [IntWalk.i64_in _ (by omega)]; rfl
theorem els_sym (l:List NV):gB 2 (l.map lD)=true:=tC _ _ _ fun _=>rfl
theorem wW (l:List uC):gB 13 (l.map bA)=true:=tC _ _ _ fun _=>rfl
theorem wA {f:Nat} {c:qB} {args:List AV} {r:RV} (hT:gA f=some c) (hl:args.length=c.np) (h:c.code.run (UF gA eA) (KJ gA eA) (pA.init args none) (XN c none)=some r) (hm:UI args=false:=by rfl):UF gA eA f args none=some r:=PT c hT hl h hm
abbrev fA (f:Nat) (args:List AV) (v:AV):Prop:=UF gA eA f args none=some (v,none)
def qR (x:Int):Bool:=decide (x=95)||(decide (97<=x)&&decide (x<=122))||(decide (65<=x)&&decide (x<=90))
def qX (x:Int):Bool:=decide (48<=x)&&decide (x<=57)
def lG (s:ByteArray):Nat->Nat->Bool
 | 0,_=>true
 | n + 1,i=>(match s[i]? with | some u=>qR u.toNat||qX u.toNat | none=>false)&&lG s n (i + 1)
def sF (s:ByteArray):Bool:=decide (s.size≠0)&&decide (s.size<=24)&&(match s[0]? with | some u=>qR u.toNat | none=>false)&&lG s s.size 0
theorem o0 (x:Int):fA 248 [.int .u8 x] (.bool (qR x)):=by
 refine wA (c:=dH) rfl rfl ?_;unfold qR;by_cases h1:x=95 <;> by_cases h2:97<=x <;> by_cases h3:65<=x <;> by_cases h4:x<=122 <;> by_cases h5:x<=90 <;> simp [dH,-V,QC,J,h1,h2,h3,h4,h5]
theorem digit_ev (x:Int):fA 249 [.int .u8 x] (.bool (qX x)):=by
 refine wA (c:=tI) rfl rfl ?_;unfold qX;by_cases h1:48<=x <;> simp [tI,-V,QC,J,h1]
theorem iY (x:Int):fA 224 [.int .u8 x] (.bool (qR x)):=by
 refine wA (c:=BI) rfl rfl ?_;unfold qR;by_cases h1:x=95 <;> by_cases h2:97<=x <;> by_cases h3:65<=x <;> by_cases h4:x<=122 <;> by_cases h5:x<=90 <;> simp [BI,-V,QC,J,h1,h2,h3,h4,h5]
theorem rdigit_ev (x:Int):fA 225 [.int .u8 x] (.bool (qX x)):=by
 refine wA (c:=zK) rfl rfl ?_;unfold qX;by_cases h1:48<=x <;> simp [zK,-V,QC,J,h1]
theorem ZP {s:ByteArray} {i:Nat} (h:i<s.size):∃ u,s[i]?=some u:=⟨s[i],getElem?_pos s i h⟩
theorem name_lp (s:ByteArray) (hs:s.size<=24) (r:RV) (k:Ex->pA->Option RV) (hk:∀ s',lG s s.size 0=true->k (.exit 0) s'=some r) (hr:∀ s':pA,lG s s.size 0=false->(s'.env 2).v=.bool false->k .ret s'=some r) :
  ∀ (n i:Nat),i + n=s.size->lG s n i=lG s s.size 0->∀ s':pA,(s'.env 0).v=.str s->(s'.env 18).v=.int .i64 s.size->(s'.env 19).v=.int .i64 i->TH gA eA MD s' k=some r:=by
 intro n
 induction n with
 | zero =>
  intro i hi hf s' e0 dm e19;have fa:¬ ((i:Int)<s.size):=by omega
  refine tA ?_;simp [MD,-V,QC,J,e0,dm,e19,fa];exact hk _ (by rw [<- hf]; rfl)
 | succ n ih =>
  intro i hi hf s' e0 dm e19;have fa:(i:Int)<s.size:=by omega
  obtain ⟨u,hu⟩:=ZP (s:=s) (i:=i) (by omega);have hw:=ZA (i:=i);have h1:=o0 u.toNat;have h2:=digit_ev u.toNat;simp only [lG,hu] at hf;refine tA ?_;cases b1:qR u.toNat with
  | true =>
   simp only [b1] at h1 hf;simp [MD,-V,QC,J,e0,dm,e19,fa,hu,h1,hw];refine ih (i + 1) (by omega) (by simpa using hf) _ ?_ ?_ ?_ <;> simp [*]
  | false =>
   cases b2:qX u.toNat with
   | true =>
    simp only [b1,b2] at h1 h2 hf;simp [MD,-V,QC,J,e0,dm,e19,fa,hu,h1,h2,hw];refine ih (i + 1) (by omega) (by simpa using hf) _ ?_ ?_ ?_ <;> simp [*]
   | false =>
    simp only [b1,b2] at h1 h2 hf;simp [MD,-V,QC,J,e0,dm,e19,fa,hu,h1,h2,hw];refine hr _ (by simpa using hf.symm) ?_;simp
theorem name_ev (s:ByteArray):fA 234 [.str s] (.bool (sF s)):=by
 refine wA (c:=bE) rfl rfl ?_;unfold sF;by_cases h0:s=⟨#[]⟩
 ·subst h0;simp [bE,-V,QC,J];exact fun h=>absurd rfl h
 ·have hz:s.size≠0:=fun h=>h0 (by
   obtain ⟨d⟩:=s;have h:d.size=0:=h;rw [Array.eq_empty_of_size_eq_zero h])
  by_cases h1:s.size<=24
  ·have ol:¬ ((24:Int)<s.size):=by omega
   obtain ⟨u,hu⟩:=ZP (s:=s) (i:=0) (by omega);have h2:=o0 u.toNat;cases b1:qR u.toNat with
   | false =>
    simp only [b1] at h2;simp [bE,-V,QC,J,h0,ol,hu,h2,b1]
   | true =>
    simp only [b1] at h2;simp [bE,-V,QC,J,h0,ol,hu,h2,b1,hz,h1];refine name_lp s h1 _ _ (fun s' hf=>?main) (fun s' hf h2=>?main2) s.size 0 (by simp) rfl _ ?_ ?_ ?_
    case main=>simp [-V,QC,J,hf]
    case main2=>simp [-V,QC,J,hf,h2]
    all_goals simp
  ·have ol:(24:Int)<s.size:=by omega
   simp [bE,-V,QC,J,h0,ol,h1]
theorem rname_lp (s:ByteArray) (hs:s.size<=24) (r:RV) (k:Ex->pA->Option RV) (hk:∀ s',lG s s.size 0=true->k (.exit 0) s'=some r) (hr:∀ s':pA,lG s s.size 0=false->(s'.env 2).v=.bool false->k .ret s'=some r) :
  ∀ (n i:Nat),i + n=s.size->lG s n i=lG s s.size 0->∀ s':pA,(s'.env 0).v=.str s->(s'.env 3).v=.int .i64 i->TH gA eA qE s' k=some r:=by
 intro n
 induction n with
 | zero =>
  intro i hi hf s' e0 e3;have fa:¬ ((i:Int)<s.size):=by omega
  refine tA ?_;simp [qE,-V,QC,J,e0,e3,fa];exact hk _ (by rw [<- hf]; rfl)
 | succ n ih =>
  intro i hi hf s' e0 e3;have fa:(i:Int)<s.size:=by omega
  obtain ⟨u,hu⟩:=ZP (s:=s) (i:=i) (by omega);have hw:=ZA (i:=i);have h1:=iY u.toNat;have h2:=rdigit_ev u.toNat;simp only [lG,hu] at hf;refine tA ?_;cases b1:qR u.toNat with
  | true =>
   simp only [b1] at h1 hf;simp [qE,-V,QC,J,e0,e3,fa,hu,h1,hw];refine ih (i + 1) (by omega) (by simpa using hf) _ ?_ ?_ <;> simp [*]
  | false =>
   cases b2:qX u.toNat with
   | true =>
    simp only [b1,b2] at h1 h2 hf;simp [qE,-V,QC,J,e0,e3,fa,hu,h1,h2,hw];refine ih (i + 1) (by omega) (by simpa using hf) _ ?_ ?_ <;> simp [*]
   | false =>
    simp only [b1,b2] at h1 h2 hf;simp [qE,-V,QC,J,e0,e3,fa,hu,h1,h2,hw];refine hr _ (by simpa using hf.symm) ?_;simp
theorem pY (s:ByteArray):fA 210 [.str s] (.bool (sF s)):=by
 refine wA (c:=nE) rfl rfl ?_;unfold sF;by_cases h0:s=⟨#[]⟩
 ·subst h0;simp [nE,-V,QC,J];exact fun h=>absurd rfl h
 ·have hz:s.size≠0:=fun h=>h0 (by
   obtain ⟨d⟩:=s;have h:d.size=0:=h;rw [Array.eq_empty_of_size_eq_zero h])
  by_cases h1:s.size<=24
  ·have ol:¬ ((24:Int)<s.size):=by omega
   obtain ⟨u,hu⟩:=ZP (s:=s) (i:=0) (by omega);have h2:=iY u.toNat;cases b1:qR u.toNat with
   | false =>
    simp only [b1] at h2;simp [nE,-V,QC,J,h0,ol,hu,h2,b1]
   | true =>
    simp only [b1] at h2;simp [nE,-V,QC,J,h0,ol,hu,h2,b1,hz,h1];refine rname_lp s h1 _ _ (fun s' hf=>?main) (fun s' hf h2=>?main2) s.size 0 (by simp) rfl _ ?_ ?_
    case main=>simp [-V,QC,J,hf]
    case main2=>simp [-V,QC,J,hf,h2]
    all_goals simp
  ·have ol:(24:Int)<s.size:=by omega
   simp [nE,-V,QC,J,h0,ol,h1]
mutual
def Vl.same:Vl->Vl->Bool
 | .mk k b i s d _ ks _ xs _ rs,.mk k' b' i' s' d' _ ks' _ cj _ rs'=>decide (k=k')&&(b == b')&&decide (i=i')&&decide (s=s')&&decide (d=d')&&decide (rs=rs')&&Vl.sames ks ks'&&Vl.sames xs cj
def Vl.sames:List Vl->List Vl->Bool
 | [],[]=>true
 | v :: r,v' :: r'=>Vl.same v v'&&Vl.sames r r'
 | [],_ :: _=>false
 | _ :: _,[]=>false
end
theorem Vl.same_def (v w:Vl):v.same w=(decide (v.kind=w.kind)&&(v.b == w.b)&&decide (v.i=w.i)&&decide (v.s=w.s)&&decide (v.id=w.id)&&decide (v.rest=w.rest)&&Vl.sames v.keys w.keys&&Vl.sames v.items w.items):=by
 cases v; cases w; rw [Vl.same]; rfl
theorem Vl.sames_len:∀ l m:List Vl,l.length≠m.length->Vl.sames l m=false
 | [],[],h=>absurd rfl h
 | [],_ :: _,_=>by rw [Vl.sames]
 | _ :: _,[],_=>by rw [Vl.sames]
 | v :: r,w :: r',h=>by rw [Vl.sames,Vl.sames_len r r' (by simpa using h)]; simp
theorem raws_lp (rs qs:List Raw) (hl:rs.length<=9223372036854775807) (he:rs.length=qs.length) (b1 b2:Bool) (r:RV) (k:Ex->pA->Option RV) (hk:∀ s',rs=qs->k (.exit 0) s'=some r) (hr:∀ s':pA,rs≠qs->(s'.env 4).v=.bool false->k .ret s'=some r) :
  ∀ (n i:Nat),i + n=rs.length->(rs.drop i=qs.drop i ↔ rs=qs)->∀ s':pA,(s'.env 0).v=.sl b1 (rs.map jO)->(s'.env 1).v=.sl b2 (qs.map jO)->(s'.env 12).v=.int .i64 rs.length->(s'.env 13).v=.int .i64 i->TH gA eA XB s' k=some r:=by
 intro n
 induction n with
 | zero =>
  intro i hi hf s' e0 e1 e12 jj;have fa:¬ ((i:Int)<rs.length):=by omega
  refine tA ?_;simp [XB,-V,QC,J,e12,jj,fa];exact hk _ (hf.1 (by rw [ye (by omega),ye (by omega)]))
 | succ n ih =>
  intro i hi hf s' e0 e1 e12 jj;have fa:(i:Int)<rs.length:=by omega
  have kf:i<rs.length:=by omega
  have mh:i<qs.length:=by omega
  have hw:=ZA (i:=i);have g1:(rs.map jO)[i]?=some (jO rs[i]):=by simp [kf]
  have g2:(qs.map jO)[i]?=some (jO qs[i]):=by simp [mh]
  rw [y9 kf,y9 mh] at hf;simp only [List.cons.injEq] at hf;generalize rs[i]=x at *
  generalize qs[i]=y at *
  obtain ⟨xi,xd⟩:=x;obtain ⟨yi,yd⟩:=y;simp only [jO] at g1 g2;simp only [Raw.mk.injEq] at hf;refine tA ?_;by_cases h1:xi=yi
  ·by_cases h2:xd=yd
   ·subst h1 h2;simp [XB,-V,QC,J,e0,e1,e12,jj,fa,g1,g2,eL,hw];refine ih (i + 1) (by omega) (by simpa using hf) _ ?_ ?_ ?_ ?_ <;> simp [*]
   ·subst h1;simp [XB,-V,QC,J,e0,e1,e12,jj,fa,g1,g2,eL,h2];exact hr _ (fun h=>h2 (hf.2 h).1.2) (by simp)
  ·simp [XB,-V,QC,J,e0,e1,e12,jj,fa,g1,g2,eL,h1];exact hr _ (fun h=>h1 (hf.2 h).1.1) (by simp)
theorem raws_ev (rs qs:List Raw) (hl:rs.length<=9223372036854775807) (b1 b2:Bool):fA 196 [.sl b1 (rs.map jO),.sl b2 (qs.map jO)] (.bool (decide (rs=qs))):=by
 refine wA (c:=gD) rfl rfl ?_;by_cases he:rs.length=qs.length
 ·have wg:(rs.length:Int)=qs.length:=by omega
  simp [gD,-V,QC,J,he];refine raws_lp rs qs hl he b1 b2 _ _ (fun s' hf=>?main) (fun s' hf h4=>?main2) rs.length 0 (by simp) (by simp) _ ?_ ?_ ?_ ?_
  case main=>simp [-V,QC,J,hf]
  case main2=>simp [-V,QC,J,hf,h4]
  all_goals simp [he]
 ·have wg:¬ (rs.length:Int)=qs.length:=by omega
  have oa:rs≠qs:=fun h=>he (by rw [h])
  simp [gD,-V,QC,J,wg,oa]
theorem eqf_lp (F:Nat) (l m:List Vl) (hl:l.length<=9223372036854775807) (he:l.length=m.length) (hF:∀ x∈l,∀ y∈m,fA F [.agg (zA x),.agg (zA y)] (.bool (x.same y))) (b1 b2:Bool) (r:RV) (k:Ex->pA->Option RV) (hk:∀ s',Vl.sames l m=true->k (.exit 0) s'=some r) (hr:∀ s':pA,Vl.sames l m=false->(s'.env 6).v=.bool false->k .ret s'=some r) :
  ∀ (n i:Nat),i + n=l.length->Vl.sames (l.drop i) (m.drop i)=Vl.sames l m->∀ s':pA,(s'.env 1).v=.sl b2 (m.map zA)->(s'.env 2).v=.fn F []->(s'.env 15).v=.sl b1 (l.map zA)->(s'.env 16).v=.int .i64 l.length->(s'.env 17).v=.int .i64 i->TH gA eA PB s' k=some r:=by
 intro n
 induction n with
 | zero =>
  intro i hi hf s' e1 e2 e15 e16 bh;have fa:¬ ((i:Int)<l.length):=by omega
  refine tA ?_;simp [PB,-V,QC,J,e16,bh,fa];refine hk _ ?_;rw [<- hf,ye (by omega),ye (by omega),Vl.sames]
 | succ n ih =>
  intro i hi hf s' e1 e2 e15 e16 bh;have fa:(i:Int)<l.length:=by omega
  have kf:i<l.length:=by omega
  have mh:i<m.length:=by omega
  have hw:=ZA (i:=i);have g1:(l.map zA)[i]?=some (zA l[i]):=by simp [kf]
  have g2:(m.map zA)[i]?=some (zA m[i]):=by simp [mh]
  have hx:=hF l[i] (y6 _) m[i] (y6 _);rw [y9 kf,y9 mh,Vl.sames] at hf;generalize l[i]=x at *
  generalize m[i]=y at *
  simp only [fA,uA] at g1 g2 hx;refine tA ?_;cases h1:x.same y with
  | true =>
   rw [h1] at hx hf;simp [PB,-V,QC,J,e1,e2,e15,e16,bh,fa,g1,g2,PF,cD,hx,hw];refine ih (i + 1) (by omega) (by simpa using hf) _ ?_ ?_ ?_ ?_ ?_ <;> simp [*]
  | false =>
   rw [h1] at hx hf;simp [PB,-V,QC,J,e1,e2,e15,e16,bh,fa,g1,g2,PF,cD,hx];exact hr _ (by simpa using hf.symm) (by simp)
theorem W2 (F:Nat) (l m:List Vl) (hl:l.length<=9223372036854775807) (hF:∀ x∈l,∀ y∈m,fA F [.agg (zA x),.agg (zA y)] (.bool (x.same y))) (b1 b2:Bool):fA 197 [.sl b1 (l.map zA),.sl b2 (m.map zA),.fn F []] (.bool (Vl.sames l m)):=by
 refine wA (c:=qC) rfl rfl ?_;by_cases he:l.length=m.length
 ·simp [qC,-V,QC,J,he];refine eqf_lp F l m hl he hF b1 b2 _ _ (fun s' hf=>?main) (fun s' hf h4=>?main2) l.length 0 (by simp) (by simp) _ ?_ ?_ ?_ ?_ ?_
  case main=>simp [-V,QC,J,hf]
  case main2=>simp [-V,QC,J,hf,h4]
  all_goals simp [he]
 ·have wg:¬ (l.length:Int)=m.length:=by omega
  simp [qC,-V,QC,J,wg,Vl.sames_len l m he]
theorem same_ev:∀ (n:Nat) (v w:Vl),SizeOf.sizeOf v<n->v.ok->fA 255 [.agg (zA v),.agg (zA w)] (.bool (v.same w)):=by
 intro n
 induction n with
 | zero=>intro v w h; omega
 | succ n ih =>
  intro v w hn hv;rw [Vl.ok_def] at hv;obtain ⟨o1,o2,o3,o4,o5,o6⟩:=hv;have hr:=raws_ev v.rest w.rest o3 v.rn w.rn;have oj:=W2 255 v.keys w.keys o1 (fun x hx y _=>ih x y (by have:=Vl.keys_lt v x hx; omega) (o5 x hx)) v.kn w.kn;have ge:=W2 255 v.items w.items o2 (fun x hx y _=>ih x y (by have:=Vl.items_lt v x hx; omega) (o6 x hx)) v.xn w.xn;simp only [fA] at hr oj ge;refine wA (c:=ZC) rfl rfl ?_;rw [uA,uA,Vl.same_def];by_cases h1:v.kind=w.kind
  ·by_cases h2:v.b=w.b
   ·by_cases h3:v.i=w.i
    ·by_cases h4:v.s=w.s
     ·by_cases h5:v.id=w.id
      ·by_cases h6:v.rest=w.rest
       ·cases h7:Vl.sames v.keys w.keys with
        | true=>rw [h7] at oj; simp [ZC,-V,QC,J,h1,h2,h3,h4,h5,h6 ▸ hr,h6,PF,cD,oj,ge,h7]
        | false=>rw [h7] at oj; simp [ZC,-V,QC,J,h1,h2,h3,h4,h5,h6 ▸ hr,h6,PF,cD,oj,h7]
       ·simp [ZC,-V,QC,J,h1,h2,h3,h4,h5,hr,h6]
      ·simp [ZC,-V,QC,J,h1,h2,h3,h4,h5]
     ·simp [ZC,-V,QC,J,h1,h2,h3,h4]
    ·simp [ZC,-V,QC,J,h1,h2,h3]
   ·simp [ZC,-V,QC,J,h1,h2]
  ·simp [ZC,-V,QC,J,h1]
abbrev PR (v:Vl):List qA:=[⟨.int .i64 v.kind,.no⟩,⟨.bool v.b,.no⟩,⟨.int .i64 v.i,.no⟩,⟨.str v.s,.no⟩,⟨.int .i64 v.id,.no⟩,⟨.sl v.kn (v.keys.map zA),.no⟩,⟨.sl v.xn (v.items.map zA),.no⟩,⟨.sl v.rn (v.rest.map jO),.no⟩]
theorem rrest_lp (v w:Vl) (hl:v.rest.length<=9223372036854775807) (he:v.rest.length=w.rest.length) (m:Nat) (r:RV) (k:Ex->pA->Option RV)
  (hk:∀ s':pA,v.rest=w.rest->(s'.env 2).v=.ptr 2 m 0->(s'.env 3).v=.ptr 3 m 0->s'.mem 2 m=some (PR v)->s'.mem 3 m=some (PR w)->k (.exit 0) s'=some r) (hr:∀ s':pA,v.rest≠w.rest->(s'.env 4).v=.bool false->k .ret s'=some r) :
  ∀ (n i:Nat),i + n=v.rest.length->(v.rest.drop i=w.rest.drop i ↔ v.rest=w.rest)->∀ s':pA,(s'.env 2).v=.ptr 2 m 0->(s'.env 3).v=.ptr 3 m 0->s'.mem 2 m=some (PR v)->s'.mem 3 m=some (PR w)->(s'.env 5).v=.int .i64 i->TH gA eA iD s' k=some r:=by
 intro n
 induction n with
 | zero =>
  intro i hi hf s' e2 e3 m2 m3 e5;have fa:¬ ((i:Int)<v.rest.length):=by omega
  refine tA ?_;simp [iD,-V,QC,J,e2,e3,m2,m3,e5,fa];exact hk _ (hf.1 (by rw [ye (by omega),ye (by omega)])) (by simp [e2]) (by simp [e3]) (by simp [m2]) (by simp [m3])
 | succ n ih =>
  intro i hi hf s' e2 e3 m2 m3 e5;have fa:(i:Int)<v.rest.length:=by omega
  have kf:i<v.rest.length:=by omega
  have mh:i<w.rest.length:=by omega
  have hw:=ZA (i:=i);have g1:(v.rest.map jO)[i]?=some (jO v.rest[i]):=by simp [kf]
  have g2:(w.rest.map jO)[i]?=some (jO w.rest[i]):=by simp [mh]
  rw [y9 kf,y9 mh] at hf;simp only [List.cons.injEq] at hf;generalize v.rest[i]=x at *
  generalize w.rest[i]=y at *
  obtain ⟨xi,xd⟩:=x;obtain ⟨yi,yd⟩:=y;simp only [jO] at g1 g2;simp only [Raw.mk.injEq] at hf;refine tA ?_;by_cases h1:xi=yi
  ·by_cases h2:xd=yd
   ·subst h1 h2;simp [iD,-V,QC,J,e2,e3,m2,m3,e5,fa,g1,g2,eL,hw];refine ih (i + 1) (by omega) (by simpa using hf) _ ?_ ?_ ?_ ?_ ?_ <;> simp [*]
   ·subst h1;simp [iD,-V,QC,J,e2,e3,m2,m3,e5,fa,g1,g2,eL,h2];exact hr _ (fun h=>h2 (hf.2 h).1.2) (by simp)
  ·simp [iD,-V,QC,J,e2,e3,m2,m3,e5,fa,g1,g2,eL,h1];exact hr _ (fun h=>h1 (hf.2 h).1.1) (by simp)
theorem rsames_lp (l m:List Vl) (hl:l.length<=9223372036854775807) (he:l.length=m.length) (hF:∀ x∈l,∀ y∈m,fA 189 [.agg (zA x),.agg (zA y)] (.bool (x.same y))) (b1 b2:Bool) (r:RV) (k:Ex->pA->Option RV) (hk:∀ s',Vl.sames l m=true->k (.exit 0) s'=some r) (hr:∀ s':pA,Vl.sames l m=false->(s'.env 4).v=.bool false->k .ret s'=some r) :
  ∀ (n i:Nat),i + n=l.length->Vl.sames (l.drop i) (m.drop i)=Vl.sames l m->∀ s':pA,(s'.env 0).v=.sl b1 (l.map zA)->(s'.env 1).v=.sl b2 (m.map zA)->(s'.env 5).v=.int .i64 i->TH gA eA ED s' k=some r:=by
 intro n
 induction n with
 | zero =>
  intro i hi hf s' e0 e1 e5;have fa:¬ ((i:Int)<l.length):=by omega
  refine tA ?_;simp [ED,-V,QC,J,e0,e5,fa];refine hk _ ?_;rw [<- hf,ye (by omega),ye (by omega),Vl.sames]
 | succ n ih =>
  intro i hi hf s' e0 e1 e5;have fa:(i:Int)<l.length:=by omega
  have kf:i<l.length:=by omega
  have mh:i<m.length:=by omega
  have hw:=ZA (i:=i);have g1:(l.map zA)[i]?=some (zA l[i]):=by simp [kf]
  have g2:(m.map zA)[i]?=some (zA m[i]):=by simp [mh]
  have hx:=hF l[i] (y6 _) m[i] (y6 _);rw [y9 kf,y9 mh,Vl.sames] at hf;generalize l[i]=x at *
  generalize m[i]=y at *
  simp only [fA,uA] at g1 g2 hx;refine tA ?_;cases h1:x.same y with
  | true =>
   rw [h1] at hx hf;simp [ED,-V,QC,J,e0,e1,e5,fa,g1,g2,PF,hx,hw];refine ih (i + 1) (by omega) (by simpa using hf) _ ?_ ?_ ?_ <;> simp [*]
  | false =>
   rw [h1] at hx hf;simp [ED,-V,QC,J,e0,e1,e5,fa,g1,g2,PF,hx];exact hr _ (by simpa using hf.symm) (by simp)
theorem C0 (l m:List Vl) (hl:l.length<=9223372036854775807) (hF:∀ x∈l,∀ y∈m,fA 189 [.agg (zA x),.agg (zA y)] (.bool (x.same y))) (b1 b2:Bool):fA 213 [.sl b1 (l.map zA),.sl b2 (m.map zA)] (.bool (Vl.sames l m)):=by
 refine wA (c:=mE) rfl rfl ?_;by_cases he:l.length=m.length
 ·simp [mE,-V,QC,J,he];refine rsames_lp l m hl he hF b1 b2 _ _ (fun s' hf=>?main) (fun s' hf h4=>?main2) l.length 0 (by simp) (by simp) _ ?_ ?_ ?_
  case main=>simp [-V,QC,J,hf]
  case main2=>simp [-V,QC,J,hf,h4]
  all_goals simp [he]
 ·have wg:¬ (l.length:Int)=m.length:=by omega
  simp [mE,-V,QC,J,wg,Vl.sames_len l m he]
theorem kY:∀ (n:Nat) (v w:Vl),SizeOf.sizeOf v<n->v.ok->fA 189 [.agg (zA v),.agg (zA w)] (.bool (v.same w)):=by
 intro n
 induction n with
 | zero=>intro v w h; omega
 | succ n ih =>
  intro v w hn hv;rw [Vl.ok_def] at hv;obtain ⟨o1,o2,o3,o4,o5,o6⟩:=hv;have oj:=C0 v.keys w.keys o1 (fun x hx y _=>ih x y (by have:=Vl.keys_lt v x hx; omega) (o5 x hx)) v.kn w.kn;have ge:=C0 v.items w.items o2 (fun x hx y _=>ih x y (by have:=Vl.items_lt v x hx; omega) (o6 x hx)) v.xn w.xn;simp only [fA] at oj ge;refine wA (c:=GB) rfl rfl ?_;rw [uA,uA,Vl.same_def];by_cases h1:v.kind=w.kind
  ·by_cases h2:v.b=w.b
   ·by_cases h3:v.i=w.i
    ·by_cases h4:v.s=w.s
     ·by_cases h5:v.id=w.id
      ·by_cases he:v.rest.length=w.rest.length
       ·simp [GB,-V,QC,J,h1,h2,h3,h4,h5,he];refine rrest_lp v w o3 he 1 _ _ (fun s' h6 e2 e3 m2 m3=>?main) (fun s' h6 e4=>?main2) v.rest.length 0 (by simp) (by simp) _ ?_ ?_ ?_ ?_ ?_
        case main =>
         cases h7:Vl.sames v.keys w.keys with
         | true=>rw [h7] at oj; simp [-V,QC,J,e2,e3,m2,m3,PF,oj,ge,h6]
         | false=>rw [h7] at oj; simp [-V,QC,J,e2,e3,m2,m3,PF,oj,h6]
        case main2=>simp [-V,QC,J,e4,h6]
        all_goals simp [h1,h2,h3,h4,h5]
       ·have wg:¬ (v.rest.length:Int)=w.rest.length:=by omega
        have h6:¬ v.rest=w.rest:=fun h=>he (by rw [h])
        simp [GB,-V,QC,J,h1,h2,h3,h4,h5,wg,h6]
      ·simp [GB,-V,QC,J,h1,h2,h3,h4,h5]
     ·simp [GB,-V,QC,J,h1,h2,h3,h4]
    ·simp [GB,-V,QC,J,h1,h2,h3]
   ·simp [GB,-V,QC,J,h1,h2]
  ·simp [GB,-V,QC,J,h1]
def uC.same (m m':uC):Bool:=decide (m.id=m'.id)&&decide (m.name=m'.name)&&decide (m.ty=m'.ty)&&(m.crit == m'.crit)&&(m.has == m'.has)&&m.dflt.same m'.dflt
def lB:List uC->List uC->Bool
 | [],[]=>true
 | m :: r,m' :: r'=>m.same m'&&lB r r'
 | [],_ :: _=>false
 | _ :: _,[]=>false
theorem qO:∀ l m:List uC,l.length≠m.length->lB l m=false
 | [],[],h=>absurd rfl h
 | [],_ :: _,_=>rfl
 | _ :: _,[],_=>rfl
 | v :: r,w :: r',h=>by rw [lB,qO r r' (by simpa using h)]; simp
def dA.same (t u:dA):Bool:=decide (t.kind=u.kind)&&decide (t.name=u.name)&&decide (t.low=u.low)&&decide (t.high=u.high)&&decide (t.max=u.max)&&decide (t.key=u.key)&&decide (t.elem=u.elem)&&(t.opn == u.opn)&&decide (t.syms=u.syms)&&lB t.mems u.mems
theorem msame_ev (m m':uC) (hm:m.ok):fA 254 [.agg (bA m),.agg (bA m')] (.bool (m.same m')):=by
 have hs:=same_ev _ m.dflt m'.dflt (Nat.lt_succ_self _) hm.1;simp only [fA,uA] at hs;refine wA (c:=pC) rfl rfl ?_;unfold uC.same bA;by_cases h1:m.id=m'.id
 ·by_cases h2:m.name=m'.name
  ·by_cases h3:m.ty=m'.ty
   ·by_cases h4:m.crit=m'.crit
    ·by_cases h5:m.has=m'.has
     ·simp [pC,-V,QC,J,h1,h2,h3,h4,h5,hs]
     ·simp [pC,-V,QC,J,h1,h2,h3,h4,h5]
    ·simp [pC,-V,QC,J,h1,h2,h3,h4]
   ·simp [pC,-V,QC,J,h1,h2,h3]
  ·simp [pC,-V,QC,J,h1,h2]
 ·simp [pC,-V,QC,J,h1]
theorem rmsame_ev (m m':uC) (hm:m.ok):fA 223 [.agg (bA m),.agg (bA m')] (.bool (m.same m')):=by
 have hs:=kY _ m.dflt m'.dflt (Nat.lt_succ_self _) hm.1;simp only [fA,uA] at hs;refine wA (c:=CB) rfl rfl ?_;unfold uC.same bA;by_cases h1:m.id=m'.id
 ·by_cases h2:m.name=m'.name
  ·by_cases h3:m.ty=m'.ty
   ·by_cases h4:m.crit=m'.crit
    ·by_cases h5:m.has=m'.has
     ·simp [CB,-V,QC,J,h1,h2,h3,h4,h5,hs]
     ·simp [CB,-V,QC,J,h1,h2,h3,h4,h5]
    ·simp [CB,-V,QC,J,h1,h2,h3,h4]
   ·simp [CB,-V,QC,J,h1,h2,h3]
  ·simp [CB,-V,QC,J,h1,h2]
 ·simp [CB,-V,QC,J,h1]
theorem syms_lp (rs qs:List NV) (hl:rs.length<=9223372036854775807) (he:rs.length=qs.length) (b1 b2:Bool) (r:RV) (k:Ex->pA->Option RV) (hk:∀ s',rs=qs->k (.exit 0) s'=some r) (hr:∀ s':pA,rs≠qs->(s'.env 4).v=.bool false->k .ret s'=some r) :
  ∀ (n i:Nat),i + n=rs.length->(rs.drop i=qs.drop i ↔ rs=qs)->∀ s':pA,(s'.env 0).v=.sl b1 (rs.map lD)->(s'.env 1).v=.sl b2 (qs.map lD)->(s'.env 12).v=.int .i64 rs.length->(s'.env 13).v=.int .i64 i->TH gA eA RB s' k=some r:=by
 intro n
 induction n with
 | zero =>
  intro i hi hf s' e0 e1 e12 jj;have fa:¬ ((i:Int)<rs.length):=by omega
  refine tA ?_;simp [RB,-V,QC,J,e12,jj,fa];exact hk _ (hf.1 (by rw [ye (by omega),ye (by omega)]))
 | succ n ih =>
  intro i hi hf s' e0 e1 e12 jj;have fa:(i:Int)<rs.length:=by omega
  have kf:i<rs.length:=by omega
  have mh:i<qs.length:=by omega
  have hw:=ZA (i:=i);have g1:(rs.map lD)[i]?=some (lD rs[i]):=by simp [kf]
  have g2:(qs.map lD)[i]?=some (lD qs[i]):=by simp [mh]
  rw [y9 kf,y9 mh] at hf;simp only [List.cons.injEq] at hf;generalize rs[i]=x at *
  generalize qs[i]=y at *
  obtain ⟨xi,xd⟩:=x;obtain ⟨yi,yd⟩:=y;simp only [lD] at g1 g2;simp only [NV.mk.injEq] at hf;refine tA ?_;by_cases h1:xi=yi
  ·by_cases h2:xd=yd
   ·subst h1 h2;simp [RB,-V,QC,J,e0,e1,e12,jj,fa,g1,g2,eL,hw];refine ih (i + 1) (by omega) (by simpa using hf) _ ?_ ?_ ?_ ?_ <;> simp [*]
   ·subst h1;simp [RB,-V,QC,J,e0,e1,e12,jj,fa,g1,g2,eL,h2];exact hr _ (fun h=>h2 (hf.2 h).1.2) (by simp)
  ·simp [RB,-V,QC,J,e0,e1,e12,jj,fa,g1,g2,eL,h1];exact hr _ (fun h=>h1 (hf.2 h).1.1) (by simp)
theorem syms_ev (rs qs:List NV) (hl:rs.length<=9223372036854775807) (b1 b2:Bool):fA 252 [.sl b1 (rs.map lD),.sl b2 (qs.map lD)] (.bool (decide (rs=qs))):=by
 refine wA (c:=UC) rfl rfl ?_;by_cases he:rs.length=qs.length
 ·simp [UC,-V,QC,J,he];refine syms_lp rs qs hl he b1 b2 _ _ (fun s' hf=>?main) (fun s' hf h4=>?main2) rs.length 0 (by simp) (by simp) _ ?_ ?_ ?_ ?_
  case main=>simp [-V,QC,J,hf]
  case main2=>simp [-V,QC,J,hf,h4]
  all_goals simp [he]
 ·have wg:¬ (rs.length:Int)=qs.length:=by omega
  have oa:rs≠qs:=fun h=>he (by rw [h])
  simp [UC,-V,QC,J,wg,oa]
theorem eqm_lp (l m:List uC) (hl:l.length<=9223372036854775807) (he:l.length=m.length) (hF:∀ x∈l,x.ok) (b1 b2:Bool) (r:RV) (k:Ex->pA->Option RV) (hk:∀ s',lB l m=true->k (.exit 0) s'=some r) (hr:∀ s':pA,lB l m=false->(s'.env 6).v=.bool false->k .ret s'=some r) :
  ∀ (n i:Nat),i + n=l.length->lB (l.drop i) (m.drop i)=lB l m->∀ s':pA,(s'.env 1).v=.sl b2 (m.map bA)->(s'.env 2).v=.fn 254 []->(s'.env 15).v=.sl b1 (l.map bA)->(s'.env 16).v=.int .i64 l.length->(s'.env 17).v=.int .i64 i->TH gA eA UB s' k=some r:=by
 intro n
 induction n with
 | zero =>
  intro i hi hf s' e1 e2 e15 e16 bh;have fa:¬ ((i:Int)<l.length):=by omega
  refine tA ?_;simp [UB,-V,QC,J,e16,bh,fa];refine hk _ ?_;rw [<- hf,ye (by omega),ye (by omega),lB]
 | succ n ih =>
  intro i hi hf s' e1 e2 e15 e16 bh;have fa:(i:Int)<l.length:=by omega
  have kf:i<l.length:=by omega
  have mh:i<m.length:=by omega
  have hw:=ZA (i:=i);have g1:(l.map bA)[i]?=some (bA l[i]):=by simp [kf]
  have g2:(m.map bA)[i]?=some (bA m[i]):=by simp [mh]
  have hx:=msame_ev l[i] m[i] (hF l[i] (y6 _));rw [y9 kf,y9 mh,lB] at hf;generalize l[i]=x at *
  generalize m[i]=y at *
  simp only [fA,bA] at g1 g2 hx;refine tA ?_;cases h1:x.same y with
  | true =>
   rw [h1] at hx hf;simp [UB,-V,QC,J,e1,e2,e15,e16,bh,fa,g1,g2,PF,cD,hx,hw];refine ih (i + 1) (by omega) (by simpa using hf) _ ?_ ?_ ?_ ?_ ?_ <;> simp [*]
  | false =>
   rw [h1] at hx hf;simp [UB,-V,QC,J,e1,e2,e15,e16,bh,fa,g1,g2,PF,cD,hx];exact hr _ (by simpa using hf.symm) (by simp)
theorem eqm_ev (l m:List uC) (hl:l.length<=9223372036854775807) (hF:∀ x∈l,x.ok) (b1 b2:Bool):fA 253 [.sl b1 (l.map bA),.sl b2 (m.map bA),.fn 254 []] (.bool (lB l m)):=by
 refine wA (c:=JB) rfl rfl ?_;by_cases he:l.length=m.length
 ·simp [JB,-V,QC,J,he];refine eqm_lp l m hl he hF b1 b2 _ _ (fun s' hf=>?main) (fun s' hf h4=>?main2) l.length 0 (by simp) (by simp) _ ?_ ?_ ?_ ?_ ?_
  case main=>simp [-V,QC,J,hf]
  case main2=>simp [-V,QC,J,hf,h4]
  all_goals simp [he]
 ·have wg:¬ (l.length:Int)=m.length:=by omega
  simp [JB,-V,QC,J,wg,qO l m he]
theorem tsame_ev (t u:dA) (ht:t.ok):fA 237 [.agg (rA t),.agg (rA u)] (.bool (t.same u)):=by
 have hs:=syms_ev t.syms u.syms ht.1 t.sn u.sn;have hm:=eqm_ev t.mems u.mems ht.2.1 ht.2.2 t.mn u.mn;simp only [fA] at hs hm;refine wA (c:=DB) rfl rfl ?_;unfold dA.same rA;by_cases h1:t.kind=u.kind
 ·by_cases h2:t.name=u.name
  ·by_cases h3:t.low=u.low
   ·by_cases h4:t.high=u.high
    ·by_cases h5:t.max=u.max
     ·by_cases h6:t.key=u.key
      ·by_cases h7:t.elem=u.elem
       ·by_cases h8:t.opn=u.opn
        ·by_cases h9:t.syms=u.syms
         ·rw [decide_eq_true h9] at hs;simp [DB,-V,QC,J,h1,h2,h3,h4,h5,h6,h7,h8,hs,h9 ▸ hs,h9,PF,cD,hm]
         ·rw [decide_eq_false h9] at hs;simp [DB,-V,QC,J,h1,h2,h3,h4,h5,h6,h7,h8,hs,h9]
        ·simp [DB,-V,QC,J,h1,h2,h3,h4,h5,h6,h7,h8]
       ·simp [DB,-V,QC,J,h1,h2,h3,h4,h5,h6,h7]
      ·simp [DB,-V,QC,J,h1,h2,h3,h4,h5,h6]
     ·simp [DB,-V,QC,J,h1,h2,h3,h4,h5]
    ·simp [DB,-V,QC,J,h1,h2,h3,h4]
   ·simp [DB,-V,QC,J,h1,h2,h3]
  ·simp [DB,-V,QC,J,h1,h2]
 ·simp [DB,-V,QC,J,h1]
abbrev jA (t:dA):List qA:=[⟨.int .i64 t.kind,.no⟩,⟨.str t.name,.no⟩,⟨.int .i64 t.low,.no⟩,⟨.int .i64 t.high,.no⟩,⟨.int .i64 t.max,.no⟩,⟨.sl t.sn (t.syms.map lD),.no⟩,⟨.sl t.mn (t.mems.map bA),.no⟩,⟨.int .i64 t.key,.no⟩,⟨.int .i64 t.elem,.no⟩,⟨.bool t.opn,.no⟩]
theorem rsyms_lp (v w:dA) (hl:v.syms.length<=9223372036854775807) (he:v.syms.length=w.syms.length) (m:Nat) (r:RV) (k:Ex->pA->Option RV)
  (hk:∀ s':pA,v.syms=w.syms->(s'.env 2).v=.ptr 2 m 0->(s'.env 3).v=.ptr 3 m 0->s'.mem 2 m=some (jA v)->s'.mem 3 m=some (jA w)->k (.exit 0) s'=some r) (hr:∀ s':pA,v.syms≠w.syms->(s'.env 4).v=.bool false->k .ret s'=some r) :
  ∀ (n i:Nat),i + n=v.syms.length->(v.syms.drop i=w.syms.drop i ↔ v.syms=w.syms)->∀ s':pA,(s'.env 2).v=.ptr 2 m 0->(s'.env 3).v=.ptr 3 m 0->s'.mem 2 m=some (jA v)->s'.mem 3 m=some (jA w)->(s'.env 5).v=.int .i64 i->TH gA eA zD s' k=some r:=by
 intro n
 induction n with
 | zero =>
  intro i hi hf s' e2 e3 m2 m3 e5;have fa:¬ ((i:Int)<v.syms.length):=by omega
  refine tA ?_;simp [zD,-V,QC,J,e2,e3,m2,m3,e5,fa];exact hk _ (hf.1 (by rw [ye (by omega),ye (by omega)])) (by simp [e2]) (by simp [e3]) (by simp [m2]) (by simp [m3])
 | succ n ih =>
  intro i hi hf s' e2 e3 m2 m3 e5;have fa:(i:Int)<v.syms.length:=by omega
  have kf:i<v.syms.length:=by omega
  have mh:i<w.syms.length:=by omega
  have hw:=ZA (i:=i);have g1:(v.syms.map lD)[i]?=some (lD v.syms[i]):=by simp [kf]
  have g2:(w.syms.map lD)[i]?=some (lD w.syms[i]):=by simp [mh]
  rw [y9 kf,y9 mh] at hf;simp only [List.cons.injEq] at hf;generalize v.syms[i]=x at *
  generalize w.syms[i]=y at *
  obtain ⟨xi,xd⟩:=x;obtain ⟨yi,yd⟩:=y;simp only [lD] at g1 g2;simp only [NV.mk.injEq] at hf;refine tA ?_;by_cases h1:xi=yi
  ·by_cases h2:xd=yd
   ·subst h1 h2;simp [zD,-V,QC,J,e2,e3,m2,m3,e5,fa,g1,g2,eL,hw];refine ih (i + 1) (by omega) (by simpa using hf) _ ?_ ?_ ?_ ?_ ?_ <;> simp [*]
   ·subst h1;simp [zD,-V,QC,J,e2,e3,m2,m3,e5,fa,g1,g2,eL,h2];exact hr _ (fun h=>h2 (hf.2 h).1.2) (by simp)
  ·simp [zD,-V,QC,J,e2,e3,m2,m3,e5,fa,g1,g2,eL,h1];exact hr _ (fun h=>h1 (hf.2 h).1.1) (by simp)
theorem rmems_lp (v w:dA) (hl:v.mems.length<=9223372036854775807) (hF:∀ x∈v.mems,x.ok) (he:v.mems.length=w.mems.length) (m:Nat) (r:RV) (k:Ex->pA->Option RV)
  (hk:∀ s':pA,lB v.mems w.mems=true->k (.exit 2) s'=some r) (hr:∀ s':pA,lB v.mems w.mems=false->(s'.env 4).v=.bool false->k .ret s'=some r) :
  ∀ (n i:Nat),i + n=v.mems.length->lB (v.mems.drop i) (w.mems.drop i)=lB v.mems w.mems->∀ s':pA,(s'.env 2).v=.ptr 2 m 0->(s'.env 3).v=.ptr 3 m 0->s'.mem 2 m=some (jA v)->s'.mem 3 m=some (jA w)->(s'.env 6).v=.int .i64 i->TH gA eA dE s' k=some r:=by
 intro n
 induction n with
 | zero =>
  intro i hi hf s' e2 e3 m2 m3 e6;have fa:¬ ((i:Int)<v.mems.length):=by omega
  refine tA ?_;simp [dE,-V,QC,J,e2,e3,m2,m3,e6,fa];refine hk _ ?_;rw [<- hf,ye (by omega),ye (by omega),lB]
 | succ n ih =>
  intro i hi hf s' e2 e3 m2 m3 e6;have fa:(i:Int)<v.mems.length:=by omega
  have kf:i<v.mems.length:=by omega
  have mh:i<w.mems.length:=by omega
  have hw:=ZA (i:=i);have g1:(v.mems.map bA)[i]?=some (bA v.mems[i]):=by simp [kf]
  have g2:(w.mems.map bA)[i]?=some (bA w.mems[i]):=by simp [mh]
  have hx:=rmsame_ev v.mems[i] w.mems[i] (hF _ (y6 _));rw [y9 kf,y9 mh,lB] at hf;generalize v.mems[i]=x at *
  generalize w.mems[i]=y at *
  simp only [fA,bA] at g1 g2 hx;refine tA ?_;cases h1:x.same y with
  | true =>
   rw [h1] at hx hf;simp [dE,-V,QC,J,e2,e3,m2,m3,e6,fa,g1,g2,PF,hx,hw];refine ih (i + 1) (by omega) (by simpa using hf) _ ?_ ?_ ?_ ?_ ?_ <;> simp [*]
  | false =>
   rw [h1] at hx hf;simp [dE,-V,QC,J,e2,e3,m2,m3,e6,fa,g1,g2,PF,hx];exact hr _ (by simpa using hf.symm) (by simp)
theorem rtsame_ev (t u:dA) (ht:t.ok):fA 208 [.agg (rA t),.agg (rA u)] (.bool (t.same u)):=by
 refine wA (c:=sB) rfl rfl ?_;unfold dA.same rA;by_cases h1:t.kind=u.kind
 ·by_cases h2:t.name=u.name
  ·by_cases h3:t.low=u.low
   ·by_cases h4:t.high=u.high
    ·by_cases h5:t.max=u.max
     ·by_cases h6:t.key=u.key
      ·by_cases h7:t.elem=u.elem
       ·by_cases h8:t.opn=u.opn
        ·by_cases h9:t.syms.length=u.syms.length
         ·by_cases br:t.mems.length=u.mems.length
          ·simp [sB,-V,QC,J,h1,h2,h3,h4,h5,h6,h7,h8,h9,br];refine rsyms_lp t u ht.1 h9 1 _ _ (fun s' im e2 e3 m2 m3=>?main) (fun s' im e4=>?main2) t.syms.length 0 (by simp) (by simp) _ ?_ ?_ ?_ ?_ ?_
           case main =>
            simp [-V,QC,J,im];refine rmems_lp t u ht.2.1 ht.2.2 br 1 _ _ (fun s' jm=>?a) (fun s' jm e4=>?b) t.mems.length 0 (by simp) (by simp) _ ?_ ?_ ?_ ?_ ?_
            case a=>simp [-V,QC,J,jm]
            case b=>simp [-V,QC,J,jm,e4]
            all_goals simp [e2,e3,m2,m3]
           case main2=>simp [-V,QC,J,im,e4]
           all_goals simp [h1,h2,h3,h4,h5,h6,h7,h8]
          ·have h10':¬ (t.mems.length:Int)=u.mems.length:=by omega
           simp [sB,-V,QC,J,h1,h2,h3,h4,h5,h6,h7,h8,h9,h10',qO _ _ br]
         ·have h9':¬ (t.syms.length:Int)=u.syms.length:=by omega
          have im:¬ t.syms=u.syms:=fun h=>h9 (by rw [h])
          simp [sB,-V,QC,J,h1,h2,h3,h4,h5,h6,h7,h8,h9',im]
        ·simp [sB,-V,QC,J,h1,h2,h3,h4,h5,h6,h7,h8]
       ·simp [sB,-V,QC,J,h1,h2,h3,h4,h5,h6,h7]
      ·simp [sB,-V,QC,J,h1,h2,h3,h4,h5,h6]
     ·simp [sB,-V,QC,J,h1,h2,h3,h4,h5]
    ·simp [sB,-V,QC,J,h1,h2,h3,h4]
   ·simp [sB,-V,QC,J,h1,h2,h3]
  ·simp [sB,-V,QC,J,h1,h2]
 ·simp [sB,-V,QC,J,h1]
theorem anN_t (a:An):QC true a=.ex:=rfl
theorem anN_f (a:An):QC false a=a:=rfl
theorem anN_ex (b:Bool):QC b .ex=.ex:=by cases b <;> rfl
attribute [simp] anN_t anN_f anN_ex
theorem lA {b:C} {r:RV} (n:Nat) (I:Nat->pA->Prop) (E:Ex->pA->Prop)
  (step:∀ i,i<=n->∀ s k,I i s->(i<n->∀ s',I (i + 1) s'->TH gA eA b s' k=some r)->(∀ e s',E e s'->k e s'=some r)->TH gA eA b s k=some r)
  (s:pA) (k:Ex->pA->Option RV) (h:I 0 s) (hk:∀ e s',E e s'->k e s'=some r):TH gA eA b s k=some r:=by
 have:∀ m i,i + m=n->∀ s,I i s->TH gA eA b s k=some r:=by
  intro m
  induction m with
  | zero=>intro i hi s h; exact step i (by omega) s k h (fun fa=>absurd fa (by omega)) hk
  | succ m ih=>intro i hi s h; exact step i (by omega) s k h (fun _ s' h'=>ih (i + 1) (by omega) s' h') hk
 exact this n 0 (by omega) s h
instance memStr (s:ByteArray) (l:List ByteArray):Decidable (s∈l):=@List.instDecidableMemOfLawfulBEq _ instBEqOfDecidableEq _ s l
def dR (s:ByteArray) (l:List ByteArray):Bool:=decide (s∈l)
theorem kS {s:ByteArray} {l:List ByteArray} (h:s∈l):dR s l=true:=decide_eq_true h
theorem jS {s:ByteArray} {l:List ByteArray} (h:¬ s∈l):dR s l=false:=decide_eq_false h
def zS (b n:Int):Bool:=decide (b<n)&&decide (1<=n)&&decide (n<=1000)
def PC:Int->List ByteArray->List (Int × ByteArray)->Bool
 | _,_,[]=>true
 | b,seen,(n,s) :: r=>zS b n&&!dR s seen&&sF s&&PC n (seen++[s]) r
def E2 (x:Int × ByteArray):List AV:=[.int .i64 x.1]
def nmC (x:Int × ByteArray):List AV:=[.str x.2]
def HI (s:ByteArray):List AV:=[.str s,.bool true]
theorem xY (s:ByteArray):∀ l:List ByteArray,TI (l.map HI) (.str s)=if s∈l then some (AV.bool true) else none
 | []=>rfl
 | x :: r=>by
  simp only [yj,HI,TI,AO];by_cases h:x=s
  ·simp [h]
  ·have h':¬ s=x:=fun e=>h e.symm
   have:=xY s r;simp [h,h',this]
theorem cY (s:ByteArray):∀ l:List ByteArray,¬ s∈l->TG (l.map HI) (.str s) (.bool true)=(l++[s]).map HI
 | [],_=>rfl
 | x :: r,hn=>by
  have h:¬ x=s:=fun e=>hn (by simp [e])
  have:=cY s r fun e=>hn (by simp [e])
  simp [HI,TG,AO,h,this]
theorem P3:∀ l:List ByteArray,cJ .none (l.map HI)=true
 | []=>rfl
 | x :: r=>by
  have:=P3 r;simp only [cJ] at this;simp [cJ,HI,SG,AV.flat,AV.scal]
def CD (l:List (Int × ByteArray)):Nat->Int
 | 0=>0
 | i + 1=>match l[i]? with
  | some x=>x.1
  | none=>0
theorem ids_ev (l:List (Int × ByteArray)) (hl:l.length<=9223372036854775807) (b1 b2:Bool):fA 250 [.sl b1 (l.map E2),.sl b2 (l.map nmC)] (.bool (PC 0 [] l&&decide (l.length<=16))):=by
 refine wA (c:=nL) rfl rfl ?_;simp [nL,-V,-y3,-y0,J];refine lA l.length (fun i s=>(s.env 0).v=.sl b1 (l.map E2)/\(s.env 1).v=.sl b2 (l.map nmC)/\(s.env 5).v=.mp 8 2/\(s.env 9).v=.sl b1 (l.map E2)/\(s.env 10).v=.int .i64 l.length/\(s.env 11).v=.int .i64 i/\s.obj 8 2=some (FG (((l.take i).map (·.2)).map HI))/\PC (CD l i) ((l.take i).map (·.2)) (l.drop i)=PC 0 [] l)
  (fun e s=>(e=.exit 0/\PC 0 [] l=true/\(s.env 0).v=.sl b1 (l.map E2))\/(e=.ret/\PC 0 [] l=false/\(s.env 4).v=.bool false)) (fun i hi s k h ih hk=>?_) _ _ ?_ (fun e s h=>?_)
 ·obtain ⟨e0,e1,e5,e9,e10,e11,o,hs⟩:=h;refine tA ?_;by_cases fa:i<l.length
  ·have ga:(i:Int)<l.length:=by omega
   have g1:(l.map E2)[i]?=some (E2 l[i]):=by simp [fa]
   have g2:(l.map nmC)[i]?=some (nmC l[i]):=by simp [fa]
   have hw:=ZA (i:=i);have ht:l.take (i + 1)=l.take i++[l[i]]:=(yI fa).symm;have hp:CD l (i + 1)=l[i].1:=by simp [CD,fa]
   have hn:=name_ev l[i].2;rw [y9 fa,PC] at hs;generalize hx:l[i]=x at *
   generalize hsn:(l.take i).map (·.2)=seen at *
   have hg:=xY x.2 seen;have fq:=P3 seen;simp only [E2,nmC] at g1 g2;have hprev:(0<(i:Int)->∃ p,(l.map E2)[i - 1]?=some [.int .i64 p]/\CD l i=p):=fun h0=>by
    obtain ⟨j,rfl⟩:∃ j,i=j + 1:=⟨i - 1,by omega⟩;exact ⟨l[j].1,by simp [E2,show j<l.length from by omega],by simp [CD,show j<l.length from by omega]⟩
   have fail:∀ s',(s'.env 4).v=.bool false->(zS (CD l i) x.1&&!dR x.2 seen&&sF x.2)=false->k .ret s'=some (.bool (PC 0 [] l&&decide (l.length<=16)),none):=fun s' h4 hf=>hk _ _ (.inr ⟨rfl,by rw [<- hs,hf]; rfl,h4⟩)
   obtain ⟨z,hz⟩:∃ z:Int,z=i:=⟨_,rfl⟩;have ec:0<=z:=by omega
   have hzt:z.toNat=i:=by omega
   have rj:z<l.length:=by omega
   have xq:IntKind.i64.wrap (z + 1)=((i + 1:Nat):Int):=by rw [hz]; exact hw
   rw [<- hz] at e11;rw [<- hzt] at g1 g2;by_cases c1:x.1<1
   ·simp [EB,-V,-y3,-y0,J,e0,e1,e5,e9,e10,e11,rj,ec,g1,c1];exact fail _ (by simp) (by simp [zS,show ¬ 1<=x.1 from by omega])
   by_cases c2:1000<x.1
   ·simp [EB,-V,-y3,-y0,J,e0,e1,e5,e9,e10,e11,rj,ec,g1,c1,c2];exact fail _ (by simp) (by simp [zS,show ¬ x.1<=1000 from by omega])
   have rest:(¬ 0<z\/∃ y p,0<z/\IntKind.i64.wrap (z - 1)=y/\0<=y/\(l.map E2)[y.toNat]?=some [.int .i64 p]/\¬ x.1<=p)->CD l i<x.1->EB.run (UF gA eA) (KJ gA eA) s (PJ (TH gA eA) EB k)=some (.bool (PC 0 [] l&&decide (l.length<=16)),none):=by
    intro h0 oo;by_cases c5:x.2∈seen
    ·rw [if_pos c5] at hg;rcases h0 with c3 | ⟨y,p,c3,hy,fi,ck,hp3⟩
     ·simp [EB,-V,-y3,-y0,J,e0,e1,e5,e9,e10,e11,rj,ec,g1,g2,c1,c2,c3,o,kG,fq,SG,AV.flat,AV.scal,hg];exact fail _ (by simp) (by simp [kS c5])
     ·simp [EB,-V,-y3,-y0,J,e0,e1,e5,e9,e10,e11,rj,ec,g1,g2,c1,c2,c3,hy,fi,ck,hp3,o,kG,fq,SG,AV.flat,AV.scal,hg];exact fail _ (by simp) (by simp [kS c5])
    ·rw [if_neg c5] at hg;have jb:=cY x.2 seen c5;cases c6:sF x.2 with
     | false =>
      rw [c6] at hn;rcases h0 with c3 | ⟨y,p,c3,hy,fi,ck,hp3⟩
      ·simp [EB,-V,-y3,-y0,J,e0,e1,e5,e9,e10,e11,rj,ec,g1,g2,c1,c2,c3,o,kG,fq,SG,AV.flat,AV.scal,hg,hn];exact fail _ (by simp) (by simp [c6])
      ·simp [EB,-V,-y3,-y0,J,e0,e1,e5,e9,e10,e11,rj,ec,g1,g2,c1,c2,c3,hy,fi,ck,hp3,o,kG,fq,SG,AV.flat,AV.scal,hg,hn];exact fail _ (by simp) (by simp [c6])
     | true =>
      rw [c6] at hn;have ei:PC x.1 (seen++[x.2]) (l.drop (i + 1))=PC 0 [] l:=by rw [<- hs]; simp [zS,jS c5,c6,oo,show 1<=x.1 from by omega,show x.1<=1000 from by omega]
      rcases h0 with c3 | ⟨y,p,c3,hy,fi,ck,hp3⟩
      ·simp [EB,-V,-y3,-y0,J,e0,e1,e5,e9,e10,e11,rj,ec,g1,g2,c1,c2,c3,o,kG,fq,SG,AV.flat,AV.scal,hg,hn,jb,xq];refine ih fa _ ⟨?_,?_,?_,?_,?_,?_,?_,?_⟩ <;> simp [ht,hsn,hp,ei,e0,e1,e5,e9,e10]
      ·simp [EB,-V,-y3,-y0,J,e0,e1,e5,e9,e10,e11,rj,ec,g1,g2,c1,c2,c3,hy,fi,ck,hp3,o,kG,fq,SG,AV.flat,AV.scal,hg,hn,jb,xq];refine ih fa _ ⟨?_,?_,?_,?_,?_,?_,?_,?_⟩ <;> simp [ht,hsn,hp,ei,e0,e1,e5,e9,e10]
   by_cases c3:0<(i:Int)
   ·obtain ⟨p,hp1,ck⟩:=hprev c3;have c3z:0<z:=by omega
    have pw:IntKind.i64.wrap (z - 1)=((i - 1:Nat):Int):=by rw [IntWalk.i64_in _ (by omega)]; omega
    obtain ⟨y,hy⟩:∃ y:Int,y=((i - 1:Nat):Int):=⟨_,rfl⟩;have fi:0<=y:=by omega
    rw [<- hy] at pw;rw [show i - 1=y.toNat from by omega] at hp1;by_cases c4:x.1<=p
    ·simp [EB,-V,-y3,-y0,J,e0,e1,e5,e9,e10,e11,rj,ec,g1,c1,c2,c3z,pw,fi,hp1,c4];exact fail _ (by simp) (by simp [zS,ck,show ¬ p<x.1 from by omega])
    ·exact rest (.inr ⟨y,p,c3z,pw,fi,hp1,c4⟩) (by rw [ck]; omega)
   ·have h0:i=0:=by omega
    subst h0;exact rest (.inl (by omega)) (by simp only [CD]; omega)
  ·have ga:¬ (i:Int)<l.length:=by omega
   simp [EB,-V,-y3,-y0,J,e10,e11,ga];refine hk _ _ (.inl ⟨rfl,?_,by simp [e0]⟩);rw [<- hs,ye (by omega),PC]
 ·simp [FG,CD]
 ·rcases h with ⟨rfl,h1,h2⟩ | ⟨rfl,h1,h2⟩ <;> simp [-V,-y3,-y0,J,h1,h2]
  omega
def MH (x:NV):Int × ByteArray:=(x.id,x.name)
def eF (x:uC):Int × ByteArray:=(x.id,x.name)
def tN (l:List NV):Bool:=decide (0<l.length)&&(PC 0 [] (l.map MH)&&decide (l.length<=16))
theorem symbols_ev (l:List NV) (hl:l.length<=8796093022206) (b:Bool):fA 235 [.sl b (l.map lD)] (.bool (tN l)):=by
 refine wA (c:=lH) rfl rfl ?_;have zg:=fun b1 b2=>ids_ev (l.map MH) (by simp; omega) b1 b2
 simp only [fA] at zg;simp [lH,-V,-y3,-y0,J];refine lA l.length (fun i s=>(s.env 0).v=.sl b (l.map lD)/\(s.env 7).v=.sl b (l.map lD)/\(s.env 8).v=.int .i64 l.length/\(s.env 9).v=.int .i64 i/\(s.env 3).v=.sl (l.take i).isEmpty (((l.take i).map MH).map E2)/\(s.env 4).v=.sl (l.take i).isEmpty (((l.take i).map MH).map nmC)/\((s.env 3).a=.ex/\(s.env 4).a=.ex\/(l.take i).isEmpty=false/\(s.env 3).a=.own 17 3/\(s.env 4).a=.own 22 9))
  (fun e s=>e=.exit 0/\(s.env 0).v=.sl b (l.map lD)/\(s.env 3).v=.sl l.isEmpty ((l.map MH).map E2)/\(s.env 4).v=.sl l.isEmpty ((l.map MH).map nmC)) (fun i hi s k h ih hk=>?_) _ _ ?_ (fun e s h=>?_)
 ·obtain ⟨e0,e7,e8,e9,e3,e4,an⟩:=h;refine tA ?_;by_cases fa:i<l.length
  ·have ga:(i:Int)<l.length:=by omega
   have g1:(l.map lD)[i]?=some (lD l[i]):=by simp [fa]
   have hw:=ZA (i:=i);have ht:l.take (i + 1)=l.take i++[l[i]]:=(yI fa).symm;generalize l[i]=x at *
   simp only [lD] at g1;have ia:(l.take i).length=i:=by simp; omega
   generalize l.take i=t at *
   have ff:uB 8 (t.length + 1)=true:=by rw [TA]; omega
   have ph:uB 16 (t.length + 1)=true:=by rw [TA]; omega
   have q1:gB 1 ((t.map MH).map E2)=true:=tC _ _ _ fun _=>rfl
   have q2:gB 1 ((t.map MH).map nmC)=true:=tC _ _ _ fun _=>rfl
   rcases an with ⟨a3,a4⟩ | ⟨a0,a3,a4⟩
   ·simp [lF,-V,-y3,-y0,J,e0,e7,e8,e9,e3,e4,a3,a4,ga,g1,hw,ff,ph,q1,q2];refine ih fa _ ⟨?_,?_,?_,?_,?_,?_,?_⟩ <;> simp [ht,e0,e7,e8,E2,nmC,MH]
   ·simp [lF,-V,-y3,-y0,J,e0,e7,e8,e9,e3,e4,a0,a3,a4,ga,g1,hw,ff,ph,q1,q2];refine ih fa _ ⟨?_,?_,?_,?_,?_,?_,?_⟩ <;> simp [ht,e0,e7,e8,E2,nmC,MH]
  ·have ga:¬ (i:Int)<l.length:=by omega
   simp [lF,-V,-y3,-y0,J,e8,e9,ga];rw [yD (by omega)] at e3 e4;exact hk _ _ ⟨rfl,by simp [e0],by simp [e3],by simp [e4]⟩
 ·simp
 ·obtain ⟨rfl,e0,e3,e4⟩:=h;unfold tN;by_cases h0:0<l.length
  ·have nf:(0:Int)<l.length:=by omega
   simp [-V,-y3,-y0,J,e0,e3,e4,h0,nf,zg]
  ·have nf:¬ (0:Int)<l.length:=by omega
   simp [-V,-y3,-y0,J,e0,e3,e4,h0,nf]
theorem rid_ev (b n:Int):fA 226 [.int .i64 b,.int .i64 n] (.bool (zS b n)):=by
 refine wA (c:=GN) rfl rfl ?_;unfold zS;by_cases h1:b<n <;> by_cases h2:1<=n <;> simp [GN,-V,-y3,-y0,J,h1,h2]
theorem S8 (l:List NV) (hl:l.length<=8796093022206) (b:Bool):fA 211 [.sl b (l.map lD)] (.bool (tN l)):=by
 refine wA (c:=aI) rfl rfl ?_;simp [aI,-V,-y3,-y0,J];have g0:∀ j,j<l.length->∃ x,l[j]?=some x:=fun j hj=>⟨l[j],by simp [hj]⟩
 refine lA l.length (fun i s=>(s.env 0).v=.sl b (l.map lD)/\(s.env 3).v=.int .i64 (CD (l.map MH) i)/\(s.env 4).v=.int .i64 i/\PC (CD (l.map MH) i) ((l.map MH).take i |>.map (·.2)) ((l.map MH).drop i)=PC 0 [] (l.map MH))
  (fun e s=>(e=.exit 0/\PC 0 [] (l.map MH)=true/\(s.env 0).v=.sl b (l.map lD))\/(e=.ret/\PC 0 [] (l.map MH)=false/\(s.env 2).v=.bool false)) (fun i hi s k h ih hk=>?_) _ _ ?_ (fun e s h=>?_)
 ·obtain ⟨e0,e3,e4,hs⟩:=h;refine tA ?_;by_cases fa:i<l.length
  ·have ga:(i:Int)<l.length:=by omega
   have g1:(l.map lD)[i]?=some (lD l[i]):=by simp [fa]
   have hw:=ZA (i:=i);have fh:i<(l.map MH).length:=by simpa using fa
   have hp:CD (l.map MH) (i + 1)=l[i].id:=by simp [CD,fa,MH]
   have hn:=pY l[i].name;have HZ:=rid_ev (CD (l.map MH) i) l[i].id;have se:(l.map MH)[i]=MH l[i]:=by simp
   have ht:((l.map MH).take (i + 1)).map (·.2)=((l.map MH).take i).map (·.2)++[l[i].name]:=by rw [<- yI fh,se]; simp [MH]
   rw [y9 fh,se] at hs;obtain ⟨x,hx⟩:∃ x,x=l[i]:=⟨_,rfl⟩;rw [<- hx] at g1 hp hn HZ ht hs;simp only [MH,PC] at hs;have fail:∀ s',(s'.env 2).v=.bool false->(zS (CD (l.map MH) i) x.id&&!dR x.name (((l.map MH).take i).map (·.2))&&sF x.name)=false->k .ret s'=some (.bool (tN l),none):=fun s' h4 hf=>hk _ _ (.inr ⟨rfl,by rw [<- hs,hf]; rfl,h4⟩)
   simp only [fA] at hn HZ;simp only [lD] at g1;cases c1:zS (CD (l.map MH) i) x.id with
   | false =>
    rw [c1] at HZ;simp [WE,-V,-y3,-y0,J,e0,e3,e4,ga,g1,HZ];exact fail _ (by simp) (by simp [c1])
   | true =>
    rw [c1] at HZ;cases c2:sF x.name with
    | false =>
     rw [c2] at hn;simp [WE,-V,-y3,-y0,J,e0,e3,e4,ga,g1,HZ,hn];exact fail _ (by simp) (by simp [c2])
    | true =>
     rw [c2] at hn;simp [WE,-V,-y3,-y0,J,e0,e3,e4,ga,g1,HZ,hn];have al:((l.map MH).take i).map (·.2)=(l.take i).map NV.name:=by simp [<- yM,MH,Function.comp_def]
     refine lA i (fun j s=>(s.env 0).v=.sl b (l.map lD)/\(s.env 4).v=.int .i64 i/\(s.env 5).v=.int .i64 j/\¬ x.name∈(l.take j).map NV.name)
      (fun e s=>(e=.exit 2/\¬ x.name∈(l.take i).map NV.name/\(s.env 0).v=.sl b (l.map lD)/\(s.env 4).v=.int .i64 i)\/(e=.ret/\x.name∈(l.take i).map NV.name/\(s.env 2).v=.bool false)) (fun j hj s k' h sw zc=>?_) _ _ ?_ (fun e s h=>?_)
     ·obtain ⟨e0,e4,e5,hm⟩:=h;refine tA ?_;by_cases hji:j<i
      ·have mj:(j:Int)<i:=by omega
       have g2:(l.map lD)[j]?=some (lD l[j]):=by simp [show j<l.length from by omega]
       have rx:=ZA (i:=j);have htj:l.take (j + 1)=l.take j++[l[j]]:=(yI (by omega)).symm;simp only [lD] at g2;by_cases mf:l[j].name=x.name
       ·simp [JF,-V,-y3,-y0,J,e0,e4,e5,mj,g1,g2,mf];refine zc _ _ (.inr ⟨rfl,?_,by simp⟩);rw [<- mf];exact Y01 (List.mem_take_iff_getElem.2 ⟨j,by omega,rfl⟩)
       ·simp [JF,-V,-y3,-y0,J,e0,e4,e5,mj,g1,g2,mf,rx];refine sw hji _ ⟨?_,?_,?_,?_⟩
        ·simp [e0]
        ·simp [e4]
        ·simp
        ·rw [htj,yU,yw];rintro (h | h)
         ·exact hm h
         ·simp at h; exact mf h.symm
      ·have mj:¬ (j:Int)<i:=by omega
       have oz:j=i:=by omega
       simp [JF,-V,-y3,-y0,J,e4,e5,mj];exact zc _ _ (.inl ⟨rfl,oz ▸ hm,by simp [e0],by simp [e4]⟩)
     ·simp [e0,e4]
     ·rcases h with ⟨rfl,h1,e0,e4⟩ | ⟨rfl,h1,e2⟩
      ·simp [-V,-y3,-y0,J,e0,e4,g1,hw];refine ih fa _ ⟨?_,?_,?_,?_⟩
       ·simp [e0]
       ·simp [hp]
       ·simp
       ·rw [hp,ht,<- hs,c1,c2,al,jS h1];rfl
      ·simp [-V,-y3,-y0,J];exact fail _ e2 (by rw [al,kS h1]; simp)
  ·have ga:¬ (i:Int)<l.length:=by omega
   simp [WE,-V,-y3,-y0,J,e0,e4,ga];refine hk _ _ (.inl ⟨rfl,?_,by simp [e0]⟩);rw [<- hs,ye (by simp; omega),PC]
 ·simp [CD]
 ·unfold tN;rcases h with ⟨rfl,h1,e0⟩ | ⟨rfl,h1,e2⟩
  ·by_cases h0:0<l.length
   ·have nf:(1:Int)<=l.length:=by omega
    simp [-V,-y3,-y0,J,e0,h0,nf,h1];omega
   ·have nf:¬ (1:Int)<=l.length:=by omega
    simp [-V,-y3,-y0,J,e0,h0,nf,h1]
  ·simp [-V,-y3,-y0,J,h1,e2]
theorem blank_ev (v:Vl) (hv:v.ok):fA 251 [.agg (zA v)] (.bool (v.same Vl.zero)):=by
 have h:=same_ev _ v Vl.zero (Nat.lt_succ_self _) hv;refine wA (c:=jJ) rfl rfl ?_;simp only [fA,uA,Vl.zero,Vl.kind,Vl.b,Vl.i,Vl.s,Vl.id,Vl.kn,Vl.keys,Vl.xn,Vl.items,Vl.rn,Vl.rest,yt] at h ⊢;simp [jJ,-V,-y3,-y0,J,h]
theorem rblank_ev (v:Vl) (hv:v.ok):fA 189 [.agg (zA v),.agg [.int .i64 0,.bool false,.int .i64 0,.str ⟨#[]⟩,.int .i64 0,.sl true [],.sl true [],.sl true []]] (.bool (v.same Vl.zero)):=by
 have h:=kY _ v Vl.zero (Nat.lt_succ_self _) hv;simp only [fA,uA,Vl.zero,Vl.kind,Vl.b,Vl.i,Vl.s,Vl.id,Vl.kn,Vl.keys,Vl.xn,Vl.items,Vl.rn,Vl.rest,yt] at h ⊢;exact h
def nB (rec:Bool) (m:uC):Bool:=!(!rec&&(m.crit||m.has))&&!(m.crit&&m.has)&&(m.has||m.dflt.same Vl.zero)
def II (rec:Bool) (l:List uC):Bool:=l.all (nB rec)&&((rec||decide (0<l.length))&&(PC 0 [] (l.map eF)&&decide (l.length<=16)))
theorem members_ev (t:dA) (ht:t.ok) (hl:t.mems.length<=8796093022206) (hk:t.kind=5\/t.kind=6):fA 236 [.agg (rA t)] (.bool (II (decide (t.kind=5)) t.mems)):=by
 obtain ⟨rc,hrc⟩:∃ rc,rc=decide (t.kind=5):=⟨_,rfl⟩;have hk:t.kind=5/\rc=true\/t.kind=6/\rc=false:=by
  rcases hk with h | h
  ·exact .inl ⟨h,by rw [hrc,h]; rfl⟩
  ·exact .inr ⟨h,by rw [hrc,h]; rfl⟩
 rw [<- hrc];clear hrc;refine wA (c:=kH) rfl rfl ?_;have zg:=fun b1 b2=>ids_ev (t.mems.map eF) (by simp; omega) b1 b2
 simp only [fA] at zg;simp [kH,-V,-y3,-y0,J,rA];refine lA t.mems.length (fun i s=>(s.env 1).v=.ptr 1 1 0/\s.mem 1 1=some (jA t)/\(s.env 8).v=.sl t.mn (t.mems.map bA)/\(s.env 9).v=.int .i64 t.mems.length/\(s.env 10).v=.int .i64 i/\(s.env 3).v=.sl (t.mems.take i).isEmpty (((t.mems.take i).map eF).map E2)/\(s.env 4).v=.sl (t.mems.take i).isEmpty (((t.mems.take i).map eF).map nmC)/\((t.mems.take i).isEmpty=(t.mems.take i).isEmpty/\(s.env 3).a=.ex/\(s.env 4).a=.ex\/(t.mems.take i).isEmpty=false/\(s.env 3).a=.own 18 3/\(s.env 4).a=.own 23 9)/\(t.mems.drop i).all (nB rc)=t.mems.all (nB rc))
  (fun e s=>(e=.exit 0/\t.mems.all (nB rc)=true/\(s.env 1).v=.ptr 1 1 0/\s.mem 1 1=some (jA t)/\(s.env 3).v=.sl t.mems.isEmpty ((t.mems.map eF).map E2)/\(s.env 4).v=.sl t.mems.isEmpty ((t.mems.map eF).map nmC))\/(e=.ret/\t.mems.all (nB rc)=false/\(s.env 2).v=.bool false)) (fun i hi s k h ih zc=>?_) _ _ ?_ (fun e s h=>?_)
 ·obtain ⟨e1,m1,e8,e9,e10,e3,e4,an,hs⟩:=h;refine tA ?_;by_cases fa:i<t.mems.length
  ·have ga:(i:Int)<t.mems.length:=by omega
   have g1:(t.mems.map bA)[i]?=some (bA t.mems[i]):=by simp [fa]
   have hw:=ZA (i:=i);have ik:t.mems.take (i + 1)=t.mems.take i++[t.mems[i]]:=(yI fa).symm;have fk:=blank_ev t.mems[i].dflt (ht.2.2 _ (y6 _)).1;rw [y9 fa,List.all_cons] at hs;generalize t.mems[i]=x at *
   simp only [bA] at g1;simp only [fA,uA] at fk;have ia:(t.mems.take i).length=i:=by simp; omega
   generalize hq:t.mems.take i=q at *
   have ff:uB 8 (q.length + 1)=true:=by rw [TA]; omega
   have ph:uB 16 (q.length + 1)=true:=by rw [TA]; omega
   have q1:gB 1 ((q.map eF).map E2)=true:=tC _ _ _ fun _=>rfl
   have q2:gB 1 ((q.map eF).map nmC)=true:=tC _ _ _ fun _=>rfl
   have fail:∀ s',(s'.env 2).v=.bool false->nB rc x=false->k .ret s'=some (.bool (II rc t.mems),none):=fun s' h4 hf=>zc _ _ (.inr ⟨rfl,by rw [<- hs,hf]; rfl,h4⟩)
   have good:nB rc x=true->(t.mems.drop (i + 1)).all (nB rc)=t.mems.all (nB rc):=fun h=>by rw [<- hs,h]; rfl
   generalize hB:t.mems.all (nB rc)=B at *
   cases hg:nB rc x with
   | false =>
    cases hz:x.dflt.same Vl.zero <;> rw [hz] at fk <;> rcases hk with ⟨h5,rfl⟩ | ⟨h5,rfl⟩ <;> cases hc:x.crit <;> cases hh:x.has <;> first | (simp [nB,hc,hh,hz] at hg; done) | skip
    all_goals rcases an with ⟨a0,a3,a4⟩ | ⟨a0,a3,a4⟩ <;>
     simp [kF,-V,-y3,-y0,J,e1,m1,e8,e9,e10,e3,e4,a0,a3,a4,ga,g1,hw,ff,ph,q1,q2,hc,hh,h5,fk]
    all_goals exact fail _ (by simp) hg
   | true =>
    have good:=good hg;cases hz:x.dflt.same Vl.zero <;> rw [hz] at fk <;> rcases hk with ⟨h5,rfl⟩ | ⟨h5,rfl⟩ <;> cases hc:x.crit <;> cases hh:x.has <;> first | (simp [nB,hc,hh,hz] at hg; done) | skip
    all_goals rcases an with ⟨a0,a3,a4⟩ | ⟨a0,a3,a4⟩ <;>
     simp [kF,-V,-y3,-y0,J,e1,m1,e8,e9,e10,e3,e4,a0,a3,a4,ga,g1,hw,ff,ph,q1,q2,hc,hh,h5,fk]
    all_goals refine ih fa _ ⟨?_,?_,?_,?_,?_,?_,?_,?_,good⟩
    all_goals simp [ik,e1,m1,e8,e9,E2,nmC,eF,An.strip]
  ·have ga:¬ (i:Int)<t.mems.length:=by omega
   simp [kF,-V,-y3,-y0,J,e9,e10,ga];rw [yD (by omega)] at e3 e4;rw [ye (by omega)] at hs;exact zc _ _ (.inl ⟨rfl,hs.symm,by simp [e1],by simp [m1],by simp [e3],by simp [e4]⟩)
 ·simp
 ·unfold II;rcases h with ⟨rfl,h1,e1,m1,e3,e4⟩ | ⟨rfl,h1,e2⟩
  ·rw [h1];rcases hk with ⟨h5,rfl⟩ | ⟨h5,rfl⟩
   ·simp [-V,-y3,-y0,J,e1,m1,e3,e4,h5,zg]
   ·by_cases h0:0<t.mems.length
    ·have nf:(0:Int)<t.mems.length:=by omega
     simp [-V,-y3,-y0,J,e1,m1,e3,e4,h5,h0,nf,zg]
    ·have nf:¬ (0:Int)<t.mems.length:=by omega
     simp [-V,-y3,-y0,J,e1,m1,e3,e4,h5,h0,nf]
  ·simp [-V,-y3,-y0,J,h1,e2]
theorem Q8 (l:List uC) (hl:l.length<=8796093022206) (la:∀ m∈l,m.ok) (b rec:Bool):fA 212 [.sl b (l.map bA),.bool rec] (.bool (II rec l)):=by
  refine wA (c:=pI) rfl rfl ?_;simp [pI,-V,-y3,-y0,J];refine lA l.length (fun i s=>(s.env 0).v=.sl b (l.map bA)/\(s.env 1).v=.bool rec/\(s.env 5).v=.int .i64 (CD (l.map eF) i)/\(s.env 6).v=.int .i64 i/\(PC (CD (l.map eF) i) ((l.map eF).take i |>.map (·.2)) ((l.map eF).drop i)&&(l.drop i).all (nB rec))=(PC 0 [] (l.map eF)&&l.all (nB rec)))
    (fun e s=>(e=.exit 0/\(PC 0 [] (l.map eF)&&l.all (nB rec))=true/\(s.env 0).v=.sl b (l.map bA)/\(s.env 1).v=.bool rec)\/(e=.ret/\(PC 0 [] (l.map eF)&&l.all (nB rec))=false/\(s.env 4).v=.bool false)) (fun i hi s k h ih hk=>?_) _ _ ?_ (fun e s h=>?_)
  · obtain ⟨e0,e1,e5,e6,hs⟩:=h
    refine tA ?_;by_cases fa:i<l.length
    · have ga:(i:Int)<l.length:=by omega
      have g1:(l.map bA)[i]?=some (bA l[i]):=by simp [fa]
      have hw:=ZA (i:=i);have fh:i<(l.map eF).length:=by simpa using fa
      have hp:CD (l.map eF) (i + 1)=l[i].id:=by simp [CD,fa,eF]
      have hn:=pY l[i].name;have HZ:=rid_ev (CD (l.map eF) i) l[i].id;have fk:=rblank_ev l[i].dflt (la _ (y6 _)).1;have se:(l.map eF)[i]=eF l[i]:=by simp
      have ht:((l.map eF).take (i + 1)).map (·.2)=((l.map eF).take i).map (·.2)++[l[i].name]:=by rw [<- yI fh,se]; simp [eF]
      rw [y9 fh,se,y9 fa,List.all_cons] at hs;obtain ⟨x,hx⟩:∃ x,x=l[i]:=⟨_,rfl⟩;rw [<- hx] at g1 hp hn HZ ht hs fk;simp only [PC] at hs;have hs2:((zS (CD (l.map eF) i) x.id&&!dR x.name (((l.map eF).take i).map (·.2))&&sF x.name&&nB rec x)&&(PC x.id (((l.map eF).take i).map (·.2)++[x.name]) ((l.map eF).drop (i + 1))&&(l.drop (i + 1)).all (nB rec)))=(PC 0 [] (l.map eF)&&l.all (nB rec)):=by
        rw [<- hs];simp only [eF,Bool.and_assoc];congr 1;congr 1;congr 1;rw [<- Bool.and_assoc,<- Bool.and_assoc,Bool.and_comm (nB rec x)]
      clear hs;have fail:∀ s',(s'.env 4).v=.bool false->(zS (CD (l.map eF) i) x.id&&!dR x.name (((l.map eF).take i).map (·.2))&&sF x.name&&nB rec x)=false->k .ret s'=some (.bool (II rec l),none):=fun s' h4 hf=>hk _ _ (.inr ⟨rfl,by rw [<- hs2,hf]; rfl,h4⟩)
      simp only [fA,uA] at hn HZ fk;simp only [bA] at g1;cases c1:zS (CD (l.map eF) i) x.id with
      | false =>
        rw [c1] at HZ;simp [SD,-V,-y3,-y0,J,e0,e1,e5,e6,ga,g1,HZ];exact fail _ (by simp) (by simp [c1])
      | true =>
        rw [c1] at HZ;cases c2:sF x.name with
        | false =>
          rw [c2] at hn;simp [SD,-V,-y3,-y0,J,e0,e1,e5,e6,ga,g1,HZ,hn];exact fail _ (by simp) (by simp [c2])
        | true =>
          rw [c2] at hn;have al:((l.map eF).take i).map (·.2)=(l.take i).map uC.name:=by simp [<- yM,eF,Function.comp_def]
          have inner:∀ s:pA,nB rec x=true->(s.env 0).v=.sl b (l.map bA)->(s.env 1).v=.bool rec->(s.env 6).v=.int .i64 i->(s.env 8).v=.int .i64 0->∀ p,(s.env 7).v=.ptr 7 p 0->s.mem 7 p=some ((bA x).map (⟨·,.no⟩)) →
              ∀ k2:Ex->pA->Option RV,(∀ s',(s'.env 4).v=.bool false->k2 .ret s'=k .ret s')->(∀ s',(s'.env 0).v=.sl b (l.map bA)->(s'.env 1).v=.bool rec->(s'.env 6).v=.int .i64 i->(s'.env 7).v=.ptr 7 p 0->s'.mem 7 p=some ((bA x).map (⟨·,.no⟩))->¬ x.name∈(l.take i).map uC.name->k2 (.exit 2) s'=some (.bool (II rec l),none)) →
              TH gA eA QE s k2=some (.bool (II rec l),none):=by
            intro s hgood e0 e1 e6 e8 p e7 m7 k2 sf hk3;refine lA i (fun j s=>(s.env 0).v=.sl b (l.map bA)/\(s.env 1).v=.bool rec/\(s.env 6).v=.int .i64 i/\(s.env 7).v=.ptr 7 p 0/\s.mem 7 p=some ((bA x).map (⟨·,.no⟩))/\(s.env 8).v=.int .i64 j/\¬ x.name∈(l.take j).map uC.name)
              (fun e s=>(e=.exit 2/\¬ x.name∈(l.take i).map uC.name/\(s.env 0).v=.sl b (l.map bA)/\(s.env 1).v=.bool rec/\(s.env 6).v=.int .i64 i/\(s.env 7).v=.ptr 7 p 0/\s.mem 7 p=some ((bA x).map (⟨·,.no⟩)))\/(e=.ret/\x.name∈(l.take i).map uC.name/\(s.env 4).v=.bool false)) (fun j hj s k' h sw zc=>?_) _ _ ?_ (fun e s h=>?_)
            · obtain ⟨e0,e1,e6,e7,m7,e8,hm⟩:=h
              refine tA ?_;by_cases hji:j<i
              · have mj:(j:Int)<i:=by omega
                have g2:(l.map bA)[j]?=some (bA l[j]):=by simp [show j<l.length from by omega]
                have rx:=ZA (i:=j);have htj:l.take (j + 1)=l.take j++[l[j]]:=(yI (by omega)).symm;simp only [bA,yj,yt] at g2 m7;by_cases mf:l[j].name=x.name
                · simp [QE,-V,-y3,-y0,J,e0,e1,e6,e7,m7,e8,mj,g1,g2,mf]
                  refine zc _ _ (.inr ⟨rfl,?_,by simp⟩);rw [<- mf];exact Y01 (List.mem_take_iff_getElem.2 ⟨j,by omega,rfl⟩)
                · simp [QE,-V,-y3,-y0,J,e0,e1,e6,e7,m7,e8,mj,g1,g2,mf,rx]
                  refine sw hji _ ⟨?_,?_,?_,?_,?_,?_,?_⟩
                  · simp [e0]
                  · simp [e1]
                  · simp [e6]
                  · simp [e7]
                  · simp [m7,bA]
                  · simp
                  · rw [htj,yU,yw]
                    rintro (h | h)
                    · exact hm h
                    · simp at h; exact mf h.symm
              · have mj:¬ (j:Int)<i:=by omega
                have oz:j=i:=by omega
                simp [QE,-V,-y3,-y0,J,e6,e8,mj];exact zc _ _ (.inl ⟨rfl,oz ▸ hm,by simp [e0],by simp [e1],by simp [e6],by simp [e7],by simp [m7]⟩)
            · simp [e0,e1,e6,e7,e8,m7]
            · rcases h with ⟨rfl,h1,e0,e1,e6,e7,m7⟩ | ⟨rfl,h1,e4⟩
              · exact hk3 s e0 e1 e6 e7 m7 h1
              · rw [sf _ e4]
                exact fail _ e4 (by rw [al,kS h1]; simp)
          have next:∀ s',(s'.env 0).v=.sl b (l.map bA)->(s'.env 1).v=.bool rec->(s'.env 5).v=.int .i64 x.id->(s'.env 6).v=.int .i64 ((i + 1:Nat):Int)->nB rec x=true->¬ x.name∈(l.take i).map uC.name->TH gA eA SD s' k=some (.bool (II rec l),none):=fun s' f0 f1 f5 f6 hg ab=>ih fa _ ⟨f0,f1,by rw [hp]; exact f5,f6,by rw [hp,ht,<- hs2,c1,c2,hg,al,jS ab]; rfl⟩
          cases hz:x.dflt.same Vl.zero <;> rw [hz] at fk <;> cases rec <;> cases hc:x.crit <;> cases hh:x.has <;>
            simp [SD,-V,-y3,-y0,J,e0,e1,e5,e6,ga,g1,HZ,hn,hc,hh,fk] <;>
            first
            | exact fail _ (by simp) (by simp [nB,hc,hh,hz])
            | (refine inner _ (by simp [nB,hc,hh,hz]) ?_ ?_ ?_ ?_ (s.next + 1) ?_ ?_ _ ?_ ?_
               · simp [e0]
               · simp [e1]
               · simp [e6]
               · simp
               · simp
               · simp [bA,hc,hh]
               · intro s' _; rfl
               · intro s' f0 f1 f6 f7 fm ab
                 simp only [bA,yj,yt] at fm;simp [-V,-y3,-y0,J,f0,f1,f6,f7,fm,hw];refine next _ ?_ ?_ ?_ ?_ (by simp [nB,hc,hh,hz]) ab <;> simp [f0,f1])
    · have ga:¬ (i:Int)<l.length:=by omega
      simp [SD,-V,-y3,-y0,J,e0,e6,ga];refine hk _ _ (.inl ⟨rfl,?_,by simp [e0],by simp [e1]⟩);rw [<- hs,ye (by simp; omega),ye (by omega),PC];rfl
  · simp [CD]
  · unfold II
    rcases h with ⟨rfl,h1,e0,e1⟩ | ⟨rfl,h1,e2⟩
    · rw [y8] at h1
      rw [h1.1,h1.2];by_cases fx:l.length<=16
      · have ir:(l.length:Int)<=16:=by omega
        cases rec
        · by_cases h0:0<l.length
          · have nf:(1:Int)<=l.length:=by omega
            simp [-V,-y3,-y0,J,e0,e1,h0,nf,fx,ir]
          · have nf:¬ (1:Int)<=l.length:=by omega
            simp [-V,-y3,-y0,J,e0,e1,h0,nf,fx,ir]
        · simp [-V,-y3,-y0,J,e0,e1,fx,ir]
      · have ir:¬ (l.length:Int)<=16:=by omega
        simp [-V,-y3,-y0,J,e0,e1,fx,ir]
    · have:(l.all (nB rec)&&((rec||decide (0<l.length))&&(PC 0 [] (l.map eF)&&decide (l.length<=16))))=false:=by
        rw [Bool.and_eq_false_iff] at h1;rcases h1 with h1 | h1 <;> simp [h1]
      rw [this];simp [-V,-y3,-y0,J,e2]
mutual
theorem Vl.same_refl:∀ v:Vl,v.same v=true
 | .mk k b i s d kn ks xn xs rn rs=>by rw [Vl.same]; simp [Vl.sames_refl ks,Vl.sames_refl xs]
theorem Vl.sames_refl:∀ l:List Vl,Vl.sames l l=true
 | []=>by rw [Vl.sames]
 | v :: r=>by rw [Vl.sames]; simp [Vl.same_refl v,Vl.sames_refl r]
end
theorem uC.same_refl (m:uC):m.same m=true:=by simp [uC.same,Vl.same_refl]
theorem wR:∀ l:List uC,lB l l=true
 | []=>rfl
 | m :: r=>by simp [lB,uC.same_refl,wR r]
def LB:dA:=⟨0,⟨#[]⟩,0,0,0,true,[],true,[],0,0,false⟩
def dA.left (t:dA):dA :=
 if t.kind=1 then { t with kind:=0 }
 else if t.kind=2 then { t with kind:=0,low:=0,high:=0 }
 else if t.kind=3 then { t with kind:=0,max:=0 }
 else if t.kind=4 then { t with kind:=0,name:=⟨#[]⟩,sn:=true,syms:=[],opn:=false }
 else if t.kind=5 then { t with kind:=0,name:=⟨#[]⟩,mn:=true,mems:=[] }
 else if t.kind=6 then { t with kind:=0,name:=⟨#[]⟩,mn:=true,mems:=[],opn:=false }
 else if t.kind=7 then { t with kind:=0,max:=0,elem:=0 }
 else if t.kind=8 then { t with kind:=0,max:=0,elem:=0,key:=0 }
 else { t with kind:=0,elem:=0 }
def JI (t:dA):Bool :=
 if t.kind=2 then decide (t.low<=t.high)
 else if t.kind=3 then decide (0<=t.max)&&decide (t.max<=200)
 else if t.kind=4 then sF t.name&&tN t.syms
 else if t.kind=5 then sF t.name&&II true t.mems
 else if t.kind=6 then sF t.name&&II false t.mems
 else if t.kind=7\/t.kind=8 then decide (0<=t.max)&&decide (t.max<=50)
 else true
def mB (t:dA):Bool:=decide (1<=t.kind/\t.kind<=9)&&(JI t&&t.left.same LB)
def dA.fine (t:dA):Prop:=t.ok/\t.syms.length<=8796093022206/\t.mems.length<=8796093022206
theorem GS {t u:dA} (h:t.ok) (h1:u.syms=t.syms\/u.syms=[]) (h2:u.mems=t.mems\/u.mems=[]):u.ok:=by
 refine ⟨?_,?_,?_⟩
 ·rcases h1 with h1 | h1
  ·rw [h1]; exact h.1
  ·rw [h1]; simp
 ·rcases h2 with h2 | h2
  ·rw [h2]; exact h.2.1
  ·rw [h2]; simp
 ·rcases h2 with h2 | h2
  ·rw [h2]; exact h.2.2
  ·rw [h2]; simp
theorem left_ok {t:dA} (h:t.ok):t.left.ok:=by
 unfold dA.left;by_cases h1:t.kind=1
 ·rw [if_pos h1]; exact GS h (.inl rfl) (.inl rfl)
 by_cases h2:t.kind=2
 ·rw [if_neg h1,if_pos h2]; exact GS h (.inl rfl) (.inl rfl)
 by_cases h3:t.kind=3
 ·rw [if_neg h1,if_neg h2,if_pos h3]; exact GS h (.inl rfl) (.inl rfl)
 by_cases h4:t.kind=4
 ·rw [if_neg h1,if_neg h2,if_neg h3,if_pos h4]; exact GS h (.inr rfl) (.inl rfl)
 by_cases h5:t.kind=5
 ·rw [if_neg h1,if_neg h2,if_neg h3,if_neg h4,if_pos h5]; exact GS h (.inl rfl) (.inr rfl)
 by_cases h6:t.kind=6
 ·rw [if_neg h1,if_neg h2,if_neg h3,if_neg h4,if_neg h5,if_pos h6]; exact GS h (.inl rfl) (.inr rfl)
 rw [if_neg h1,if_neg h2,if_neg h3,if_neg h4,if_neg h5,if_neg h6];by_cases h7:t.kind=7
 ·rw [if_pos h7]; exact GS h (.inl rfl) (.inl rfl)
 by_cases h8:t.kind=8
 ·rw [if_neg h7,if_pos h8]; exact GS h (.inl rfl) (.inl rfl)
 rw [if_neg h7,if_neg h8]; exact GS h (.inl rfl) (.inl rfl)
theorem kinds (k:Int):k=1\/k=2\/k=3\/k=4\/k=5\/k=6\/k=7\/k=8\/k=9\/¬ (1<=k/\k<=9):=by omega
def xH (n:Int):List AV:=[.int .i64 n]
def dA.usesL (t:dA):List Int:=(t.mems.map uC.ty++(if t.kind=8 then [t.key] else []))++(if 7<=t.kind then [t.elem] else [])
section
variable (t:dA) (hl:t.mems.length<=8796093022206)
include t hl
theorem uses_lp (r:RV) (k:Ex->pA->Option RV)
  (hk:∀ s':pA,(s'.env 1).v=.ptr 1 1 0->s'.mem 1 1=some (jA t)->(s'.env 3).v=.sl t.mems.isEmpty ((t.mems.map uC.ty).map xH)->(t.mems.isEmpty=t.mems.isEmpty/\(s'.env 3).a=.ex\/t.mems.isEmpty=false/\(s'.env 3).a=.own 17 3)->k (.exit 0) s'=some r)
  (s:pA) (h1:(s.env 1).v=.ptr 1 1 0) (h2:s.mem 1 1=some (jA t)) (h3:(s.env 7).v=.sl t.mn (t.mems.map bA)) (h4:(s.env 8).v=.int .i64 t.mems.length) (h5:(s.env 9).v=.int .i64 0) (h6:(s.env 3).v=.sl true []) (h7:(s.env 3).a=.ex):TH gA eA EF s k=some r:=by
 refine lA t.mems.length (fun i s=>(s.env 1).v=.ptr 1 1 0/\s.mem 1 1=some (jA t)/\(s.env 7).v=.sl t.mn (t.mems.map bA)/\(s.env 8).v=.int .i64 t.mems.length/\(s.env 9).v=.int .i64 i/\(s.env 3).v=.sl (t.mems.take i).isEmpty (((t.mems.take i).map uC.ty).map xH)/\((t.mems.take i).isEmpty=(t.mems.take i).isEmpty/\(s.env 3).a=.ex\/(t.mems.take i).isEmpty=false/\(s.env 3).a=.own 17 3))
  (fun e s=>e=.exit 0/\(s.env 1).v=.ptr 1 1 0/\s.mem 1 1=some (jA t)/\(s.env 3).v=.sl t.mems.isEmpty ((t.mems.map uC.ty).map xH)/\(t.mems.isEmpty=t.mems.isEmpty/\(s.env 3).a=.ex\/t.mems.isEmpty=false/\(s.env 3).a=.own 17 3)) (fun i hi s k h ih hk=>?_) _ _ ?_ (fun e s h=>?_)
 ·obtain ⟨e1,m1,e7,e8,e9,e3,an⟩:=h;refine tA ?_;by_cases fa:i<t.mems.length
  ·have ga:(i:Int)<t.mems.length:=by omega
   have g1:(t.mems.map bA)[i]?=some (bA t.mems[i]):=by simp [fa]
   have hw:=ZA (i:=i);have ht:t.mems.take (i + 1)=t.mems.take i++[t.mems[i]]:=(yI fa).symm;generalize t.mems[i]=x at *
   simp only [bA] at g1;have ia:(t.mems.take i).length=i:=by simp; omega
   generalize t.mems.take i=q at *
   have ff:uB 8 (q.length + 1)=true:=by rw [TA]; omega
   have q1:gB 1 ((q.map uC.ty).map xH)=true:=tC _ _ _ fun _=>rfl
   rcases an with ⟨a0,a3⟩ | ⟨a0,a3⟩
   ·simp [EF,-V,-y3,-y0,J,e1,m1,e7,e8,e9,e3,a0,a3,ga,g1,hw,ff,q1];refine ih fa _ ⟨?_,?_,?_,?_,?_,?_,?_⟩ <;> simp [ht,e1,m1,e7,e8,xH,An.strip]
   ·simp [EF,-V,-y3,-y0,J,e1,m1,e7,e8,e9,e3,a0,a3,ga,g1,hw,ff,q1];refine ih fa _ ⟨?_,?_,?_,?_,?_,?_,?_⟩ <;> simp [ht,e1,m1,e7,e8,xH,An.strip]
  ·have ga:¬ (i:Int)<t.mems.length:=by omega
   simp [EF,-V,-y3,-y0,J,e8,e9,ga];rw [yD (by omega)] at e3 an;exact hk _ _ ⟨rfl,by simp [e1],by simp [m1],by simp [e3],by simpa using an⟩
 ·simp [h1,h2,h3,h4,h5,h6,h7]
 ·obtain ⟨rfl,e1,m1,e3,an⟩:=h;exact hk s e1 m1 e3 an
theorem uses_ev (b:Bool) (hb:b=t.usesL.isEmpty):fA 222 [.agg (rA t)] (.sl b (t.usesL.map xH)):=by
 subst hb;refine wA (c:=RK) rfl rfl ?_;simp [RK,-V,-y3,-y0,J,rA];refine uses_lp t hl _ _ (fun s e1 m1 e3 an=>?_) _ ?_ ?_ ?_ ?_ ?_ ?_ ?_
 ·have q1:gB 1 ((t.mems.map uC.ty).map xH)=true:=tC _ _ _ fun _=>rfl
  have ff:uB 8 (t.mems.length + 1)=true:=by rw [TA]; omega
  have ph:uB 8 (t.mems.length + 1 + 1)=true:=by rw [TA]; omega
  unfold dA.usesL;by_cases h8:t.kind=8
  ·rcases an with ⟨a0,a3⟩ | ⟨a0,a3⟩
   ·simp [-V,-y3,-y0,J,e1,m1,e3,a0,a3,h8,q1,ff,ph,xH]
   ·simp [-V,-y3,-y0,J,e1,m1,e3,a0,a3,h8,q1,ff,ph,xH]
  ·by_cases h7:7<=t.kind
   ·rcases an with ⟨a0,a3⟩ | ⟨a0,a3⟩
    ·simp [-V,-y3,-y0,J,e1,m1,e3,a0,a3,h8,h7,q1,ff,ph,xH]
    ·simp [-V,-y3,-y0,J,e1,m1,e3,a0,a3,h8,h7,q1,ff,ph,xH]
   ·simp [-V,-y3,-y0,J,e1,m1,e3,h8,h7]
 all_goals simp
theorem ruses_lp (r:RV) (k:Ex->pA->Option RV)
  (hk:∀ s':pA,(s'.env 1).v=.ptr 1 1 0->s'.mem 1 1=some (jA t)->(s'.env 3).v=.sl t.mems.isEmpty ((t.mems.map uC.ty).map xH)->(t.mems.isEmpty=t.mems.isEmpty/\(s'.env 3).a=.ex\/t.mems.isEmpty=false/\(s'.env 3).a=.own 20 3)->k (.exit 0) s'=some r)
  (s:pA) (h1:(s.env 1).v=.ptr 1 1 0) (h2:s.mem 1 1=some (jA t)) (h5:(s.env 4).v=.int .i64 0) (h6:(s.env 3).v=.sl true []) (h7:(s.env 3).a=.ex):TH gA eA uG s k=some r:=by
 refine lA t.mems.length (fun i s=>(s.env 1).v=.ptr 1 1 0/\s.mem 1 1=some (jA t)/\(s.env 4).v=.int .i64 i/\(s.env 3).v=.sl (t.mems.take i).isEmpty (((t.mems.take i).map uC.ty).map xH)/\((t.mems.take i).isEmpty=(t.mems.take i).isEmpty/\(s.env 3).a=.ex\/(t.mems.take i).isEmpty=false/\(s.env 3).a=.own 20 3))
  (fun e s=>e=.exit 0/\(s.env 1).v=.ptr 1 1 0/\s.mem 1 1=some (jA t)/\(s.env 3).v=.sl t.mems.isEmpty ((t.mems.map uC.ty).map xH)/\(t.mems.isEmpty=t.mems.isEmpty/\(s.env 3).a=.ex\/t.mems.isEmpty=false/\(s.env 3).a=.own 20 3)) (fun i hi s k h ih hk=>?_) _ _ ?_ (fun e s h=>?_)
 ·obtain ⟨e1,m1,e9,e3,an⟩:=h;refine tA ?_;by_cases fa:i<t.mems.length
  ·have ga:(i:Int)<t.mems.length:=by omega
   have g1:(t.mems.map bA)[i]?=some (bA t.mems[i]):=by simp [fa]
   have hw:=ZA (i:=i);have ht:t.mems.take (i + 1)=t.mems.take i++[t.mems[i]]:=(yI fa).symm;generalize t.mems[i]=x at *
   simp only [bA] at g1;have ia:(t.mems.take i).length=i:=by simp; omega
   generalize t.mems.take i=q at *
   have ff:uB 8 (q.length + 1)=true:=by rw [TA]; omega
   have q1:gB 1 ((q.map uC.ty).map xH)=true:=tC _ _ _ fun _=>rfl
   rcases an with ⟨a0,a3⟩ | ⟨a0,a3⟩
   ·simp [uG,-V,-y3,-y0,J,e1,m1,e9,e3,a0,a3,ga,g1,hw,ff,q1];refine ih fa _ ⟨?_,?_,?_,?_,?_⟩ <;> simp [ht,e1,m1,xH,An.strip]
   ·simp [uG,-V,-y3,-y0,J,e1,m1,e9,e3,a0,a3,ga,g1,hw,ff,q1];refine ih fa _ ⟨?_,?_,?_,?_,?_⟩ <;> simp [ht,e1,m1,xH,An.strip]
  ·have ga:¬ (i:Int)<t.mems.length:=by omega
   simp [uG,-V,-y3,-y0,J,e1,m1,e9,ga];rw [yD (by omega)] at e3 an;exact hk _ _ ⟨rfl,by simp [e1],by simp [m1],by simp [e3],by simpa using an⟩
 ·simp [h1,h2,h5,h6,h7]
 ·obtain ⟨rfl,e1,m1,e3,an⟩:=h;exact hk s e1 m1 e3 an
theorem ruses_ev (h9:t.kind<=9) (b:Bool) (hb:b=t.usesL.isEmpty):fA 181 [.agg (rA t)] (.sl b (t.usesL.map xH)):=by
 subst hb;refine wA (c:=zL) rfl rfl ?_;simp [zL,-V,-y3,-y0,J,rA];refine ruses_lp t hl _ _ (fun s e1 m1 e3 an=>?_) _ ?_ ?_ ?_ ?_ ?_
 ·have q1:gB 1 ((t.mems.map uC.ty).map xH)=true:=tC _ _ _ fun _=>rfl
  have ff:uB 8 (t.mems.length + 1)=true:=by rw [TA]; omega
  have ph:uB 8 (t.mems.length + 1 + 1)=true:=by rw [TA]; omega
  unfold dA.usesL;have hc:t.kind=8\/t.kind=7\/t.kind=9\/(¬ t.kind=8/\¬ t.kind=7/\¬ t.kind=9/\¬ 7<=t.kind):=by omega
  rcases hc with h | h | h | ⟨h8,h7,h9,h⟩
  ·rcases an with ⟨a0,a3⟩ | ⟨a0,a3⟩ <;> simp [-V,-y3,-y0,J,e1,m1,e3,a0,a3,h,q1,ff,ph,xH]
  ·rcases an with ⟨a0,a3⟩ | ⟨a0,a3⟩ <;> simp [-V,-y3,-y0,J,e1,m1,e3,a0,a3,h,q1,ff,ph,xH]
  ·rcases an with ⟨a0,a3⟩ | ⟨a0,a3⟩ <;> simp [-V,-y3,-y0,J,e1,m1,e3,a0,a3,h,q1,ff,ph,xH]
  ·simp [-V,-y3,-y0,J,e1,m1,e3,h8,h7,h9,h]
 all_goals simp
end
def rE (v:Vl):Bool :=
 (decide (v.kind=1)||!v.b)&&((decide (v.kind=2)||decide (v.i=0))&&((decide (v.kind=3)||decide (v.s=⟨#[]⟩))&&((decide (v.kind=4)||decide (v.kind=6)||decide (v.id=0))&&((decide (v.kind=8)||v.keys.isEmpty)&&((decide (5<=v.kind)||v.items.isEmpty)&&(decide (v.kind=5)||decide (v.kind=6)||v.rest.isEmpty))))))
def Vl.bare (v:Vl):Vl:=.mk v.kind (if v.kind=1 then v.b else false) (if v.kind=2 then v.i else 0) (if v.kind=3 then v.s else ⟨#[]⟩) (if v.kind=4\/v.kind=6 then v.id else 0)
 (if v.kind=8 then v.kn else true) (if v.kind=8 then v.keys else []) (if 5<=v.kind then v.xn else true) (if 5<=v.kind then v.items else []) (if v.kind=5\/v.kind=6 then v.rn else true) (if v.kind=5\/v.kind=6 then v.rest else [])
section
variable (v:Vl)
include v
theorem bare_ev1 (h:v.kind=1):fA 256 [.agg (zA v)] (.agg (zA v.bare)):=by
 refine wA (c:=fB) rfl rfl ?_;obtain ⟨k,b,i,s,d,kn,ks,xn,xs,rn,rs⟩:=v;have h:k=1:=h;subst h;rw [uA,uA];simp [fB,-V,-y3,-y0,J,Vl.bare,Vl.kind,Vl.b,Vl.i,Vl.s,Vl.id,Vl.kn,Vl.keys,Vl.xn,Vl.items,Vl.rn,Vl.rest]
theorem bare_ev2 (h:v.kind=2):fA 256 [.agg (zA v)] (.agg (zA v.bare)):=by
 refine wA (c:=fB) rfl rfl ?_;obtain ⟨k,b,i,s,d,kn,ks,xn,xs,rn,rs⟩:=v;have h:k=2:=h;subst h;rw [uA,uA];simp [fB,-V,-y3,-y0,J,Vl.bare,Vl.kind,Vl.b,Vl.i,Vl.s,Vl.id,Vl.kn,Vl.keys,Vl.xn,Vl.items,Vl.rn,Vl.rest]
theorem bare_ev3 (h:v.kind=3):fA 256 [.agg (zA v)] (.agg (zA v.bare)):=by
 refine wA (c:=fB) rfl rfl ?_;obtain ⟨k,b,i,s,d,kn,ks,xn,xs,rn,rs⟩:=v;have h:k=3:=h;subst h;rw [uA,uA];simp [fB,-V,-y3,-y0,J,Vl.bare,Vl.kind,Vl.b,Vl.i,Vl.s,Vl.id,Vl.kn,Vl.keys,Vl.xn,Vl.items,Vl.rn,Vl.rest]
theorem bare_ev4 (h:v.kind=4):fA 256 [.agg (zA v)] (.agg (zA v.bare)):=by
 refine wA (c:=fB) rfl rfl ?_;obtain ⟨k,b,i,s,d,kn,ks,xn,xs,rn,rs⟩:=v;have h:k=4:=h;subst h;rw [uA,uA];simp [fB,-V,-y3,-y0,J,Vl.bare,Vl.kind,Vl.b,Vl.i,Vl.s,Vl.id,Vl.kn,Vl.keys,Vl.xn,Vl.items,Vl.rn,Vl.rest]
theorem bare_ev5 (h:v.kind=5):fA 256 [.agg (zA v)] (.agg (zA v.bare)):=by
 refine wA (c:=fB) rfl rfl ?_;obtain ⟨k,b,i,s,d,kn,ks,xn,xs,rn,rs⟩:=v;have h:k=5:=h;subst h;rw [uA,uA];simp [fB,-V,-y3,-y0,J,Vl.bare,Vl.kind,Vl.b,Vl.i,Vl.s,Vl.id,Vl.kn,Vl.keys,Vl.xn,Vl.items,Vl.rn,Vl.rest]
theorem bare_ev6 (h:v.kind=6):fA 256 [.agg (zA v)] (.agg (zA v.bare)):=by
 refine wA (c:=fB) rfl rfl ?_;obtain ⟨k,b,i,s,d,kn,ks,xn,xs,rn,rs⟩:=v;have h:k=6:=h;subst h;rw [uA,uA];simp [fB,-V,-y3,-y0,J,Vl.bare,Vl.kind,Vl.b,Vl.i,Vl.s,Vl.id,Vl.kn,Vl.keys,Vl.xn,Vl.items,Vl.rn,Vl.rest]
theorem bare_ev7 (h:v.kind=7):fA 256 [.agg (zA v)] (.agg (zA v.bare)):=by
 refine wA (c:=fB) rfl rfl ?_;obtain ⟨k,b,i,s,d,kn,ks,xn,xs,rn,rs⟩:=v;have h:k=7:=h;subst h;rw [uA,uA];simp [fB,-V,-y3,-y0,J,Vl.bare,Vl.kind,Vl.b,Vl.i,Vl.s,Vl.id,Vl.kn,Vl.keys,Vl.xn,Vl.items,Vl.rn,Vl.rest]
theorem bare_ev8 (h:v.kind=8):fA 256 [.agg (zA v)] (.agg (zA v.bare)):=by
 refine wA (c:=fB) rfl rfl ?_;obtain ⟨k,b,i,s,d,kn,ks,xn,xs,rn,rs⟩:=v;have h:k=8:=h;subst h;rw [uA,uA];simp [fB,-V,-y3,-y0,J,Vl.bare,Vl.kind,Vl.b,Vl.i,Vl.s,Vl.id,Vl.kn,Vl.keys,Vl.xn,Vl.items,Vl.rn,Vl.rest]
theorem bare_ev9 (h:v.kind=9):fA 256 [.agg (zA v)] (.agg (zA v.bare)):=by
 refine wA (c:=fB) rfl rfl ?_;obtain ⟨k,b,i,s,d,kn,ks,xn,xs,rn,rs⟩:=v;have h:k=9:=h;subst h;rw [uA,uA];simp [fB,-V,-y3,-y0,J,Vl.bare,Vl.kind,Vl.b,Vl.i,Vl.s,Vl.id,Vl.kn,Vl.keys,Vl.xn,Vl.items,Vl.rn,Vl.rest]
theorem bare_ev (h:1<=v.kind/\v.kind<=9):fA 256 [.agg (zA v)] (.agg (zA v.bare)):=by
 rcases kinds v.kind with e | e | e | e | e | e | e | e | e | e
 ·exact bare_ev1 v e
 ·exact bare_ev2 v e
 ·exact bare_ev3 v e
 ·exact bare_ev4 v e
 ·exact bare_ev5 v e
 ·exact bare_ev6 v e
 ·exact bare_ev7 v e
 ·exact bare_ev8 v e
 ·exact bare_ev9 v e
 ·exact absurd h e
end
theorem proper_ev1 (v w:Vl) (hb:fA 256 [.agg (zA v)] (.agg (zA w))):fA 238 [.agg (zA v)] (.bool ((v.b == w.b)&&(decide (v.i=w.i)&&(decide (v.s=w.s)&&(decide (v.id=w.id)&&(decide (v.keys.length=w.keys.length)&&(decide (v.items.length=w.items.length)&&decide (v.rest.length=w.rest.length)))))))):=by
 refine wA (c:=bC) rfl rfl ?_;rw [uA,uA] at hb;rw [uA];simp only [fA] at hb;by_cases h1:v.b=w.b
 ·by_cases h2:v.i=w.i
  ·by_cases h3:v.s=w.s
   ·by_cases h4:v.id=w.id
    ·by_cases h5:v.keys.length=w.keys.length
     ·by_cases h6:v.items.length=w.items.length
      ·by_cases h7:v.rest.length=w.rest.length
       ·simp [bC,-V,-y3,-y0,J,hb,h1.symm,h2.symm,h3.symm,h4.symm,h5,h6,h7]
       ·have h7':¬ (v.rest.length:Int)=w.rest.length:=by omega
        simp [bC,-V,-y3,-y0,J,hb,h1.symm,h2.symm,h3.symm,h4.symm,h5,h6,h7,h7']
      ·have h6':¬ (v.items.length:Int)=w.items.length:=by omega
       simp [bC,-V,-y3,-y0,J,hb,h1.symm,h2.symm,h3.symm,h4.symm,h5,h6,h6']
     ·have h5':¬ (v.keys.length:Int)=w.keys.length:=by omega
      simp [bC,-V,-y3,-y0,J,hb,h1.symm,h2.symm,h3.symm,h4.symm,h5,h5']
    ·simp [bC,-V,-y3,-y0,J,hb,h1.symm,h2.symm,h3.symm,h4]
   ·simp [bC,-V,-y3,-y0,J,hb,h1.symm,h2.symm,h3]
  ·simp [bC,-V,-y3,-y0,J,hb,h1.symm,h2]
 ·simp [bC,-V,-y3,-y0,J,hb,h1]
theorem zero_bare {α β:Type} (k:Int) (h:1<=k/\k<=9) (b:Bool) (i:Int) (s:ByteArray) (d:Int) (ks xs:List α) (rs:List β) :
  ((decide (k=1)||!b)&&((decide (k=2)||decide (i=0))&&((decide (k=3)||decide (s=⟨#[]⟩))&&((decide (k=4)||decide (k=6)||decide (d=0))&&((decide (k=8)||ks.isEmpty)&&((decide (5<=k)||xs.isEmpty)&&(decide (k=5)||decide (k=6)||rs.isEmpty))))))) =
  ((b == (if k=1 then b else false))&&(decide (i=(if k=2 then i else 0))&&(decide (s=(if k=3 then s else ⟨#[]⟩))&&(decide (d=(if k=4\/k=6 then d else 0))&&(decide (ks.length=(if k=8 then ks else []).length)&&(decide (xs.length=(if 5<=k then xs else []).length)&&decide (rs.length=(if k=5\/k=6 then rs else []).length))))))):=by
 rcases kinds k with e | e | e | e | e | e | e | e | e | e
 all_goals first | exact absurd h e | skip
 all_goals cases b <;> cases ks <;> cases xs <;> cases rs <;> simp [e]
theorem proper_ev (v:Vl) (h:1<=v.kind/\v.kind<=9):fA 238 [.agg (zA v)] (.bool (rE v)):=by
 have r:=proper_ev1 v v.bare (bare_ev v h);have e:=zero_bare v.kind h v.b v.i v.s v.id v.keys v.items v.rest;unfold rE;rw [e];exact r
theorem rzero_ev1 (v:Vl) (h:v.kind=1):fA 182 [.agg (zA v)] (.bool (rE v)):=by
 refine wA (c:=iA) rfl rfl ?_;rw [uA];unfold rE;by_cases hi:v.i=0
 ·by_cases hs:v.s=⟨#[]⟩
  ·by_cases hd:v.id=0
   ·by_cases hk:v.keys=[]
    ·by_cases hx:v.items=[]
     ·by_cases hr:v.rest=[]
      ·simp [iA,-V,-y3,-y0,J,h,hi,hs,hd,hk,hx,hr]
      ·simp [iA,-V,-y3,-y0,J,h,hi,hs,hd,hk,hx,hr]
     ·simp [iA,-V,-y3,-y0,J,h,hi,hs,hd,hk,hx]
    ·simp [iA,-V,-y3,-y0,J,h,hi,hs,hd,hk]
   ·simp [iA,-V,-y3,-y0,J,h,hi,hs,hd]
  ·simp [iA,-V,-y3,-y0,J,h,hi,hs]
 ·simp [iA,-V,-y3,-y0,J,h,hi]
theorem rzero_ev2 (v:Vl) (h:v.kind=2):fA 182 [.agg (zA v)] (.bool (rE v)):=by
 refine wA (c:=iA) rfl rfl ?_;rw [uA];unfold rE;by_cases hb:v.b=false
 ·by_cases hs:v.s=⟨#[]⟩
  ·by_cases hd:v.id=0
   ·by_cases hk:v.keys=[]
    ·by_cases hx:v.items=[]
     ·by_cases hr:v.rest=[]
      ·simp [iA,-V,-y3,-y0,J,h,hb,hs,hd,hk,hx,hr]
      ·simp [iA,-V,-y3,-y0,J,h,hb,hs,hd,hk,hx,hr]
     ·simp [iA,-V,-y3,-y0,J,h,hb,hs,hd,hk,hx]
    ·simp [iA,-V,-y3,-y0,J,h,hb,hs,hd,hk]
   ·simp [iA,-V,-y3,-y0,J,h,hb,hs,hd]
  ·simp [iA,-V,-y3,-y0,J,h,hb,hs]
 ·simp [iA,-V,-y3,-y0,J,h,hb]
theorem rzero_ev3 (v:Vl) (h:v.kind=3):fA 182 [.agg (zA v)] (.bool (rE v)):=by
 refine wA (c:=iA) rfl rfl ?_;rw [uA];unfold rE;by_cases hb:v.b=false
 ·by_cases hi:v.i=0
  ·by_cases hd:v.id=0
   ·by_cases hk:v.keys=[]
    ·by_cases hx:v.items=[]
     ·by_cases hr:v.rest=[]
      ·simp [iA,-V,-y3,-y0,J,h,hb,hi,hd,hk,hx,hr]
      ·simp [iA,-V,-y3,-y0,J,h,hb,hi,hd,hk,hx,hr]
     ·simp [iA,-V,-y3,-y0,J,h,hb,hi,hd,hk,hx]
    ·simp [iA,-V,-y3,-y0,J,h,hb,hi,hd,hk]
   ·simp [iA,-V,-y3,-y0,J,h,hb,hi,hd]
  ·simp [iA,-V,-y3,-y0,J,h,hb,hi]
 ·simp [iA,-V,-y3,-y0,J,h,hb]
theorem rzero_ev4 (v:Vl) (h:v.kind=4):fA 182 [.agg (zA v)] (.bool (rE v)):=by
 refine wA (c:=iA) rfl rfl ?_;rw [uA];unfold rE;by_cases hb:v.b=false
 ·by_cases hi:v.i=0
  ·by_cases hs:v.s=⟨#[]⟩
   ·by_cases hk:v.keys=[]
    ·by_cases hx:v.items=[]
     ·by_cases hr:v.rest=[]
      ·simp [iA,-V,-y3,-y0,J,h,hb,hi,hs,hk,hx,hr]
      ·simp [iA,-V,-y3,-y0,J,h,hb,hi,hs,hk,hx,hr]
     ·simp [iA,-V,-y3,-y0,J,h,hb,hi,hs,hk,hx]
    ·simp [iA,-V,-y3,-y0,J,h,hb,hi,hs,hk]
   ·simp [iA,-V,-y3,-y0,J,h,hb,hi,hs]
  ·simp [iA,-V,-y3,-y0,J,h,hb,hi]
 ·simp [iA,-V,-y3,-y0,J,h,hb]
theorem rzero_ev5 (v:Vl) (h:v.kind=5):fA 182 [.agg (zA v)] (.bool (rE v)):=by
 refine wA (c:=iA) rfl rfl ?_;rw [uA];unfold rE;by_cases hb:v.b=false
 ·by_cases hi:v.i=0
  ·by_cases hs:v.s=⟨#[]⟩
   ·by_cases hd:v.id=0
    ·by_cases hk:v.keys=[]
     ·simp [iA,-V,-y3,-y0,J,h,hb,hi,hs,hd,hk]
     ·simp [iA,-V,-y3,-y0,J,h,hb,hi,hs,hd,hk]
    ·simp [iA,-V,-y3,-y0,J,h,hb,hi,hs,hd]
   ·simp [iA,-V,-y3,-y0,J,h,hb,hi,hs]
  ·simp [iA,-V,-y3,-y0,J,h,hb,hi]
 ·simp [iA,-V,-y3,-y0,J,h,hb]
theorem rzero_ev6 (v:Vl) (h:v.kind=6):fA 182 [.agg (zA v)] (.bool (rE v)):=by
 refine wA (c:=iA) rfl rfl ?_;rw [uA];unfold rE;by_cases hb:v.b=false
 ·by_cases hi:v.i=0
  ·by_cases hs:v.s=⟨#[]⟩
   ·by_cases hk:v.keys=[]
    ·simp [iA,-V,-y3,-y0,J,h,hb,hi,hs,hk]
    ·simp [iA,-V,-y3,-y0,J,h,hb,hi,hs,hk]
   ·simp [iA,-V,-y3,-y0,J,h,hb,hi,hs]
  ·simp [iA,-V,-y3,-y0,J,h,hb,hi]
 ·simp [iA,-V,-y3,-y0,J,h,hb]
theorem rzero_ev7 (v:Vl) (h:v.kind=7):fA 182 [.agg (zA v)] (.bool (rE v)):=by
 refine wA (c:=iA) rfl rfl ?_;rw [uA];unfold rE;by_cases hb:v.b=false
 ·by_cases hi:v.i=0
  ·by_cases hs:v.s=⟨#[]⟩
   ·by_cases hd:v.id=0
    ·by_cases hk:v.keys=[]
     ·by_cases hr:v.rest=[]
      ·simp [iA,-V,-y3,-y0,J,h,hb,hi,hs,hd,hk,hr]
      ·simp [iA,-V,-y3,-y0,J,h,hb,hi,hs,hd,hk,hr]
     ·simp [iA,-V,-y3,-y0,J,h,hb,hi,hs,hd,hk]
    ·simp [iA,-V,-y3,-y0,J,h,hb,hi,hs,hd]
   ·simp [iA,-V,-y3,-y0,J,h,hb,hi,hs]
  ·simp [iA,-V,-y3,-y0,J,h,hb,hi]
 ·simp [iA,-V,-y3,-y0,J,h,hb]
theorem rzero_ev8 (v:Vl) (h:v.kind=8):fA 182 [.agg (zA v)] (.bool (rE v)):=by
 refine wA (c:=iA) rfl rfl ?_;rw [uA];unfold rE;by_cases hb:v.b=false
 ·by_cases hi:v.i=0
  ·by_cases hs:v.s=⟨#[]⟩
   ·by_cases hd:v.id=0
    ·by_cases hr:v.rest=[]
     ·simp [iA,-V,-y3,-y0,J,h,hb,hi,hs,hd,hr]
     ·simp [iA,-V,-y3,-y0,J,h,hb,hi,hs,hd,hr]
    ·simp [iA,-V,-y3,-y0,J,h,hb,hi,hs,hd]
   ·simp [iA,-V,-y3,-y0,J,h,hb,hi,hs]
  ·simp [iA,-V,-y3,-y0,J,h,hb,hi]
 ·simp [iA,-V,-y3,-y0,J,h,hb]
theorem rzero_ev9 (v:Vl) (h:v.kind=9):fA 182 [.agg (zA v)] (.bool (rE v)):=by
 refine wA (c:=iA) rfl rfl ?_;rw [uA];unfold rE;by_cases hb:v.b=false
 ·by_cases hi:v.i=0
  ·by_cases hs:v.s=⟨#[]⟩
   ·by_cases hd:v.id=0
    ·by_cases hk:v.keys=[]
     ·by_cases hr:v.rest=[]
      ·simp [iA,-V,-y3,-y0,J,h,hb,hi,hs,hd,hk,hr]
      ·simp [iA,-V,-y3,-y0,J,h,hb,hi,hs,hd,hk,hr]
     ·simp [iA,-V,-y3,-y0,J,h,hb,hi,hs,hd,hk]
    ·simp [iA,-V,-y3,-y0,J,h,hb,hi,hs,hd]
   ·simp [iA,-V,-y3,-y0,J,h,hb,hi,hs]
  ·simp [iA,-V,-y3,-y0,J,h,hb,hi]
 ·simp [iA,-V,-y3,-y0,J,h,hb]
def dQ:C:=oR [oB 101 .lss 100 99] (.seq (oD 101 .skip (.exit 10)) (.seq (.block 11 (oR [oI 102 1 98 100,oL 103 102,oM 20 103] (.reg [oM 104 7,oF 105 1 16,oL 106 105,oM 107 20,oS 108 (.build zzj [(0,(1,(.t 106))),(1,(1,(.t 107)))]),oN (.mset (.agg [.none,(.some .i64)]) (.t 104) (.t 108) (.c (.bool true)))]))) (.reg [oC 109 .add 100 1,oM 100 109])))
def fQ:C:=oR [oS 80 (.nxt (.t 79)),oX 81 80 0] (.seq (oD 81 .skip (.exit 8)) (.block 9 (oR [oS 82 (.ent (.t 79)),oX 83 82 0,oY 18 zzj,oV 2 18 83] (oR [oF 84 0 18,oL 85 84,oF 86 1 16,oL 87 86,oB 88 .eql 85 87,oM 89 88,oMg 90 17 89 true,oFg 91 1 18 89 true,oP 92 91 89 true,oCg 93 106 90 92 89 true,oUg 94 93 89 true,oPa 95 89 94] (oD 95 (.reg [oM 96 8,oA 97 2 18,oN (.mset (.agg [.none,(.some .i64)]) (.t 96) (.t 97) (.c (.bool true)))]) .skip)))))
def gQ:C:=oR [oB 70 .lss 69 68] (.seq (oD 70 .skip (.exit 6)) (.seq (.block 7 (oR [oI 71 10 67 69,oA 72 10 71,oY 16 zze,oV 10 16 72] (.seq (oR [oF 73 1 16,oL 74 73,oS 75 (.bin .eql false (.t 74) (.c (.str (ByteArray.mk #[]))))] (oD 75 (.exit 7) .skip)) (oR [oA 76 10 16,oC1 77 105 76,oM 17 77] (.seq (oR [oM 78 7,oS 79 (.rng (.t 78))] (.block 8 (.loop fQ))) (oR [oM 98 17,oH 99 98,oJ 100 0] (.block 10 (.loop dQ)))))))) (.reg [oC 110 .add 69 1,oM 69 110])))
def jQ:C:=oR [oB 50 .lss 49 48] (.seq (oD 50 .skip (.exit 4)) (.seq (.block 5 (oR [oI 51 1 47 49,oL 52 51,oM 14 52] (oR [oM 53 8,oF 54 1 12,oL 55 54,oM 56 14,oS 57 (.build zzj [(0,(1,(.t 55))),(1,(1,(.t 56)))]),oS 58 (.mget false (.agg [.none,(.some .i64)]) (.bool false) (.t 53) (.t 57))] (oD 58 (oR [oM 59 9,oF 60 1 12,oL 61 60,oM 62 14,oM 2 59,oM 3 61,oM 4 62,oJ 5 0] .ret) .skip)))) (.reg [oC 63 .add 49 1,oM 49 63])))
def kQ:C:=oR [oB 40 .lss 39 38] (.seq (oD 40 .skip (.exit 2)) (.seq (.block 3 (oR [oI 41 10 37 39,oA 42 10 41,oY 12 zze,oV 10 12 42] (.seq (oR [oF 43 1 12,oL 44 43,oS 45 (.bin .eql false (.t 44) (.c (.str (ByteArray.mk #[]))))] (oD 45 (.exit 3) .skip)) (oR [oA 46 10 12,oC1 47 105 46,oH 48 47,oJ 49 0] (.block 4 (.loop jQ)))))) (.reg [oC 64 .add 39 1,oM 39 64])))
def lQ:C:=oR [oB 31 .lss 30 29] (.seq (oD 31 .skip (.exit 0)) (.seq (.block 1 (oR [oM 32 30,oI 33 2 28 30,oA 34 2 33,oS 10 (.alloc [(.sl true []),(.int .i64 0)]),oM 9 32,oV 2 10 34] (.seq (oR [oF 35 0 10,oF 36 0 35,oL 37 36,oH 38 37,oJ 39 0] (.block 2 (.loop kQ))) (oR [oF 65 0 10,oF 66 0 65,oL 67 66,oH 68 67,oJ 69 0] (.block 6 (.loop gQ)))))) (.reg [oC 111 .add 30 1,oM 30 111])))
def MJ:qB:=⟨(oR [oJ 2 0,oS 3 (.mv (.c (.str (ByteArray.mk #[])))),oJ 4 0,oJ 5 0] (.seq (oR [oM 21 0,oC1 22 103 21,oM 6 22] (oR [oM 23 6,oC 24 .neq 23 0] (oD 24 (oR [oM 25 6,oJ 2 0,oS 3 (.mv (.c (.str (ByteArray.mk #[])))),oJ 4 0,oM 5 25] .ret) .skip))) (oR [oS 26 (.mkm),oS 27 (.mkm),oM 7 26,oM 8 27] (.seq (oR [oM 28 0,oH 29 28,oJ 30 0] (.block 0 (.loop lQ))) (oR [oJ 2 0,oS 3 (.mv (.c (.str (ByteArray.mk #[])))),oJ 4 0,oJ 5 15] .ret))))),[(.tmp 2),(.tmp 3),(.tmp 4),(.tmp 5)],1,[]⟩ --@@ sheave/history.Reused
theorem PS:nA Tryz.prog 48 MJ:=okF Tryz.func48
def ruT:Nat->Option qB:=fun f=>if f=48 then some MJ else none
theorem ruT_ok (f:Nat) (c:qB) (h:ruT f=some c):nA Tryz.prog f c:=by
 unfold ruT at h;split at h
 ·rename_i e;injection h with h;subst h;subst e;exact PS
 ·cases h
theorem mixedO:Tryz.prog.follows .mixedOrders=true:=by kernel_rfl
def ruArgs:List AV:=[(.sl false [[(.sl false [[(.int .i64 5),(.str (ByteArray.mk #[82])),(.int .i64 0),(.int .i64 0),(.int .i64 0),(.sl true []),(.sl false [[(.int .i64 1),(.str (ByteArray.mk #[120])),(.int .i64 1),(.bool false),(.bool true),(.int .i64 1),(.bool true),(.int .i64 0),(.str (ByteArray.mk #[])),(.int .i64 0),(.sl true []),(.sl true []),(.sl true [])]]),(.int .i64 0),(.int .i64 0),(.bool false)],[(.int .i64 1),(.str (ByteArray.mk #[])),(.int .i64 0),(.int .i64 0),(.int .i64 0),(.sl true []),(.sl true []),(.int .i64 0),(.int .i64 0),(.bool false)]]),(.int .i64 0)],[(.sl false [[(.int .i64 5),(.str (ByteArray.mk #[82])),(.int .i64 0),(.int .i64 0),(.int .i64 0),(.sl true []),(.sl true []),(.int .i64 0),(.int .i64 0),(.bool false)],[(.int .i64 1),(.str (ByteArray.mk #[])),(.int .i64 0),(.int .i64 0),(.int .i64 0),(.sl true []),(.sl true []),(.int .i64 0),(.int .i64 0),(.bool false)]]),(.int .i64 0)],[(.sl false [[(.int .i64 5),(.str (ByteArray.mk #[82])),(.int .i64 0),(.int .i64 0),(.int .i64 0),(.sl true []),(.sl false [[(.int .i64 1),(.str (ByteArray.mk #[120])),(.int .i64 1),(.bool false),(.bool true),(.int .i64 1),(.bool false),(.int .i64 0),(.str (ByteArray.mk #[])),(.int .i64 0),(.sl true []),(.sl true []),(.sl true [])]]),(.int .i64 0),(.int .i64 0),(.bool false)],[(.int .i64 1),(.str (ByteArray.mk #[])),(.int .i64 0),(.int .i64 0),(.int .i64 0),(.sl true []),(.sl true []),(.int .i64 0),(.int .i64 0),(.bool false)]]),(.int .i64 0)]])]
def ruV:AV:=(.tup [(.int .i64 2),(.str (ByteArray.mk #[82])),(.int .i64 1),(.int .i64 0)])
theorem E0 {args:List AV} {S:Option AV}:eA 48 args S=none:=by simp [eA]
theorem no_reused' {args:List AV} {S:Option AV} {r:RV} (h:UF gA eA 48 args S=some r):False:=by
 obtain ⟨n,hn⟩:=dG.1 h;have hT:gA 48=none:=by kernel_rfl
 cases n <;> (unfold jD at hn; rw [hT] at hn; simp only at hn; rw [E0] at hn; cases hn)
theorem ru_knows:IA ruT (UF gA eA) nW:=fun f args S r h=>by
 have h:=mW f args S r h;by_cases e:f=48
 ·subst e;exact (no_reused' h).elim
 ·have hT:ruT f=none:=by unfold ruT; rw [if_neg e]
  exact dG.2 ⟨0,by unfold jD; rw [hT]; exact h⟩
theorem reused_ev:UF ruT (UF gA eA) 48 ruArgs none=some (ruV,none):=ru_knows.every (c:=MJ) rfl rfl rfl rfl 100 (by kernel_rfl)
theorem reused_ok {O:uH}:rD Tryz.prog O 48 ruArgs none (ruV,none):=pS mixedO ruT_ok (fun _ _ _ _ h=>pS mixedO allT_ok cZ h) reused_ev
def HT:aB:=fun f args S=>if Nat.beq f 48&&(AV.beqL args ruArgs&&AV.beqO S none) then some (ruV,none) else eA f args S
theorem hisExt_ok {O:uH} (f:Nat) (args:List AV) (S:Option AV) (r:RV) (h:HT f args S=some r):rD Tryz.prog O f args S r:=by
 unfold HT at h;split at h
 ·rename_i hc;simp only [y8] at hc;obtain ⟨h1,h2,h3⟩:=hc;injection h with h;subst h;rw [Nat.eq_of_beq_eq_true h1,AV.beqL_eq _ _ h2,AV.beqO_eq _ _ h3];exact reused_ok
 ·exact cZ f args S r h
theorem XW (f:Nat) (args:List AV) (S:Option AV) (r:RV) (h:eA f args S=some r):HT f args S=some r:=by
 unfold HT;split
 ·rename_i hc;simp only [y8] at hc;rw [Nat.eq_of_beq_eq_true hc.1,E0] at h;cases h
 ·exact h
abbrev evG (f:Nat) (args:List AV) (v:AV):Prop:=UF gA HT f args none=some (v,none)
theorem ev_G {f:Nat} {args:List AV} {v:AV} (h:UF gA eA f args none=some (v,none)):evG f args v:=SW XW h
theorem W9:evG 45 [] (.bool true):=IA.run (fun f args S r h=>SW XW (mW f args S r h)) 3000 (by kernel_rfl)
end Go.Proofs.YtbnlmgncbgaepaaGreat
