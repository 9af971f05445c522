/- A part of the proof. -/
import Derived.Test.YthnefkpplcmjdaaGreatWc
set_option linter.all false
set_option maxRecDepth 100000
set_option maxHeartbeats 8000000
open Option renaming bind_some → J
open List renaming range_succ → y0, map_map → y3, getElem_mem → y8, drop_eq_getElem_cons → yc, drop_eq_nil_of_le → yf, map_cons → yk, map_nil → yq, take_append_getElem → yx, take_of_length_le → yB, mem_append → yD, length_take → yM
open Int renaming toNat_lt → y4
open Bool renaming and_eq_true → y9
namespace Go.Proofs.YthnefkpplcmjdaaGreat
open Go
structure Ea where
 id:Int
 data:ByteArray
 deriving DecidableEq
inductive Vl where
 |mk (kind:Int) (b:Bool) (i:Int) (s:ByteArray) (id:Int) (kn:Bool) (keys:List Vl) (xn:Bool) (items:List Vl) (rn:Bool) (rest:List Ea)
namespace Vl
def kind:Vl->Int|.mk k _ _ _ _ _ _ _ _ _ _=>k
def b:Vl->Bool|.mk _ b _ _ _ _ _ _ _ _ _=>b
def i:Vl->Int|.mk _ _ i _ _ _ _ _ _ _ _=>i
def s:Vl->ByteArray|.mk _ _ _ s _ _ _ _ _ _ _=>s
def id:Vl->Int|.mk _ _ _ _ d _ _ _ _ _ _=>d
def kn:Vl->Bool|.mk _ _ _ _ _ k _ _ _ _ _=>k
def keys:Vl->List Vl|.mk _ _ _ _ _ _ l _ _ _ _=>l
def xn:Vl->Bool|.mk _ _ _ _ _ _ _ x _ _ _=>x
def items:Vl->List Vl|.mk _ _ _ _ _ _ _ _ l _ _=>l
def rn:Vl->Bool|.mk _ _ _ _ _ _ _ _ _ r _=>r
def rest:Vl->List Ea|.mk _ _ _ _ _ _ _ _ _ _ l=>l
theorem xA (v x:Vl)(h:x∈v.keys):SizeOf.sizeOf x<SizeOf.sizeOf v:=by
 cases v;have:=List.sizeOf_lt_of_mem h;simp only[keys]at this;simp only[mk.sizeOf_spec];omega
theorem jA (v x:Vl)(h:x∈v.items):SizeOf.sizeOf x<SizeOf.sizeOf v:=by
 cases v;have:=List.sizeOf_lt_of_mem h;simp only[items]at this;simp only[mk.sizeOf_spec];omega
end Vl
def qN (r:Ea):List AV:=[.int .i64 r.id,.str r.data]
mutual
def TC:Vl->List AV
 |.mk k b i s d kn ks xn xs rn rs=>[.int .i64 k,.bool b,.int .i64 i,.str s,.int .i64 d,.sl kn (H4 ks),.sl xn (H4 xs),.sl rn (rs.map qN)]
def H4:List Vl->List (List AV)
 | []=>[]
 |v::r=>TC v::H4 r
end
theorem HW:∀l:List Vl,H4 l=l.map TC
 | []=>by rw[H4];rfl
 |v::r=>by rw[H4,HW r];rfl
theorem nC (v:Vl):TC v=[.int .i64 v.kind,.bool v.b,.int .i64 v.i,.str v.s,.int .i64 v.id,.sl v.kn (v.keys.map TC),.sl v.xn (v.items.map TC),.sl v.rn (v.rest.map qN)]:=by
 cases v;rw[TC,HW,HW];rfl
mutual
/-- lengths that occur -/
def Vl.ok:Vl->Prop
 |.mk _ _ _ s _ _ ks _ xs _ rs=>ks.length<=9223372036854775807/\xs.length<=9223372036854775807/\rs.length<=9223372036854775807/\s.size<=9223372036854775807/\Vl.oks ks/\Vl.oks xs
def Vl.oks:List Vl->Prop
 | []=>True
 |v::r=>Vl.ok v/\Vl.oks r
end
theorem Vl.NB:∀l:List Vl,Vl.oks l ↔ ∀v∈l,v.ok
 | []=>by simp[Vl.oks]
 |v::r=>by simp[Vl.oks,Vl.NB r]
theorem Vl.NA (v:Vl):v.ok↔v.keys.length<=9223372036854775807/\v.items.length<=9223372036854775807/\v.rest.length<=9223372036854775807/\v.s.size<=9223372036854775807/\(∀x∈v.keys,x.ok)/\∀x∈v.items,x.ok:=by
 cases v;rw[Vl.ok,Vl.NB,Vl.NB];rfl
def Vl.zero:Vl:=.mk 0 false 0 ⟨#[]⟩ 0 true [] true [] true []
structure zX where
 id:Int
 name:ByteArray
 deriving DecidableEq
def TG (x:zX):List AV:=[.int .i64 x.id,.str x.name]
structure RE where
 id:Int
 name:ByteArray
 ty:Int
 EA:Bool
 has:Bool
 dflt:Vl
def uD (m:RE):List AV:=[.int .i64 m.id,.str m.name,.int .i64 m.ty,.bool m.EA,.bool m.has,.int .i64 m.dflt.kind,.bool m.dflt.b,.int .i64 m.dflt.i,.str m.dflt.s,.int .i64 m.dflt.id,.sl m.dflt.kn (m.dflt.keys.map TC),.sl m.dflt.xn (m.dflt.items.map TC),.sl m.dflt.rn (m.dflt.rest.map qN)]
structure BC where
 kind:Int
 name:ByteArray
 low:Int
 high:Int
 max:Int
 sn:Bool
 tA:List zX
 mn:Bool
 qA:List RE
 key:Int
 elem:Int
 opn:Bool
def QC (t:BC):List AV:=[.int .i64 t.kind,.str t.name,.int .i64 t.low,.int .i64 t.high,.int .i64 t.max,.sl t.sn (t.tA.map TG),.sl t.mn (t.qA.map uD),.int .i64 t.key,.int .i64 t.elem,.bool t.opn]
structure dR where
 nl:Bool
 types:List BC
def pD (s:dR):List AV:=[.sl s.nl (s.types.map QC)]
def RE.ok (m:RE):Prop:=m.dflt.ok/\m.name.size<=9223372036854775807
def BC.ok (t:BC):Prop:=t.tA.length<=9223372036854775807/\t.qA.length<=9223372036854775807/\∀m∈t.qA,m.ok
def dR.ok (s:dR):Prop:=s.types.length<=9223372036854775807/\∀t∈s.types,t.ok
theorem cD {i:Nat}(h:i<9223372036854775807:=by omega):IntKind.i64.wrap ((i:Int)+1)=((i+1:Nat):Int):=by
 rw[IntWalk.i64_in _ (by omega)];rfl
theorem Q1 (v:Vl):(TC v).length=8:=by rw[nC];rfl
theorem NO (l:List Vl):PD 8 (l.map TC)=true:=rG _ _ _ Q1
theorem mC {f:Nat}{c:jD}{args:List AV}{r:RV}(hT:dD f=some c)(hl:args.length=c.np)(h:c.code.run (jU dD PC) (Hu dD PC) (OC.init args none) (fin c none)=some r)(hm:PI args=false:=by rfl):jU dD PC f args none=some r:=Fu c hT hl h hm
abbrev IC (f:Nat)(args:List AV)(v:AV):Prop:=jU dD PC f args none=some (v,none)
def tT (x:Int):Bool:=decide (x=95)||(decide (97<=x)&&decide (x<=122))||(decide (65<=x)&&decide (x<=90))
def BY (x:Int):Bool:=decide (48<=x)&&decide (x<=57)
def nI (s:ByteArray):Nat->Nat->Bool
 |0,_=>true
 | n+1,i=>(match s[i]? with | some u=>tT u.toNat||BY u.toNat | none=>false)&&nI s n (i+1)
def aJ (s:ByteArray):Bool:=decide (s.size≠0)&&decide (s.size<=24)&&(match s[0]? with|some u=>tT u.toNat|none=>false)&&nI s s.size 0
theorem C3 (x:Int):IC 241 [.int .u8 x] (.bool (tT x)):=by
 refine mC (c:=QJ) rfl rfl ?_;unfold tT;by_cases h1:x=95<;>by_cases h2:97<=x<;>by_cases h3:65<=x<;>by_cases h4:x<=122<;>by_cases h5:x<=90<;>simp[QJ,-J,OE,y0,h1,h2,h3,h4,h5]
theorem Md (x:Int):IC 242 [.int .u8 x] (.bool (BY x)):=by
 refine mC (c:=sK) rfl rfl ?_;unfold BY;by_cases h1:48<=x<;>simp[sK,-J,OE,y0,h1]
theorem I0 (x:Int):IC 218 [.int .u8 x] (.bool (tT x)):=by
 refine mC (c:=wL) rfl rfl ?_;unfold tT;by_cases h1:x=95<;>by_cases h2:97<=x<;>by_cases h3:65<=x<;>by_cases h4:x<=122<;>by_cases h5:x<=90<;>simp[wL,-J,OE,y0,h1,h2,h3,h4,h5]
theorem Oo (x:Int):IC 219 [.int .u8 x] (.bool (BY x)):=by
 refine mC (c:=zM) rfl rfl ?_;unfold BY;by_cases h1:48<=x<;>simp[zM,-J,OE,y0,h1]
theorem kS {s:ByteArray}{i:Nat}(h:i<s.size):∃u,s[i]?=some u:=⟨s[i],getElem?_pos s i h⟩
theorem Xb (s:ByteArray)(hs:s.size<=24)(r:RV)(k:Ex->OC->Option RV)(hk:∀s',nI s s.size 0=true->k (.exit 0) s'=some r)(hr:∀s':OC,nI s s.size 0=false->(s'.env 2).v=.bool false->k .ret s'=some r):
  ∀(n i:Nat),i+n=s.size->nI s n i=nI s s.size 0->∀s':OC,(s'.env 0).v=.str s->(s'.env 18).v=.int .i64 s.size->(s'.env 19).v=.int .i64 i->OL dD PC jG s' k=some r:=by
 intro n
 induction n with
 |zero =>
  intro i hi hf s' e0 e18 e19;have fa:¬((i:Int)<s.size):=by omega
  refine EC ?_;simp[jG,-J,OE,y0,e0,e18,e19,fa];exact hk _ (by rw[<- hf];rfl)
 |succ n ih =>
  intro i hi hf s' e0 e18 e19;have fa:(i:Int)<s.size:=by omega
  obtain⟨u,hu⟩:=kS (s:=s) (i:=i) (by omega);have hw:=cD (i:=i);have h1:=C3 u.toNat;have h2:=Md u.toNat;simp only[nI,hu]at hf;refine EC ?_;cases b1:tT u.toNat with
  |true =>
   simp only[b1]at h1 hf;simp[jG,-J,OE,y0,e0,e18,e19,fa,hu,h1,hw];refine ih (i+1) (by omega) (by simpa using hf) _ ?_ ?_ ?_<;>simp[*]
  |false =>
   cases b2:BY u.toNat with
   |true =>
    simp only[b1,b2]at h1 h2 hf;simp[jG,-J,OE,y0,e0,e18,e19,fa,hu,h1,h2,hw];refine ih (i+1) (by omega) (by simpa using hf) _ ?_ ?_ ?_<;>simp[*]
   |false =>
    simp only[b1,b2]at h1 h2 hf;simp[jG,-J,OE,y0,e0,e18,e19,fa,hu,h1,h2,hw];refine hr _ (by simpa using hf.symm) ?_;simp
theorem Br (s:ByteArray):IC 202 [.str s] (.bool (aJ s)):=by
 refine mC (c:=FG) rfl rfl ?_;unfold aJ;by_cases h0:s=⟨#[]⟩
 ·subst h0;simp[FG,-J,OE,y0];exact fun h=>absurd rfl h
 ·have hz:s.size≠0:=fun h=>h0 (by
   obtain⟨d⟩:=s;have h:d.size=0:=h;rw[Array.eq_empty_of_size_eq_zero h])
  by_cases h1:s.size<=24
  ·have th:¬ ((24:Int)<s.size):=by omega
   obtain⟨u,hu⟩:=kS (s:=s) (i:=0) (by omega);have h2:=C3 u.toNat;cases b1:tT u.toNat with
   |false =>
    simp only[b1]at h2;simp[FG,-J,OE,y0,h0,th,hu,h2,b1]
   |true =>
    simp only[b1]at h2;simp[FG,-J,OE,y0,h0,th,hu,h2,b1,hz,h1];refine Xb s h1 _ _ (fun s' hf=>?main) (fun s' hf h2=>?main2) s.size 0 (by simp) rfl _ ?_ ?_ ?_
    case main=>simp[-J,OE,y0,hf]
    case main2=>simp[-J,OE,y0,hf,h2]
    all_goals simp
  ·have th:(24:Int)<s.size:=by omega
   simp[FG,-J,OE,y0,h0,th,h1]
theorem Uk (s:ByteArray)(hs:s.size<=24)(r:RV)(k:Ex->OC->Option RV)(hk:∀s',nI s s.size 0=true->k (.exit 0) s'=some r)(hr:∀s':OC,nI s s.size 0=false->(s'.env 2).v=.bool false->k .ret s'=some r):
  ∀(n i:Nat),i+n=s.size->nI s n i=nI s s.size 0->∀s':OC,(s'.env 0).v=.str s->(s'.env 3).v=.int .i64 i->OL dD PC kG s' k=some r:=by
 intro n
 induction n with
 |zero =>
  intro i hi hf s' e0 e3;have fa:¬((i:Int)<s.size):=by omega
  refine EC ?_;simp[kG,-J,OE,y0,e0,e3,fa];exact hk _ (by rw[<- hf];rfl)
 |succ n ih =>
  intro i hi hf s' e0 e3;have fa:(i:Int)<s.size:=by omega
  obtain⟨u,hu⟩:=kS (s:=s) (i:=i) (by omega);have hw:=cD (i:=i);have h1:=I0 u.toNat;have h2:=Oo u.toNat;simp only[nI,hu]at hf;refine EC ?_;cases b1:tT u.toNat with
  |true =>
   simp only[b1]at h1 hf;simp[kG,-J,OE,y0,e0,e3,fa,hu,h1,hw];refine ih (i+1) (by omega) (by simpa using hf) _ ?_ ?_<;>simp[*]
  |false =>
   cases b2:BY u.toNat with
   |true =>
    simp only[b1,b2]at h1 h2 hf;simp[kG,-J,OE,y0,e0,e3,fa,hu,h1,h2,hw];refine ih (i+1) (by omega) (by simpa using hf) _ ?_ ?_<;>simp[*]
   |false =>
    simp only[b1,b2]at h1 h2 hf;simp[kG,-J,OE,y0,e0,e3,fa,hu,h1,h2,hw];refine hr _ (by simpa using hf.symm) ?_;simp
theorem O0 (s:ByteArray):IC 158 [.str s] (.bool (aJ s)):=by
 refine mC (c:=GG) rfl rfl ?_;unfold aJ;by_cases h0:s=⟨#[]⟩
 ·subst h0;simp[GG,-J,OE,y0];exact fun h=>absurd rfl h
 ·have hz:s.size≠0:=fun h=>h0 (by
   obtain⟨d⟩:=s;have h:d.size=0:=h;rw[Array.eq_empty_of_size_eq_zero h])
  by_cases h1:s.size<=24
  ·have th:¬ ((24:Int)<s.size):=by omega
   obtain⟨u,hu⟩:=kS (s:=s) (i:=0) (by omega);have h2:=I0 u.toNat;cases b1:tT u.toNat with
   |false =>
    simp only[b1]at h2;simp[GG,-J,OE,y0,h0,th,hu,h2,b1]
   |true =>
    simp only[b1]at h2;simp[GG,-J,OE,y0,h0,th,hu,h2,b1,hz,h1];refine Uk s h1 _ _ (fun s' hf=>?main) (fun s' hf h2=>?main2) s.size 0 (by simp) rfl _ ?_ ?_
    case main=>simp[-J,OE,y0,hf]
    case main2=>simp[-J,OE,y0,hf,h2]
    all_goals simp
  ·have th:(24:Int)<s.size:=by omega
   simp[GG,-J,OE,y0,h0,th,h1]
mutual
def Vl.same:Vl->Vl->Bool
 |.mk k b i s d _ ks _ xs _ rs,.mk k' b' i' s' d' _ ks' _ ew _ rs'=>decide (k=k')&&(b == b')&&decide (i=i')&&decide (s=s')&&decide (d=d')&&decide (rs=rs')&&Vl.fA ks ks'&&Vl.fA xs ew
def Vl.fA:List Vl->List Vl->Bool
 | [],[]=>true
 |v::r,v'::r'=>Vl.same v v'&&Vl.fA r r'
 | [],_::_=>false
 |_::_,[]=>false
end
theorem Vl.fB (v w:Vl):v.same w=(decide (v.kind=w.kind)&&(v.b == w.b)&&decide (v.i=w.i)&&decide (v.s=w.s)&&decide (v.id=w.id)&&decide (v.rest=w.rest)&&Vl.fA v.keys w.keys&&Vl.fA v.items w.items):=by
 cases v;cases w;rw[Vl.same];rfl
theorem Vl.WB:∀l m:List Vl,l.length≠m.length->Vl.fA l m=false
 | [],[],h=>absurd rfl h
 | [],_::_,_=>by rw[Vl.fA]
 |_::_,[],_=>by rw[Vl.fA]
 |v::r,w::r',h=>by rw[Vl.fA,Vl.WB r r' (by simpa using h)];simp
theorem Mn (rs qs:List Ea)(hl:rs.length<=9223372036854775807)(he:rs.length=qs.length)(b1 b2:Bool)(r:RV)(k:Ex->OC->Option RV)(hk:∀s',rs=qs->k (.exit 0) s'=some r)(hr:∀s':OC,rs≠qs->(s'.env 4).v=.bool false->k .ret s'=some r):
  ∀(n i:Nat),i+n=rs.length->(rs.drop i=qs.drop i↔rs=qs)->∀s':OC,(s'.env 0).v=.sl b1 (rs.map qN)->(s'.env 1).v=.sl b2 (qs.map qN)->(s'.env 12).v=.int .i64 rs.length->(s'.env 13).v=.int .i64 i->OL dD PC oE s' k=some r:=by
 intro n
 induction n with
 |zero =>
  intro i hi hf s' e0 e1 zh jm;have fa:¬((i:Int)<rs.length):=by omega
  refine EC ?_;simp[oE,-J,OE,y0,zh,jm,fa];exact hk _ (hf.1 (by rw[yf (by omega),yf (by omega)]))
 |succ n ih =>
  intro i hi hf s' e0 e1 zh jm;have fa:(i:Int)<rs.length:=by omega
  have kg:i<rs.length:=by omega
  have mg:i<qs.length:=by omega
  have hw:=cD (i:=i);have g1:(rs.map qN)[i]?=some (qN rs[i]):=by simp[kg]
  have g2:(qs.map qN)[i]?=some (qN qs[i]):=by simp[mg]
  rw[yc kg,yc mg]at hf;simp only[List.cons.injEq]at hf;generalize rs[i]=x at *
  generalize qs[i]=y at *
  obtain⟨xi,xd⟩:=x;obtain⟨yi,yd⟩:=y;simp only[qN]at g1 g2;simp only[Ea.mk.injEq]at hf;refine EC ?_;by_cases h1:xi=yi
  ·by_cases h2:xd=yd
   ·subst h1 h2;simp[oE,-J,OE,y0,e0,e1,zh,jm,fa,g1,g2,iN,hw];refine ih (i+1) (by omega) (by simpa using hf) _ ?_ ?_ ?_ ?_<;>simp[*]
   ·subst h1;simp[oE,-J,OE,y0,e0,e1,zh,jm,fa,g1,g2,iN,h2];exact hr _ (fun h=>h2 (hf.2 h).1.2) (by simp)
  ·simp[oE,-J,OE,y0,e0,e1,zh,jm,fa,g1,g2,iN,h1];exact hr _ (fun h=>h1 (hf.2 h).1.1) (by simp)
theorem Ut (rs qs:List Ea)(hl:rs.length<=9223372036854775807)(b1 b2:Bool):IC 232 [.sl b1 (rs.map qN),.sl b2 (qs.map qN)] (.bool (decide (rs=qs))):=by
 refine mC (c:=IF) rfl rfl ?_;by_cases he:rs.length=qs.length
 ·have fg:(rs.length:Int)=qs.length:=by omega
  simp[IF,-J,OE,y0,he];refine Mn rs qs hl he b1 b2 _ _ (fun s' hf=>?main) (fun s' hf h4=>?main2) rs.length 0 (by simp) (by simp) _ ?_ ?_ ?_ ?_
  case main=>simp[-J,OE,y0,hf]
  case main2=>simp[-J,OE,y0,hf,h4]
  all_goals simp[he]
 ·have fg:¬ (rs.length:Int)=qs.length:=by omega
  have ua:rs≠qs:=fun h=>he (by rw[h])
  simp[IF,-J,OE,y0,fg,ua]
theorem eqf_lp (F:Nat)(l m:List Vl)(hl:l.length<=9223372036854775807)(he:l.length=m.length)(hF:∀x∈l,∀y∈m,IC F [.agg (TC x),.agg (TC y)] (.bool (x.same y)))(b1 b2:Bool)(r:RV)(k:Ex->OC->Option RV)(hk:∀s',Vl.fA l m=true->k (.exit 0) s'=some r)(hr:∀s':OC,Vl.fA l m=false->(s'.env 6).v=.bool false->k .ret s'=some r):
  ∀(n i:Nat),i+n=l.length->Vl.fA (l.drop i) (m.drop i)=Vl.fA l m->∀s':OC,(s'.env 1).v=.sl b2 (m.map TC)->(s'.env 2).v=.fn F []->(s'.env 15).v=.sl b1 (l.map TC)->(s'.env 16).v=.int .i64 l.length->(s'.env 17).v=.int .i64 i->OL dD PC XD s' k=some r:=by
 intro n
 induction n with
 |zero =>
  intro i hi hf s' e1 e2 jd lf fk;have fa:¬((i:Int)<l.length):=by omega
  refine EC ?_;simp[XD,-J,OE,y0,lf,fk,fa];refine hk _ ?_;rw[<- hf,yf (by omega),yf (by omega),Vl.fA]
 |succ n ih =>
  intro i hi hf s' e1 e2 jd lf fk;have fa:(i:Int)<l.length:=by omega
  have kg:i<l.length:=by omega
  have mg:i<m.length:=by omega
  have hw:=cD (i:=i);have g1:(l.map TC)[i]?=some (TC l[i]):=by simp[kg]
  have g2:(m.map TC)[i]?=some (TC m[i]):=by simp[mg]
  have hx:=hF l[i] (y8 _) m[i] (y8 _);rw[yc kg,yc mg,Vl.fA]at hf;generalize l[i]=x at *
  generalize m[i]=y at *
  simp only[IC,nC]at g1 g2 hx;refine EC ?_;cases h1:x.same y with
  |true =>
   rw[h1]at hx hf;simp[XD,-J,OE,y0,e1,e2,jd,lf,fk,fa,g1,g2,qI,KF,hx,hw];refine ih (i+1) (by omega) (by simpa using hf) _ ?_ ?_ ?_ ?_ ?_<;>simp[*]
  |false =>
   rw[h1]at hx hf;simp[XD,-J,OE,y0,e1,e2,jd,lf,fk,fa,g1,g2,qI,KF,hx];exact hr _ (by simpa using hf.symm) (by simp)
theorem Q5 (F:Nat)(l m:List Vl)(hl:l.length<=9223372036854775807)(hF:∀x∈l,∀y∈m,IC F [.agg (TC x),.agg (TC y)] (.bool (x.same y)))(b1 b2:Bool):IC 233 [.sl b1 (l.map TC),.sl b2 (m.map TC),.fn F []] (.bool (Vl.fA l m)):=by
 refine mC (c:=jE) rfl rfl ?_;by_cases he:l.length=m.length
 ·simp [jE,-J,OE,y0,he];refine eqf_lp F l m hl he hF b1 b2 _ _ (fun s' hf=>?main) (fun s' hf h4=>?main2) l.length 0 (by simp) (by simp) _ ?_ ?_ ?_ ?_ ?_
  case main=>simp[-J,OE,y0,hf]
  case main2=>simp[-J,OE,y0,hf,h4]
  all_goals simp[he]
 ·have fg:¬ (l.length:Int)=m.length:=by omega
  simp[jE,-J,OE,y0,fg,Vl.WB l m he]
theorem Kt:∀(n:Nat)(v w:Vl),SizeOf.sizeOf v<n->v.ok->IC 248 [.agg (TC v),.agg (TC w)] (.bool (v.same w)):=by
 intro n
 induction n with
 |zero=>intro v w h;omega
 |succ n ih =>
  intro v w hn hv;rw[Vl.NA]at hv;obtain⟨o1,o2,o3,o4,o5,o6⟩:=hv;have hr:=Ut v.rest w.rest o3 v.rn w.rn;have fj:=Q5 248 v.keys w.keys o1 (fun x hx y _=>ih x y (by have:=Vl.xA v x hx;omega) (o5 x hx)) v.kn w.kn;have kc:=Q5 248 v.items w.items o2 (fun x hx y _=>ih x y (by have:=Vl.jA v x hx;omega) (o6 x hx)) v.xn w.xn;simp only[IC]at hr fj kc;refine mC (c:=uF) rfl rfl ?_;rw[nC,nC,Vl.fB];by_cases h1:v.kind=w.kind
  ·by_cases h2:v.b=w.b
   ·by_cases h3:v.i=w.i
    ·by_cases h4:v.s=w.s
     ·by_cases h5:v.id=w.id
      ·by_cases h6:v.rest=w.rest
       ·cases h7:Vl.fA v.keys w.keys with
        |true=>rw[h7]at fj;simp[uF,-J,OE,y0,h1,h2,h3,h4,h5,h6▸hr,h6,qI,KF,fj,kc,h7]
        |false=>rw[h7]at fj;simp[uF,-J,OE,y0,h1,h2,h3,h4,h5,h6▸hr,h6,qI,KF,fj,h7]
       ·simp[uF,-J,OE,y0,h1,h2,h3,h4,h5,hr,h6]
      ·simp[uF,-J,OE,y0,h1,h2,h3,h4,h5]
     ·simp[uF,-J,OE,y0,h1,h2,h3,h4]
    ·simp[uF,-J,OE,y0,h1,h2,h3]
   ·simp[uF,-J,OE,y0,h1,h2]
  ·simp[uF,-J,OE,y0,h1]
abbrev kF (v:Vl):List WC:=[⟨.int .i64 v.kind,.no⟩,⟨.bool v.b,.no⟩,⟨.int .i64 v.i,.no⟩,⟨.str v.s,.no⟩,⟨.int .i64 v.id,.no⟩,⟨.sl v.kn (v.keys.map TC),.no⟩,⟨.sl v.xn (v.items.map TC),.no⟩,⟨.sl v.rn (v.rest.map qN),.no⟩]
theorem Pk (v w:Vl)(hl:v.rest.length<=9223372036854775807)(he:v.rest.length=w.rest.length)(m:Nat)(r:RV)(k:Ex->OC->Option RV)
  (hk:∀s':OC,v.rest=w.rest->(s'.env 2).v=.ptr 2 m 0->(s'.env 3).v=.ptr 3 m 0->s'.mem 2 m=some (kF v)->s'.mem 3 m=some (kF w)->k (.exit 0) s'=some r) (hr:∀s':OC,v.rest≠w.rest->(s'.env 4).v=.bool false->k .ret s'=some r) :
  ∀(n i:Nat),i+n=v.rest.length->(v.rest.drop i=w.rest.drop i↔v.rest=w.rest)->∀s':OC,(s'.env 2).v=.ptr 2 m 0->(s'.env 3).v=.ptr 3 m 0->s'.mem 2 m=some (kF v)->s'.mem 3 m=some (kF w)->(s'.env 5).v=.int .i64 i->OL dD PC zF s' k=some r:=by
 intro n
 induction n with
 |zero =>
  intro i hi hf s' e2 e3 m2 m3 e5;have fa:¬((i:Int)<v.rest.length):=by omega
  refine EC ?_;simp[zF,-J,OE,y0,e2,e3,m2,m3,e5,fa];exact hk _ (hf.1 (by rw[yf (by omega),yf (by omega)])) (by simp[e2]) (by simp[e3]) (by simp[m2]) (by simp[m3])
 |succ n ih =>
  intro i hi hf s' e2 e3 m2 m3 e5;have fa:(i:Int)<v.rest.length:=by omega
  have kg:i<v.rest.length:=by omega
  have mg:i<w.rest.length:=by omega
  have hw:=cD (i:=i);have g1:(v.rest.map qN)[i]?=some (qN v.rest[i]):=by simp[kg]
  have g2:(w.rest.map qN)[i]?=some (qN w.rest[i]):=by simp[mg]
  rw[yc kg,yc mg]at hf;simp only[List.cons.injEq]at hf;generalize v.rest[i]=x at *
  generalize w.rest[i]=y at *
  obtain⟨xi,xd⟩:=x;obtain⟨yi,yd⟩:=y;simp only[qN]at g1 g2;simp only[Ea.mk.injEq]at hf;refine EC ?_;by_cases h1:xi=yi
  ·by_cases h2:xd=yd
   ·subst h1 h2;simp[zF,-J,OE,y0,e2,e3,m2,m3,e5,fa,g1,g2,iN,hw];refine ih (i+1) (by omega) (by simpa using hf) _ ?_ ?_ ?_ ?_ ?_<;>simp[*]
   ·subst h1;simp[zF,-J,OE,y0,e2,e3,m2,m3,e5,fa,g1,g2,iN,h2];exact hr _ (fun h=>h2 (hf.2 h).1.2) (by simp)
  ·simp[zF,-J,OE,y0,e2,e3,m2,m3,e5,fa,g1,g2,iN,h1];exact hr _ (fun h=>h1 (hf.2 h).1.1) (by simp)
theorem Jo (l m:List Vl)(hl:l.length<=9223372036854775807)(he:l.length=m.length)(hF:∀x∈l,∀y∈m,IC 36 [.agg (TC x),.agg (TC y)] (.bool (x.same y)))(b1 b2:Bool)(r:RV)(k:Ex->OC->Option RV)(hk:∀s',Vl.fA l m=true->k (.exit 0) s'=some r)(hr:∀s':OC,Vl.fA l m=false->(s'.env 4).v=.bool false->k .ret s'=some r):
  ∀(n i:Nat),i+n=l.length->Vl.fA (l.drop i) (m.drop i)=Vl.fA l m->∀s':OC,(s'.env 0).v=.sl b1 (l.map TC)->(s'.env 1).v=.sl b2 (m.map TC)->(s'.env 5).v=.int .i64 i->OL dD PC CF s' k=some r:=by
 intro n
 induction n with
 |zero =>
  intro i hi hf s' e0 e1 e5;have fa:¬((i:Int)<l.length):=by omega
  refine EC ?_;simp[CF,-J,OE,y0,e0,e5,fa];refine hk _ ?_;rw[<- hf,yf (by omega),yf (by omega),Vl.fA]
 |succ n ih =>
  intro i hi hf s' e0 e1 e5;have fa:(i:Int)<l.length:=by omega
  have kg:i<l.length:=by omega
  have mg:i<m.length:=by omega
  have hw:=cD (i:=i);have g1:(l.map TC)[i]?=some (TC l[i]):=by simp[kg]
  have g2:(m.map TC)[i]?=some (TC m[i]):=by simp[mg]
  have hx:=hF l[i] (y8 _) m[i] (y8 _);rw[yc kg,yc mg,Vl.fA]at hf;generalize l[i]=x at *
  generalize m[i]=y at *
  simp only[IC,nC]at g1 g2 hx;refine EC ?_;cases h1:x.same y with
  |true =>
   rw[h1]at hx hf;simp[CF,-J,OE,y0,e0,e1,e5,fa,g1,g2,qI,hx,hw];refine ih (i+1) (by omega) (by simpa using hf) _ ?_ ?_ ?_<;>simp[*]
  |false =>
   rw[h1]at hx hf;simp[CF,-J,OE,y0,e0,e1,e5,fa,g1,g2,qI,hx];exact hr _ (by simpa using hf.symm) (by simp)
theorem T4 (l m:List Vl)(hl:l.length<=9223372036854775807)(hF:∀x∈l,∀y∈m,IC 36 [.agg (TC x),.agg (TC y)] (.bool (x.same y)))(b1 b2:Bool):IC 35 [.sl b1 (l.map TC),.sl b2 (m.map TC)] (.bool (Vl.fA l m)):=by
 refine mC (c:=HG) rfl rfl ?_;by_cases he:l.length=m.length
 ·simp [HG,-J,OE,y0,he];refine Jo l m hl he hF b1 b2 _ _ (fun s' hf=>?main) (fun s' hf h4=>?main2) l.length 0 (by simp) (by simp) _ ?_ ?_ ?_
  case main=>simp[-J,OE,y0,hf]
  case main2=>simp[-J,OE,y0,hf,h4]
  all_goals simp[he]
 ·have fg:¬ (l.length:Int)=m.length:=by omega
  simp[HG,-J,OE,y0,fg,Vl.WB l m he]
theorem G0:∀(n:Nat)(v w:Vl),SizeOf.sizeOf v<n->v.ok->IC 36 [.agg (TC v),.agg (TC w)] (.bool (v.same w)):=by
 intro n
 induction n with
 |zero=>intro v w h;omega
 |succ n ih =>
  intro v w hn hv;rw[Vl.NA]at hv;obtain⟨o1,o2,o3,o4,o5,o6⟩:=hv;have fj:=T4 v.keys w.keys o1 (fun x hx y _=>ih x y (by have:=Vl.xA v x hx;omega) (o5 x hx)) v.kn w.kn;have kc:=T4 v.items w.items o2 (fun x hx y _=>ih x y (by have:=Vl.jA v x hx;omega) (o6 x hx)) v.xn w.xn;simp only[IC]at fj kc;refine mC (c:=rE) rfl rfl ?_;rw[nC,nC,Vl.fB];by_cases h1:v.kind=w.kind
  ·by_cases h2:v.b=w.b
   ·by_cases h3:v.i=w.i
    ·by_cases h4:v.s=w.s
     ·by_cases h5:v.id=w.id
      ·by_cases he:v.rest.length=w.rest.length
       ·simp [rE,-J,OE,y0,h1,h2,h3,h4,h5,he];refine Pk v w o3 he 1 _ _ (fun s' h6 e2 e3 m2 m3=>?main) (fun s' h6 e4=>?main2) v.rest.length 0 (by simp) (by simp) _ ?_ ?_ ?_ ?_ ?_
        case main =>
         cases h7:Vl.fA v.keys w.keys with
         |true=>rw[h7]at fj;simp[-J,OE,y0,e2,e3,m2,m3,qI,fj,kc,h6]
         |false=>rw[h7]at fj;simp[-J,OE,y0,e2,e3,m2,m3,qI,fj,h6]
        case main2=>simp[-J,OE,y0,e4,h6]
        all_goals simp[h1,h2,h3,h4,h5]
       ·have fg:¬ (v.rest.length:Int)=w.rest.length:=by omega
        have h6:¬v.rest=w.rest:=fun h=>he (by rw[h])
        simp[rE,-J,OE,y0,h1,h2,h3,h4,h5,fg,h6]
      ·simp[rE,-J,OE,y0,h1,h2,h3,h4,h5]
     ·simp[rE,-J,OE,y0,h1,h2,h3,h4]
    ·simp[rE,-J,OE,y0,h1,h2,h3]
   ·simp[rE,-J,OE,y0,h1,h2]
  ·simp[rE,-J,OE,y0,h1]
def RE.same (m m':RE):Bool:=decide (m.id=m'.id)&&decide (m.name=m'.name)&&decide (m.ty=m'.ty)&&(m.EA == m'.EA)&&(m.has == m'.has)&&m.dflt.same m'.dflt
def QE:List RE->List RE->Bool
 | [],[]=>true
 |m::r,m'::r'=>m.same m'&&QE r r'
 | [],_::_=>false
 |_::_,[]=>false
theorem gQ:∀l m:List RE,l.length≠m.length->QE l m=false
 | [],[],h=>absurd rfl h
 | [],_::_,_=>rfl
 |_::_,[],_=>rfl
 |v::r,w::r',h=>by rw[QE,gQ r r' (by simpa using h)];simp
def BC.same (t u:BC):Bool:=decide (t.kind=u.kind)&&decide (t.name=u.name)&&decide (t.low=u.low)&&decide (t.high=u.high)&&decide (t.max=u.max)&&decide (t.key=u.key)&&decide (t.elem=u.elem)&&(t.opn == u.opn)&&decide (t.tA=u.tA)&&QE t.qA u.qA
theorem Nh (m m':RE)(hm:m.ok):IC 247 [.agg (uD m),.agg (uD m')] (.bool (m.same m')):=by
 have hs:=Kt _ m.dflt m'.dflt (Nat.lt_succ_self _) hm.1;simp only[IC,nC]at hs;refine mC (c:=bE) rfl rfl ?_;unfold RE.same uD;by_cases h1:m.id=m'.id
 ·by_cases h2:m.name=m'.name
  ·by_cases h3:m.ty=m'.ty
   ·by_cases h4:m.EA=m'.EA
    ·by_cases h5:m.has=m'.has
     ·simp[bE,-J,OE,y0,h1,h2,h3,h4,h5,hs]
     ·simp[bE,-J,OE,y0,h1,h2,h3,h4,h5]
    ·simp[bE,-J,OE,y0,h1,h2,h3,h4]
   ·simp[bE,-J,OE,y0,h1,h2,h3]
  ·simp[bE,-J,OE,y0,h1,h2]
 ·simp[bE,-J,OE,y0,h1]
theorem Ao (m m':RE)(hm:m.ok):IC 217 [.agg (uD m),.agg (uD m')] (.bool (m.same m')):=by
 have hs:=G0 _ m.dflt m'.dflt (Nat.lt_succ_self _) hm.1;simp only[IC,nC]at hs;refine mC (c:=pE) rfl rfl ?_;unfold RE.same uD;by_cases h1:m.id=m'.id
 ·by_cases h2:m.name=m'.name
  ·by_cases h3:m.ty=m'.ty
   ·by_cases h4:m.EA=m'.EA
    ·by_cases h5:m.has=m'.has
     ·simp[pE,-J,OE,y0,h1,h2,h3,h4,h5,hs]
     ·simp[pE,-J,OE,y0,h1,h2,h3,h4,h5]
    ·simp[pE,-J,OE,y0,h1,h2,h3,h4]
   ·simp[pE,-J,OE,y0,h1,h2,h3]
  ·simp[pE,-J,OE,y0,h1,h2]
 ·simp[pE,-J,OE,y0,h1]
theorem Km (rs qs:List zX)(hl:rs.length<=9223372036854775807)(he:rs.length=qs.length)(b1 b2:Bool)(r:RV)(k:Ex->OC->Option RV)(hk:∀s',rs=qs->k (.exit 0) s'=some r)(hr:∀s':OC,rs≠qs->(s'.env 4).v=.bool false->k .ret s'=some r):
  ∀(n i:Nat),i+n=rs.length->(rs.drop i=qs.drop i↔rs=qs)->∀s':OC,(s'.env 0).v=.sl b1 (rs.map TG)->(s'.env 1).v=.sl b2 (qs.map TG)->(s'.env 12).v=.int .i64 rs.length->(s'.env 13).v=.int .i64 i->OL dD PC SD s' k=some r:=by
 intro n
 induction n with
 |zero =>
  intro i hi hf s' e0 e1 zh jm;have fa:¬((i:Int)<rs.length):=by omega
  refine EC ?_;simp[SD,-J,OE,y0,zh,jm,fa];exact hk _ (hf.1 (by rw[yf (by omega),yf (by omega)]))
 |succ n ih =>
  intro i hi hf s' e0 e1 zh jm;have fa:(i:Int)<rs.length:=by omega
  have kg:i<rs.length:=by omega
  have mg:i<qs.length:=by omega
  have hw:=cD (i:=i);have g1:(rs.map TG)[i]?=some (TG rs[i]):=by simp[kg]
  have g2:(qs.map TG)[i]?=some (TG qs[i]):=by simp[mg]
  rw[yc kg,yc mg]at hf;simp only[List.cons.injEq]at hf;generalize rs[i]=x at *
  generalize qs[i]=y at *
  obtain⟨xi,xd⟩:=x;obtain⟨yi,yd⟩:=y;simp only[TG]at g1 g2;simp only[zX.mk.injEq]at hf;refine EC ?_;by_cases h1:xi=yi
  ·by_cases h2:xd=yd
   ·subst h1 h2;simp[SD,-J,OE,y0,e0,e1,zh,jm,fa,g1,g2,iN,hw];refine ih (i+1) (by omega) (by simpa using hf) _ ?_ ?_ ?_ ?_<;>simp[*]
   ·subst h1;simp[SD,-J,OE,y0,e0,e1,zh,jm,fa,g1,g2,iN,h2];exact hr _ (fun h=>h2 (hf.2 h).1.2) (by simp)
  ·simp[SD,-J,OE,y0,e0,e1,zh,jm,fa,g1,g2,iN,h1];exact hr _ (fun h=>h1 (hf.2 h).1.1) (by simp)
theorem Jm (rs qs:List zX)(hl:rs.length<=9223372036854775807)(b1 b2:Bool):IC 245 [.sl b1 (rs.map TG),.sl b2 (qs.map TG)] (.bool (decide (rs=qs))):=by
 refine mC (c:=ZE) rfl rfl ?_;by_cases he:rs.length=qs.length
 ·simp [ZE,-J,OE,y0,he];refine Km rs qs hl he b1 b2 _ _ (fun s' hf=>?main) (fun s' hf h4=>?main2) rs.length 0 (by simp) (by simp) _ ?_ ?_ ?_ ?_
  case main=>simp[-J,OE,y0,hf]
  case main2=>simp[-J,OE,y0,hf,h4]
  all_goals simp[he]
 ·have fg:¬ (rs.length:Int)=qs.length:=by omega
  have ua:rs≠qs:=fun h=>he (by rw[h])
  simp[ZE,-J,OE,y0,fg,ua]
theorem eqm_lp (l m:List RE)(hl:l.length<=9223372036854775807)(he:l.length=m.length)(hF:∀x∈l,x.ok)(b1 b2:Bool)(r:RV)(k:Ex->OC->Option RV)(hk:∀s',QE l m=true->k (.exit 0) s'=some r)(hr:∀s':OC,QE l m=false->(s'.env 6).v=.bool false->k .ret s'=some r):
  ∀(n i:Nat),i+n=l.length->QE (l.drop i) (m.drop i)=QE l m->∀s':OC,(s'.env 1).v=.sl b2 (m.map uD)->(s'.env 2).v=.fn 247 []->(s'.env 15).v=.sl b1 (l.map uD)->(s'.env 16).v=.int .i64 l.length->(s'.env 17).v=.int .i64 i->OL dD PC HD s' k=some r:=by
 intro n
 induction n with
 |zero =>
  intro i hi hf s' e1 e2 jd lf fk;have fa:¬((i:Int)<l.length):=by omega
  refine EC ?_;simp[HD,-J,OE,y0,lf,fk,fa];refine hk _ ?_;rw[<- hf,yf (by omega),yf (by omega),QE]
 |succ n ih =>
  intro i hi hf s' e1 e2 jd lf fk;have fa:(i:Int)<l.length:=by omega
  have kg:i<l.length:=by omega
  have mg:i<m.length:=by omega
  have hw:=cD (i:=i);have g1:(l.map uD)[i]?=some (uD l[i]):=by simp[kg]
  have g2:(m.map uD)[i]?=some (uD m[i]):=by simp[mg]
  have hx:=Nh l[i] m[i] (hF l[i] (y8 _));rw[yc kg,yc mg,QE]at hf;generalize l[i]=x at *
  generalize m[i]=y at *
  simp only[IC,uD]at g1 g2 hx;refine EC ?_;cases h1:x.same y with
  |true =>
   rw[h1]at hx hf;simp[HD,-J,OE,y0,e1,e2,jd,lf,fk,fa,g1,g2,qI,KF,hx,hw];refine ih (i+1) (by omega) (by simpa using hf) _ ?_ ?_ ?_ ?_ ?_<;>simp[*]
  |false =>
   rw[h1]at hx hf;simp[HD,-J,OE,y0,e1,e2,jd,lf,fk,fa,g1,g2,qI,KF,hx];exact hr _ (by simpa using hf.symm) (by simp)
theorem eqm_ev (l m:List RE)(hl:l.length<=9223372036854775807)(hF:∀x∈l,x.ok)(b1 b2:Bool):IC 246 [.sl b1 (l.map uD),.sl b2 (m.map uD),.fn 247 []] (.bool (QE l m)):=by
 refine mC (c:=tE) rfl rfl ?_;by_cases he:l.length=m.length
 ·simp [tE,-J,OE,y0,he];refine eqm_lp l m hl he hF b1 b2 _ _ (fun s' hf=>?main) (fun s' hf h4=>?main2) l.length 0 (by simp) (by simp) _ ?_ ?_ ?_ ?_ ?_
  case main=>simp[-J,OE,y0,hf]
  case main2=>simp[-J,OE,y0,hf,h4]
  all_goals simp[he]
 ·have fg:¬ (l.length:Int)=m.length:=by omega
  simp[tE,-J,OE,y0,fg,gQ l m he]
theorem Al (t u:BC)(ht:t.ok):IC 205 [.agg (QC t),.agg (QC u)] (.bool (t.same u)):=by
 have hs:=Jm t.tA u.tA ht.1 t.sn u.sn;have hm:=eqm_ev t.qA u.qA ht.2.1 ht.2.2 t.mn u.mn;simp only[IC]at hs hm;refine mC (c:=wE) rfl rfl ?_;unfold BC.same QC;by_cases h1:t.kind=u.kind
 ·by_cases h2:t.name=u.name
  ·by_cases h3:t.low=u.low
   ·by_cases h4:t.high=u.high
    ·by_cases h5:t.max=u.max
     ·by_cases h6:t.key=u.key
      ·by_cases h7:t.elem=u.elem
       ·by_cases h8:t.opn=u.opn
        ·by_cases h9:t.tA=u.tA
         ·rw[decide_eq_true h9]at hs;simp[wE,-J,OE,y0,h1,h2,h3,h4,h5,h6,h7,h8,hs,h9▸hs,h9,qI,KF,hm]
         ·rw[decide_eq_false h9]at hs;simp[wE,-J,OE,y0,h1,h2,h3,h4,h5,h6,h7,h8,hs,h9]
        ·simp[wE,-J,OE,y0,h1,h2,h3,h4,h5,h6,h7,h8]
       ·simp[wE,-J,OE,y0,h1,h2,h3,h4,h5,h6,h7]
      ·simp[wE,-J,OE,y0,h1,h2,h3,h4,h5,h6]
     ·simp[wE,-J,OE,y0,h1,h2,h3,h4,h5]
    ·simp[wE,-J,OE,y0,h1,h2,h3,h4]
   ·simp[wE,-J,OE,y0,h1,h2,h3]
  ·simp[wE,-J,OE,y0,h1,h2]
 ·simp[wE,-J,OE,y0,h1]
abbrev ID (t:BC):List WC:=[⟨.int .i64 t.kind,.no⟩,⟨.str t.name,.no⟩,⟨.int .i64 t.low,.no⟩,⟨.int .i64 t.high,.no⟩,⟨.int .i64 t.max,.no⟩,⟨.sl t.sn (t.tA.map TG),.no⟩,⟨.sl t.mn (t.qA.map uD),.no⟩,⟨.int .i64 t.key,.no⟩,⟨.int .i64 t.elem,.no⟩,⟨.bool t.opn,.no⟩]
theorem Ak (v w:BC)(hl:v.tA.length<=9223372036854775807)(he:v.tA.length=w.tA.length)(m:Nat)(r:RV)(k:Ex->OC->Option RV)
  (hk:∀s':OC,v.tA=w.tA->(s'.env 2).v=.ptr 2 m 0->(s'.env 3).v=.ptr 3 m 0->s'.mem 2 m=some (ID v)->s'.mem 3 m=some (ID w)->k (.exit 0) s'=some r) (hr:∀s':OC,v.tA≠w.tA->(s'.env 4).v=.bool false->k .ret s'=some r) :
  ∀(n i:Nat),i+n=v.tA.length->(v.tA.drop i=w.tA.drop i↔v.tA=w.tA)->∀s':OC,(s'.env 2).v=.ptr 2 m 0->(s'.env 3).v=.ptr 3 m 0->s'.mem 2 m=some (ID v)->s'.mem 3 m=some (ID w)->(s'.env 5).v=.int .i64 i->OL dD PC DF s' k=some r:=by
 intro n
 induction n with
 |zero =>
  intro i hi hf s' e2 e3 m2 m3 e5;have fa:¬((i:Int)<v.tA.length):=by omega
  refine EC ?_;simp[DF,-J,OE,y0,e2,e3,m2,m3,e5,fa];exact hk _ (hf.1 (by rw[yf (by omega),yf (by omega)])) (by simp[e2]) (by simp[e3]) (by simp[m2]) (by simp[m3])
 |succ n ih =>
  intro i hi hf s' e2 e3 m2 m3 e5;have fa:(i:Int)<v.tA.length:=by omega
  have kg:i<v.tA.length:=by omega
  have mg:i<w.tA.length:=by omega
  have hw:=cD (i:=i);have g1:(v.tA.map TG)[i]?=some (TG v.tA[i]):=by simp[kg]
  have g2:(w.tA.map TG)[i]?=some (TG w.tA[i]):=by simp[mg]
  rw[yc kg,yc mg]at hf;simp only[List.cons.injEq]at hf;generalize v.tA[i]=x at *
  generalize w.tA[i]=y at *
  obtain⟨xi,xd⟩:=x;obtain⟨yi,yd⟩:=y;simp only[TG]at g1 g2;simp only[zX.mk.injEq]at hf;refine EC ?_;by_cases h1:xi=yi
  ·by_cases h2:xd=yd
   ·subst h1 h2;simp[DF,-J,OE,y0,e2,e3,m2,m3,e5,fa,g1,g2,iN,hw];refine ih (i+1) (by omega) (by simpa using hf) _ ?_ ?_ ?_ ?_ ?_<;>simp[*]
   ·subst h1;simp[DF,-J,OE,y0,e2,e3,m2,m3,e5,fa,g1,g2,iN,h2];exact hr _ (fun h=>h2 (hf.2 h).1.2) (by simp)
  ·simp[DF,-J,OE,y0,e2,e3,m2,m3,e5,fa,g1,g2,iN,h1];exact hr _ (fun h=>h1 (hf.2 h).1.1) (by simp)
theorem Tk (v w:BC)(hl:v.qA.length<=9223372036854775807)(hF:∀x∈v.qA,x.ok)(he:v.qA.length=w.qA.length)(m:Nat)(r:RV)(k:Ex->OC->Option RV)
  (hk:∀s':OC,QE v.qA w.qA=true->k (.exit 2) s'=some r) (hr:∀s':OC,QE v.qA w.qA=false->(s'.env 4).v=.bool false->k .ret s'=some r) :
  ∀(n i:Nat),i+n=v.qA.length->QE (v.qA.drop i) (w.qA.drop i)=QE v.qA w.qA->∀s':OC,(s'.env 2).v=.ptr 2 m 0->(s'.env 3).v=.ptr 3 m 0->s'.mem 2 m=some (ID v)->s'.mem 3 m=some (ID w)->(s'.env 6).v=.int .i64 i->OL dD PC WG s' k=some r:=by
 intro n
 induction n with
 |zero =>
  intro i hi hf s' e2 e3 m2 m3 e6;have fa:¬((i:Int)<v.qA.length):=by omega
  refine EC ?_;simp[WG,-J,OE,y0,e2,e3,m2,m3,e6,fa];refine hk _ ?_;rw[<- hf,yf (by omega),yf (by omega),QE]
 |succ n ih =>
  intro i hi hf s' e2 e3 m2 m3 e6;have fa:(i:Int)<v.qA.length:=by omega
  have kg:i<v.qA.length:=by omega
  have mg:i<w.qA.length:=by omega
  have hw:=cD (i:=i);have g1:(v.qA.map uD)[i]?=some (uD v.qA[i]):=by simp[kg]
  have g2:(w.qA.map uD)[i]?=some (uD w.qA[i]):=by simp[mg]
  have hx:=Ao v.qA[i] w.qA[i] (hF _ (y8 _));rw[yc kg,yc mg,QE]at hf;generalize v.qA[i]=x at *
  generalize w.qA[i]=y at *
  simp only[IC,uD]at g1 g2 hx;refine EC ?_;cases h1:x.same y with
  |true =>
   rw[h1]at hx hf;simp[WG,-J,OE,y0,e2,e3,m2,m3,e6,fa,g1,g2,qI,hx,hw];refine ih (i+1) (by omega) (by simpa using hf) _ ?_ ?_ ?_ ?_ ?_<;>simp[*]
  |false =>
   rw[h1]at hx hf;simp[WG,-J,OE,y0,e2,e3,m2,m3,e6,fa,g1,g2,qI,hx];exact hr _ (by simpa using hf.symm) (by simp)
theorem Ko (t u:BC)(ht:t.ok):IC 156 [.agg (QC t),.agg (QC u)] (.bool (t.same u)):=by
 refine mC (c:=bD) rfl rfl ?_;unfold BC.same QC;by_cases h1:t.kind=u.kind
 ·by_cases h2:t.name=u.name
  ·by_cases h3:t.low=u.low
   ·by_cases h4:t.high=u.high
    ·by_cases h5:t.max=u.max
     ·by_cases h6:t.key=u.key
      ·by_cases h7:t.elem=u.elem
       ·by_cases h8:t.opn=u.opn
        ·by_cases h9:t.tA.length=u.tA.length
         ·by_cases tw:t.qA.length=u.qA.length
          ·simp [bD,-J,OE,y0,h1,h2,h3,h4,h5,h6,h7,h8,h9,tw];refine Ak t u ht.1 h9 1 _ _ (fun s' iq e2 e3 m2 m3=>?main) (fun s' iq e4=>?main2) t.tA.length 0 (by simp) (by simp) _ ?_ ?_ ?_ ?_ ?_
           case main =>
            simp[-J,OE,y0,iq];refine Tk t u ht.2.1 ht.2.2 tw 1 _ _ (fun s' h12=>?a) (fun s' h12 e4=>?b) t.qA.length 0 (by simp) (by simp) _ ?_ ?_ ?_ ?_ ?_
            case a=>simp[-J,OE,y0,h12]
            case b=>simp[-J,OE,y0,h12,e4]
            all_goals simp[e2,e3,m2,m3]
           case main2=>simp[-J,OE,y0,iq,e4]
           all_goals simp[h1,h2,h3,h4,h5,h6,h7,h8]
          ·have h10':¬ (t.qA.length:Int)=u.qA.length:=by omega
           simp[bD,-J,OE,y0,h1,h2,h3,h4,h5,h6,h7,h8,h9,h10',gQ _ _ tw]
         ·have h9':¬ (t.tA.length:Int)=u.tA.length:=by omega
          have iq:¬t.tA=u.tA:=fun h=>h9 (by rw[h])
          simp[bD,-J,OE,y0,h1,h2,h3,h4,h5,h6,h7,h8,h9',iq]
        ·simp[bD,-J,OE,y0,h1,h2,h3,h4,h5,h6,h7,h8]
       ·simp[bD,-J,OE,y0,h1,h2,h3,h4,h5,h6,h7]
      ·simp[bD,-J,OE,y0,h1,h2,h3,h4,h5,h6]
     ·simp[bD,-J,OE,y0,h1,h2,h3,h4,h5]
    ·simp[bD,-J,OE,y0,h1,h2,h3,h4]
   ·simp[bD,-J,OE,y0,h1,h2,h3]
  ·simp[bD,-J,OE,y0,h1,h2]
 ·simp[bD,-J,OE,y0,h1]
theorem anN_t (a:An):OE true a=.ex:=rfl
theorem anN_f (a:An):OE false a=a:=rfl
theorem anN_ex (b:Bool):OE b .ex=.ex:=by cases b<;>rfl
attribute [simp] anN_t anN_f anN_ex
theorem ZC {b:C}{r:RV}(n:Nat)(I:Nat->OC->Prop)(E:Ex->OC->Prop)
  (step:∀i,i<=n->∀s k,I i s->(i<n->∀s',I (i+1) s'->OL dD PC b s' k=some r)->(∀e s',E e s'->k e s'=some r)->OL dD PC b s k=some r)
  (s:OC) (k:Ex->OC->Option RV) (h:I 0 s) (hk:∀e s',E e s'->k e s'=some r):OL dD PC b s k=some r:=by
 have:∀m i,i+m=n->∀s,I i s->OL dD PC b s k=some r:=by
  intro m
  induction m with
  |zero=>intro i hi s h;exact step i (by omega) s k h (fun fa=>absurd fa (by omega)) hk
  |succ m ih=>intro i hi s h;exact step i (by omega) s k h (fun _ s' h'=>ih (i+1) (by omega) s' h') hk
 exact this n 0 (by omega) s h
instance memStr (s:ByteArray)(l:List ByteArray):Decidable (s∈l):=@List.instDecidableMemOfLawfulBEq _ instBEqOfDecidableEq _ s l
def lT (s:ByteArray)(l:List ByteArray):Bool:=decide (s∈l)
theorem bU {s:ByteArray}{l:List ByteArray}(h:s∈l):lT s l=true:=decide_eq_true h
theorem ZY {s:ByteArray}{l:List ByteArray}(h:¬s∈l):lT s l=false:=decide_eq_false h
def nU (b n:Int):Bool:=decide (b<n)&&decide (1<=n)&&decide (n<=1000)
def jF:Int->List ByteArray->List (Int×ByteArray)->Bool
 |_,_,[]=>true
 |b,seen,(n,s)::r=>nU b n&&!lT s seen&&aJ s&&jF n (seen++[s]) r
def R5 (x:Int×ByteArray):List AV:=[.int .i64 x.1]
def Mr (x:Int×ByteArray):List AV:=[.str x.2]
def FK (s:ByteArray):List AV:=[.str s,.bool true]
theorem J0 (s:ByteArray):∀l:List ByteArray,uM (l.map FK) (.str s)=if s∈l then some (AV.bool true)else none
 | []=>rfl
 |x::r=>by
  simp only[yk,FK,uM,uT];by_cases h:x=s
  ·simp[h]
  ·have h':¬ s=x:=fun e=>h e.symm
   have:=J0 s r;simp[h,h',this]
theorem K0 (s:ByteArray):∀l:List ByteArray,¬s∈l->EK (l.map FK) (.str s) (.bool true)=(l++[s]).map FK
 | [],_=>rfl
 |x::r,hn=>by
  have h:¬x=s:=fun e=>hn (by simp[e])
  have:=K0 s r fun e=>hn (by simp[e])
  simp[FK,EK,uT,h,this]
theorem z6:∀l:List ByteArray,uP .none (l.map FK)=true
 | []=>rfl
 |x::r=>by
  have:=z6 r;simp only[uP]at this;simp[uP,FK,PK,AV.flat,AV.TA]
def dG (l:List (Int×ByteArray)):Nat->Int
 |0=>0
 |i+1=>match l[i]? with
  |some x=>x.1
  |none=>0
theorem Cg (l:List (Int×ByteArray))(hl:l.length<=9223372036854775807)(b1 b2:Bool):IC 243 [.sl b1 (l.map R5),.sl b2 (l.map Mr)] (.bool (jF 0 [] l&&decide (l.length<=16))):=by
 refine mC (c:=nN) rfl rfl ?_;simp[nN,-J,-y4,-y3,y0];refine ZC l.length (fun i s=>(s.env 0).v=.sl b1 (l.map R5)/\(s.env 1).v=.sl b2 (l.map Mr)/\(s.env 5).v=.mp 8 2/\(s.env 9).v=.sl b1 (l.map R5)/\(s.env 10).v=.int .i64 l.length/\(s.env 11).v=.int .i64 i/\s.obj 8 2=some (fJ (((l.take i).map (·.2)).map FK))/\jF (dG l i) ((l.take i).map (·.2)) (l.drop i)=jF 0 [] l)
  (fun e s=>(e=.exit 0/\jF 0 [] l=true/\(s.env 0).v=.sl b1 (l.map R5))\/(e=.ret/\jF 0 [] l=false/\(s.env 4).v=.bool false)) (fun i hi s k h ih hk=>?_) _ _ ?_ (fun e s h=>?_)
 ·obtain ⟨e0,e1,e5,e9,e10,e11,o,hs⟩:=h;refine EC ?_;by_cases fa:i<l.length
  ·have ga:(i:Int)<l.length:=by omega
   have g1:(l.map R5)[i]?=some (R5 l[i]):=by simp[fa]
   have g2:(l.map Mr)[i]?=some (Mr l[i]):=by simp[fa]
   have hw:=cD (i:=i);have ht:l.take (i+1)=l.take i++[l[i]]:=(yx fa).symm;have hp:dG l (i+1)=l[i].1:=by simp[dG,fa]
   have hn:=Br l[i].2;rw[yc fa,jF]at hs;generalize hx:l[i]=x at *
   generalize hsn:(l.take i).map (·.2)=seen at *
   have hg:=J0 x.2 seen;have mt:=z6 seen;simp only[R5,Mr]at g1 g2;have hprev:(0<(i:Int)->∃p,(l.map R5)[i-1]?=some [.int .i64 p]/\dG l i=p):=fun h0=>by
    obtain⟨j,rfl⟩:∃j,i=j+1:=⟨i-1,by omega⟩;exact⟨l[j].1,by simp[R5,show j<l.length from by omega],by simp[dG,show j<l.length from by omega]⟩
   have fail:∀s',(s'.env 4).v=.bool false->(nU (dG l i) x.1&&!lT x.2 seen&&aJ x.2)=false->k .ret s'=some (.bool (jF 0 [] l&&decide (l.length<=16)),none):=fun s' h4 hf=>hk _ _ (.inr ⟨rfl,by rw[<- hs,hf];rfl,h4⟩)
   obtain⟨z,hz⟩:∃z:Int,z=i:=⟨_,rfl⟩;have jg:0<=z:=by omega
   have hzt:z.toNat=i:=by omega
   have ph:z<l.length:=by omega
   have zk:IntKind.i64.wrap (z+1)=((i+1:Nat):Int):=by rw[hz];exact hw
   rw[<- hz]at e11;rw[<- hzt]at g1 g2;by_cases c1:x.1<1
   ·simp[AD,-J,-y4,-y3,y0,e0,e1,e5,e9,e10,e11,ph,jg,g1,c1];exact fail _ (by simp) (by simp[nU,show ¬1<=x.1 from by omega])
   by_cases c2:1000<x.1
   ·simp[AD,-J,-y4,-y3,y0,e0,e1,e5,e9,e10,e11,ph,jg,g1,c1,c2];exact fail _ (by simp) (by simp[nU,show ¬x.1<=1000 from by omega])
   have rest:(¬0<z\/∃y p,0<z/\IntKind.i64.wrap (z-1)=y/\0<=y/\(l.map R5)[y.toNat]?=some [.int .i64 p]/\¬x.1<=p)->dG l i<x.1->AD.run (jU dD PC) (Hu dD PC) s (XN (OL dD PC) AD k)=some (.bool (jF 0 [] l&&decide (l.length<=16)),none):=by
    intro h0 hlast;by_cases c5:x.2∈seen
    ·rw [if_pos c5] at hg;rcases h0 with c3 | ⟨y,p,c3,hy,tg,sj,hp3⟩
     ·simp[AD,-J,-y4,-y3,y0,e0,e1,e5,e9,e10,e11,ph,jg,g1,g2,c1,c2,c3,o,bL,mt,PK,AV.flat,AV.TA,hg];exact fail _ (by simp) (by simp[bU c5])
     ·simp[AD,-J,-y4,-y3,y0,e0,e1,e5,e9,e10,e11,ph,jg,g1,g2,c1,c2,c3,hy,tg,sj,hp3,o,bL,mt,PK,AV.flat,AV.TA,hg];exact fail _ (by simp) (by simp[bU c5])
    ·rw [if_neg c5] at hg;have tb:=K0 x.2 seen c5;cases c6:aJ x.2 with
     |false =>
      rw[c6]at hn;rcases h0 with c3|⟨y,p,c3,hy,tg,sj,hp3⟩
      ·simp[AD,-J,-y4,-y3,y0,e0,e1,e5,e9,e10,e11,ph,jg,g1,g2,c1,c2,c3,o,bL,mt,PK,AV.flat,AV.TA,hg,hn];exact fail _ (by simp) (by simp[c6])
      ·simp[AD,-J,-y4,-y3,y0,e0,e1,e5,e9,e10,e11,ph,jg,g1,g2,c1,c2,c3,hy,tg,sj,hp3,o,bL,mt,PK,AV.flat,AV.TA,hg,hn];exact fail _ (by simp) (by simp[c6])
     |true =>
      rw[c6]at hn;have uj:jF x.1 (seen++[x.2]) (l.drop (i+1))=jF 0 [] l:=by rw[<- hs];simp[nU,ZY c5,c6,hlast,show 1<=x.1 from by omega,show x.1<=1000 from by omega]
      rcases h0 with c3|⟨y,p,c3,hy,tg,sj,hp3⟩
      ·simp[AD,-J,-y4,-y3,y0,e0,e1,e5,e9,e10,e11,ph,jg,g1,g2,c1,c2,c3,o,bL,mt,PK,AV.flat,AV.TA,hg,hn,tb,zk];refine ih fa _ ⟨?_,?_,?_,?_,?_,?_,?_,?_⟩<;>simp[ht,hsn,hp,uj,e0,e1,e5,e9,e10]
      ·simp[AD,-J,-y4,-y3,y0,e0,e1,e5,e9,e10,e11,ph,jg,g1,g2,c1,c2,c3,hy,tg,sj,hp3,o,bL,mt,PK,AV.flat,AV.TA,hg,hn,tb,zk];refine ih fa _ ⟨?_,?_,?_,?_,?_,?_,?_,?_⟩<;>simp[ht,hsn,hp,uj,e0,e1,e5,e9,e10]
   by_cases c3:0<(i:Int)
   ·obtain ⟨p,hp1,sj⟩:=hprev c3;have c3z:0<z:=by omega
    have tp:IntKind.i64.wrap (z-1)=((i-1:Nat):Int):=by rw[IntWalk.i64_in _ (by omega)];omega
    obtain⟨y,hy⟩:∃y:Int,y=((i-1:Nat):Int):=⟨_,rfl⟩;have tg:0<=y:=by omega
    rw[<- hy]at tp;rw[show i-1=y.toNat from by omega]at hp1;by_cases c4:x.1<=p
    ·simp[AD,-J,-y4,-y3,y0,e0,e1,e5,e9,e10,e11,ph,jg,g1,c1,c2,c3z,tp,tg,hp1,c4];exact fail _ (by simp) (by simp[nU,sj,show ¬p<x.1 from by omega])
    ·exact rest (.inr ⟨y,p,c3z,tp,tg,hp1,c4⟩) (by rw[sj];omega)
   ·have h0:i=0:=by omega
    subst h0;exact rest (.inl (by omega)) (by simp only[dG];omega)
  ·have ga:¬ (i:Int)<l.length:=by omega
   simp[AD,-J,-y4,-y3,y0,e10,e11,ga];refine hk _ _ (.inl ⟨rfl,?_,by simp[e0]⟩);rw[<- hs,yf (by omega),jF]
 ·simp[fJ,dG]
 ·rcases h with ⟨rfl,h1,h2⟩ | ⟨rfl,h1,h2⟩ <;> simp [-J,-y4,-y3,y0,h1,h2]
  omega
def uK (x:zX):Int×ByteArray:=(x.id,x.name)
def AI (x:RE):Int×ByteArray:=(x.id,x.name)
def jP (l:List zX):Bool:=decide (0<l.length)&&(jF 0 [] (l.map uK)&&decide (l.length<=16))
theorem Tw (l:List zX)(hl:l.length<=8796093022206)(b:Bool):IC 203 [.sl b (l.map TG)] (.bool (jP l)):=by
 refine mC (c:=UJ) rfl rfl ?_;have uo:=fun b1 b2=>Cg (l.map uK) (by simp;omega) b1 b2
 simp only[IC]at uo;simp[UJ,-J,-y4,-y3,y0];refine ZC l.length (fun i s=>(s.env 0).v=.sl b (l.map TG)/\(s.env 7).v=.sl b (l.map TG)/\(s.env 8).v=.int .i64 l.length/\(s.env 9).v=.int .i64 i/\(s.env 3).v=.sl (l.take i).isEmpty (((l.take i).map uK).map R5)/\(s.env 4).v=.sl (l.take i).isEmpty (((l.take i).map uK).map Mr)/\((s.env 3).a=.ex/\(s.env 4).a=.ex\/(l.take i).isEmpty=false/\(s.env 3).a=.own 17 3/\(s.env 4).a=.own 22 9))
  (fun e s=>e=.exit 0/\(s.env 0).v=.sl b (l.map TG)/\(s.env 3).v=.sl l.isEmpty ((l.map uK).map R5)/\(s.env 4).v=.sl l.isEmpty ((l.map uK).map Mr)) (fun i hi s k h ih hk=>?_) _ _ ?_ (fun e s h=>?_)
 ·obtain ⟨e0,e7,e8,e9,e3,e4,an⟩:=h;refine EC ?_;by_cases fa:i<l.length
  ·have ga:(i:Int)<l.length:=by omega
   have g1:(l.map TG)[i]?=some (TG l[i]):=by simp[fa]
   have hw:=cD (i:=i);have ht:l.take (i+1)=l.take i++[l[i]]:=(yx fa).symm;generalize l[i]=x at *
   simp only[TG]at g1;have ja:(l.take i).length=i:=by simp;omega
   generalize l.take i=t at *
   have sh:aE 8 (t.length+1)=true:=by rw[UD];omega
   have mi:aE 16 (t.length+1)=true:=by rw[UD];omega
   have q1:PD 1 ((t.map uK).map R5)=true:=rG _ _ _ fun _=>rfl
   have q2:PD 1 ((t.map uK).map Mr)=true:=rG _ _ _ fun _=>rfl
   rcases an with⟨a3,a4⟩|⟨a0,a3,a4⟩
   ·simp[RH,-J,-y4,-y3,y0,e0,e7,e8,e9,e3,e4,a3,a4,ga,g1,hw,sh,mi,q1,q2];refine ih fa _ ⟨?_,?_,?_,?_,?_,?_,?_⟩<;>simp[ht,e0,e7,e8,R5,Mr,uK]
   ·simp[RH,-J,-y4,-y3,y0,e0,e7,e8,e9,e3,e4,a0,a3,a4,ga,g1,hw,sh,mi,q1,q2];refine ih fa _ ⟨?_,?_,?_,?_,?_,?_,?_⟩<;>simp[ht,e0,e7,e8,R5,Mr,uK]
  ·have ga:¬ (i:Int)<l.length:=by omega
   simp[RH,-J,-y4,-y3,y0,e8,e9,ga];rw[yB (by omega)]at e3 e4;exact hk _ _ ⟨rfl,by simp[e0],by simp[e3],by simp[e4]⟩
 ·simp
 ·obtain ⟨rfl,e0,e3,e4⟩:=h;unfold jP;by_cases h0:0<l.length
  ·have cf:(0:Int)<l.length:=by omega
   simp[-J,-y4,-y3,y0,e0,e3,e4,h0,cf,uo]
  ·have cf:¬ (0:Int)<l.length:=by omega
   simp[-J,-y4,-y3,y0,e0,e3,e4,h0,cf]
theorem Rk (b n:Int):IC 220 [.int .i64 b,.int .i64 n] (.bool (nU b n)):=by
 refine mC (c:=qQ) rfl rfl ?_;unfold nU;by_cases h1:b<n<;>by_cases h2:1<=n<;>simp[qQ,-J,-y4,-y3,y0,h1,h2]
theorem Z8 (l:List zX)(hl:l.length<=8796093022206)(b:Bool):IC 159 [.sl b (l.map TG)] (.bool (jP l)):=by
 refine mC (c:=lK) rfl rfl ?_;simp[lK,-J,-y4,-y3,y0];have g0:∀j,j<l.length->∃x,l[j]?=some x:=fun j hj=>⟨l[j],by simp[hj]⟩
 refine ZC l.length (fun i s=>(s.env 0).v=.sl b (l.map TG)/\(s.env 3).v=.int .i64 (dG (l.map uK) i)/\(s.env 4).v=.int .i64 i/\jF (dG (l.map uK) i) ((l.map uK).take i |>.map (·.2)) ((l.map uK).drop i)=jF 0 [] (l.map uK))
  (fun e s=>(e=.exit 0/\jF 0 [] (l.map uK)=true/\(s.env 0).v=.sl b (l.map TG))\/(e=.ret/\jF 0 [] (l.map uK)=false/\(s.env 2).v=.bool false)) (fun i hi s k h ih hk=>?_) _ _ ?_ (fun e s h=>?_)
 ·obtain ⟨e0,e3,e4,hs⟩:=h;refine EC ?_;by_cases fa:i<l.length
  ·have ga:(i:Int)<l.length:=by omega
   have g1:(l.map TG)[i]?=some (TG l[i]):=by simp[fa]
   have hw:=cD (i:=i);have sd:i<(l.map uK).length:=by simpa using fa
   have hp:dG (l.map uK) (i+1)=l[i].id:=by simp[dG,fa,uK]
   have hn:=O0 l[i].name;have MQ:=Rk (dG (l.map uK) i) l[i].id;have fh:(l.map uK)[i]=uK l[i]:=by simp
   have ht:((l.map uK).take (i+1)).map (·.2)=((l.map uK).take i).map (·.2)++[l[i].name]:=by rw[<- yx sd,fh];simp[uK]
   rw[yc sd,fh]at hs;obtain⟨x,hx⟩:∃x,x=l[i]:=⟨_,rfl⟩;rw[<- hx]at g1 hp hn MQ ht hs;simp only[uK,jF]at hs;have fail:∀s',(s'.env 2).v=.bool false->(nU (dG (l.map uK) i) x.id&&!lT x.name (((l.map uK).take i).map (·.2))&&aJ x.name)=false->k .ret s'=some (.bool (jP l),none):=fun s' h4 hf=>hk _ _ (.inr ⟨rfl,by rw[<- hs,hf];rfl,h4⟩)
   simp only[IC]at hn MQ;simp only[TG]at g1;cases c1:nU (dG (l.map uK) i) x.id with
   |false =>
    rw[c1]at MQ;simp[KG,-J,-y4,-y3,y0,e0,e3,e4,ga,g1,MQ];exact fail _ (by simp) (by simp[c1])
   |true =>
    rw[c1]at MQ;cases c2:aJ x.name with
    |false =>
     rw[c2]at hn;simp[KG,-J,-y4,-y3,y0,e0,e3,e4,ga,g1,MQ,hn];exact fail _ (by simp) (by simp[c2])
    |true =>
     rw[c2]at hn;simp[KG,-J,-y4,-y3,y0,e0,e3,e4,ga,g1,MQ,hn];have rk:((l.map uK).take i).map (·.2)=(l.take i).map zX.name:=by simp[<- List.map_take,uK,Function.comp_def]
     refine ZC i (fun j s=>(s.env 0).v=.sl b (l.map TG)/\(s.env 4).v=.int .i64 i/\(s.env 5).v=.int .i64 j/\¬x.name∈(l.take j).map zX.name)
      (fun e s=>(e=.exit 2/\¬x.name∈(l.take i).map zX.name/\(s.env 0).v=.sl b (l.map TG)/\(s.env 4).v=.int .i64 i)\/(e=.ret/\x.name∈(l.take i).map zX.name/\(s.env 2).v=.bool false)) (fun j hj s k' h gw jc=>?_) _ _ ?_ (fun e s h=>?_)
     ·obtain ⟨e0,e4,e5,hm⟩:=h;refine EC ?_;by_cases hji:j<i
      ·have ej:(j:Int)<i:=by omega
       have g2:(l.map TG)[j]?=some (TG l[j]):=by simp[show j<l.length from by omega]
       have hwj:=cD (i:=j);have htj:l.take (j+1)=l.take j++[l[j]]:=(yx (by omega)).symm;simp only[TG]at g2;by_cases rf:l[j].name=x.name
       ·simp[iI,-J,-y4,-y3,y0,e0,e4,e5,ej,g1,g2,rf];refine jc _ _ (.inr ⟨rfl,?_,by simp⟩);rw[<- rf];exact List.mem_map_of_mem (List.mem_take_iff_getElem.2 ⟨j,by omega,rfl⟩)
       ·simp [iI,-J,-y4,-y3,y0,e0,e4,e5,ej,g1,g2,rf,hwj];refine gw hji _ ⟨?_,?_,?_,?_⟩
        ·simp[e0]
        ·simp[e4]
        ·simp
        ·rw [htj,List.map_append,yD];rintro (h | h)
         ·exact hm h
         ·simp at h;exact rf h.symm
      ·have ej:¬ (j:Int)<i:=by omega
       have xu:j=i:=by omega
       simp[iI,-J,-y4,-y3,y0,e4,e5,ej];exact jc _ _ (.inl ⟨rfl,xu▸hm,by simp[e0],by simp[e4]⟩)
     ·simp[e0,e4]
     ·rcases h with ⟨rfl,h1,e0,e4⟩ | ⟨rfl,h1,e2⟩
      ·simp [-J,-y4,-y3,y0,e0,e4,g1,hw];refine ih fa _ ⟨?_,?_,?_,?_⟩
       ·simp[e0]
       ·simp[hp]
       ·simp
       ·rw[hp,ht,<- hs,c1,c2,rk,ZY h1];rfl
      ·simp[-J,-y4,-y3,y0];exact fail _ e2 (by rw[rk,bU h1];simp)
  ·have ga:¬ (i:Int)<l.length:=by omega
   simp[KG,-J,-y4,-y3,y0,e0,e4,ga];refine hk _ _ (.inl ⟨rfl,?_,by simp[e0]⟩);rw[<- hs,yf (by simp;omega),jF]
 ·simp[dG]
 ·unfold jP;rcases h with ⟨rfl,h1,e0⟩ | ⟨rfl,h1,e2⟩
  ·by_cases h0:0<l.length
   ·have cf:(1:Int)<=l.length:=by omega
    simp[-J,-y4,-y3,y0,e0,h0,cf,h1];omega
   ·have cf:¬ (1:Int)<=l.length:=by omega
    simp[-J,-y4,-y3,y0,e0,h0,cf,h1]
  ·simp[-J,-y4,-y3,y0,h1,e2]
theorem Ed (v:Vl)(hv:v.ok):IC 244 [.agg (TC v)] (.bool (v.same Vl.zero)):=by
 have h:=Kt _ v Vl.zero (Nat.lt_succ_self _) hv;refine mC (c:=jL) rfl rfl ?_;simp only[IC,nC,Vl.zero,Vl.kind,Vl.b,Vl.i,Vl.s,Vl.id,Vl.kn,Vl.keys,Vl.xn,Vl.items,Vl.rn,Vl.rest,yq]at h ⊢;simp[jL,-J,-y4,-y3,y0,h]
theorem Uo (v:Vl)(hv:v.ok):IC 36 [.agg (TC v),.agg [.int .i64 0,.bool false,.int .i64 0,.str ⟨#[]⟩,.int .i64 0,.sl true [],.sl true [],.sl true []]] (.bool (v.same Vl.zero)):=by
 have h:=G0 _ v Vl.zero (Nat.lt_succ_self _) hv;simp only[IC,nC,Vl.zero,Vl.kind,Vl.b,Vl.i,Vl.s,Vl.id,Vl.kn,Vl.keys,Vl.xn,Vl.items,Vl.rn,Vl.rest,yq]at h ⊢;exact h
def UE (rec:Bool)(m:RE):Bool:=!(!rec&&(m.EA||m.has))&&!(m.EA&&m.has)&&(m.has||m.dflt.same Vl.zero)
def nL (rec:Bool)(l:List RE):Bool:=l.all (UE rec)&&((rec||decide (0<l.length))&&(jF 0 [] (l.map AI)&&decide (l.length<=16)))
theorem Aq (t:BC)(ht:t.ok)(hl:t.qA.length<=8796093022206)(hk:t.kind=5\/t.kind=6):IC 204 [.agg (QC t)] (.bool (nL (decide (t.kind=5)) t.qA)):=by
 obtain⟨rc,hrc⟩:∃rc,rc=decide (t.kind=5):=⟨_,rfl⟩;have hk:t.kind=5/\rc=true\/t.kind=6/\rc=false:=by
  rcases hk with h|h
  ·exact .inl ⟨h,by rw[hrc,h];rfl⟩
  ·exact .inr ⟨h,by rw[hrc,h];rfl⟩
 rw[<- hrc];clear hrc;refine mC (c:=TJ) rfl rfl ?_;have uo:=fun b1 b2=>Cg (t.qA.map AI) (by simp;omega) b1 b2
 simp only[IC]at uo;simp[TJ,-J,-y4,-y3,y0,QC];refine ZC t.qA.length (fun i s=>(s.env 1).v=.ptr 1 1 0/\s.mem 1 1=some (ID t)/\(s.env 8).v=.sl t.mn (t.qA.map uD)/\(s.env 9).v=.int .i64 t.qA.length/\(s.env 10).v=.int .i64 i/\(s.env 3).v=.sl (t.qA.take i).isEmpty (((t.qA.take i).map AI).map R5)/\(s.env 4).v=.sl (t.qA.take i).isEmpty (((t.qA.take i).map AI).map Mr)/\((t.qA.take i).isEmpty=(t.qA.take i).isEmpty/\(s.env 3).a=.ex/\(s.env 4).a=.ex\/(t.qA.take i).isEmpty=false/\(s.env 3).a=.own 18 3/\(s.env 4).a=.own 23 9)/\(t.qA.drop i).all (UE rc)=t.qA.all (UE rc))
  (fun e s=>(e=.exit 0/\t.qA.all (UE rc)=true/\(s.env 1).v=.ptr 1 1 0/\s.mem 1 1=some (ID t)/\(s.env 3).v=.sl t.qA.isEmpty ((t.qA.map AI).map R5)/\(s.env 4).v=.sl t.qA.isEmpty ((t.qA.map AI).map Mr))\/(e=.ret/\t.qA.all (UE rc)=false/\(s.env 2).v=.bool false)) (fun i hi s k h ih jc=>?_) _ _ ?_ (fun e s h=>?_)
 ·obtain ⟨e1,m1,e8,e9,e10,e3,e4,an,hs⟩:=h;refine EC ?_;by_cases fa:i<t.qA.length
  ·have ga:(i:Int)<t.qA.length:=by omega
   have g1:(t.qA.map uD)[i]?=some (uD t.qA[i]):=by simp[fa]
   have hw:=cD (i:=i);have htk:t.qA.take (i+1)=t.qA.take i++[t.qA[i]]:=(yx fa).symm;have lj:=Ed t.qA[i].dflt (ht.2.2 _ (y8 _)).1;rw[yc fa,List.all_cons]at hs;generalize t.qA[i]=x at *
   simp only[uD]at g1;simp only[IC,nC]at lj;have ja:(t.qA.take i).length=i:=by simp;omega
   generalize hq:t.qA.take i=q at *
   have sh:aE 8 (q.length+1)=true:=by rw[UD];omega
   have mi:aE 16 (q.length+1)=true:=by rw[UD];omega
   have q1:PD 1 ((q.map AI).map R5)=true:=rG _ _ _ fun _=>rfl
   have q2:PD 1 ((q.map AI).map Mr)=true:=rG _ _ _ fun _=>rfl
   have fail:∀s',(s'.env 2).v=.bool false->UE rc x=false->k .ret s'=some (.bool (nL rc t.qA),none):=fun s' h4 hf=>jc _ _ (.inr ⟨rfl,by rw[<- hs,hf];rfl,h4⟩)
   have good:UE rc x=true->(t.qA.drop (i+1)).all (UE rc)=t.qA.all (UE rc):=fun h=>by rw[<- hs,h];rfl
   generalize hB:t.qA.all (UE rc)=B at *
   cases hg:UE rc x with
   |false =>
    cases hz:x.dflt.same Vl.zero<;>rw[hz]at lj<;>rcases hk with⟨h5,rfl⟩|⟨h5,rfl⟩<;>cases hc:x.EA<;>cases hh:x.has<;>first|(simp[UE,hc,hh,hz]at hg;done)|skip
    all_goals rcases an with⟨a0,a3,a4⟩|⟨a0,a3,a4⟩<;>
     simp[EH,-J,-y4,-y3,y0,e1,m1,e8,e9,e10,e3,e4,a0,a3,a4,ga,g1,hw,sh,mi,q1,q2,hc,hh,h5,lj]
    all_goals exact fail _ (by simp) hg
   |true =>
    have good:=good hg;cases hz:x.dflt.same Vl.zero<;>rw[hz]at lj<;>rcases hk with⟨h5,rfl⟩|⟨h5,rfl⟩<;>cases hc:x.EA<;>cases hh:x.has<;>first|(simp[UE,hc,hh,hz]at hg;done)|skip
    all_goals rcases an with⟨a0,a3,a4⟩|⟨a0,a3,a4⟩<;>
     simp[EH,-J,-y4,-y3,y0,e1,m1,e8,e9,e10,e3,e4,a0,a3,a4,ga,g1,hw,sh,mi,q1,q2,hc,hh,h5,lj]
    all_goals refine ih fa _ ⟨?_,?_,?_,?_,?_,?_,?_,?_,good⟩
    all_goals simp[htk,e1,m1,e8,e9,R5,Mr,AI,An.strip]
  ·have ga:¬ (i:Int)<t.qA.length:=by omega
   simp[EH,-J,-y4,-y3,y0,e9,e10,ga];rw[yB (by omega)]at e3 e4;rw[yf (by omega)]at hs;exact jc _ _ (.inl ⟨rfl,hs.symm,by simp[e1],by simp[m1],by simp[e3],by simp[e4]⟩)
 ·simp
 ·unfold nL;rcases h with ⟨rfl,h1,e1,m1,e3,e4⟩ | ⟨rfl,h1,e2⟩
  ·rw [h1];rcases hk with ⟨h5,rfl⟩ | ⟨h5,rfl⟩
   ·simp[-J,-y4,-y3,y0,e1,m1,e3,e4,h5,uo]
   ·by_cases h0:0<t.qA.length
    ·have cf:(0:Int)<t.qA.length:=by omega
     simp[-J,-y4,-y3,y0,e1,m1,e3,e4,h5,h0,cf,uo]
    ·have cf:¬ (0:Int)<t.qA.length:=by omega
     simp[-J,-y4,-y3,y0,e1,m1,e3,e4,h5,h0,cf]
  ·simp[-J,-y4,-y3,y0,h1,e2]
theorem G8 (l:List RE)(hl:l.length<=8796093022206)(la:∀m∈l,m.ok)(b rec:Bool):IC 160 [.sl b (l.map uD),.bool rec] (.bool (nL rec l)):=by
  refine mC (c:=fK) rfl rfl ?_;simp[fK,-J,-y4,-y3,y0];refine ZC l.length (fun i s=>(s.env 0).v=.sl b (l.map uD)/\(s.env 1).v=.bool rec/\(s.env 5).v=.int .i64 (dG (l.map AI) i)/\(s.env 6).v=.int .i64 i/\(jF (dG (l.map AI) i) ((l.map AI).take i |>.map (·.2)) ((l.map AI).drop i)&&(l.drop i).all (UE rec))=(jF 0 [] (l.map AI)&&l.all (UE rec)))
    (fun e s=>(e=.exit 0/\(jF 0 [] (l.map AI)&&l.all (UE rec))=true/\(s.env 0).v=.sl b (l.map uD)/\(s.env 1).v=.bool rec)\/(e=.ret/\(jF 0 [] (l.map AI)&&l.all (UE rec))=false/\(s.env 4).v=.bool false)) (fun i hi s k h ih hk=>?_) _ _ ?_ (fun e s h=>?_)
  · obtain ⟨e0,e1,e5,e6,hs⟩:=h
    refine EC ?_;by_cases fa:i<l.length
    · have ga:(i:Int)<l.length:=by omega
      have g1:(l.map uD)[i]?=some (uD l[i]):=by simp[fa]
      have hw:=cD (i:=i);have sd:i<(l.map AI).length:=by simpa using fa
      have hp:dG (l.map AI) (i+1)=l[i].id:=by simp[dG,fa,AI]
      have hn:=O0 l[i].name;have MQ:=Rk (dG (l.map AI) i) l[i].id;have lj:=Uo l[i].dflt (la _ (y8 _)).1;have fh:(l.map AI)[i]=AI l[i]:=by simp
      have ht:((l.map AI).take (i+1)).map (·.2)=((l.map AI).take i).map (·.2)++[l[i].name]:=by rw[<- yx sd,fh];simp[AI]
      rw[yc sd,fh,yc fa,List.all_cons]at hs;obtain⟨x,hx⟩:∃x,x=l[i]:=⟨_,rfl⟩;rw[<- hx]at g1 hp hn MQ ht hs lj;simp only[jF]at hs;have tt:((nU (dG (l.map AI) i) x.id&&!lT x.name (((l.map AI).take i).map (·.2))&&aJ x.name&&UE rec x)&&(jF x.id (((l.map AI).take i).map (·.2)++[x.name]) ((l.map AI).drop (i+1))&&(l.drop (i+1)).all (UE rec)))=(jF 0 [] (l.map AI)&&l.all (UE rec)):=by
        rw[<- hs];simp only[AI,Bool.and_assoc];congr 1;congr 1;congr 1;rw[<- Bool.and_assoc,<- Bool.and_assoc,Bool.and_comm (UE rec x)]
      clear hs;have fail:∀s',(s'.env 4).v=.bool false->(nU (dG (l.map AI) i) x.id&&!lT x.name (((l.map AI).take i).map (·.2))&&aJ x.name&&UE rec x)=false->k .ret s'=some (.bool (nL rec l),none):=fun s' h4 hf=>hk _ _ (.inr ⟨rfl,by rw[<- tt,hf];rfl,h4⟩)
      simp only[IC,nC]at hn MQ lj;simp only[uD]at g1;cases c1:nU (dG (l.map AI) i) x.id with
      | false =>
        rw[c1]at MQ;simp[eG,-J,-y4,-y3,y0,e0,e1,e5,e6,ga,g1,MQ];exact fail _ (by simp) (by simp[c1])
      | true =>
        rw[c1]at MQ;cases c2:aJ x.name with
        | false =>
          rw[c2]at hn;simp[eG,-J,-y4,-y3,y0,e0,e1,e5,e6,ga,g1,MQ,hn];exact fail _ (by simp) (by simp[c2])
        | true =>
          rw[c2]at hn;have rk:((l.map AI).take i).map (·.2)=(l.take i).map RE.name:=by simp[<- List.map_take,AI,Function.comp_def]
          have inner:∀s:OC,UE rec x=true->(s.env 0).v=.sl b (l.map uD)->(s.env 1).v=.bool rec->(s.env 6).v=.int .i64 i->(s.env 8).v=.int .i64 0->∀p,(s.env 7).v=.ptr 7 p 0->s.mem 7 p=some ((uD x).map (⟨·,.no⟩)) →
              ∀k2:Ex->OC->Option RV,(∀s',(s'.env 4).v=.bool false->k2 .ret s'=k .ret s')->(∀s',(s'.env 0).v=.sl b (l.map uD)->(s'.env 1).v=.bool rec->(s'.env 6).v=.int .i64 i->(s'.env 7).v=.ptr 7 p 0->s'.mem 7 p=some ((uD x).map (⟨·,.no⟩))->¬x.name∈(l.take i).map RE.name->k2 (.exit 2) s'=some (.bool (nL rec l),none)) →
              OL dD PC JG s k2=some (.bool (nL rec l),none):=by
            intro s um e0 e1 e6 e8 p e7 m7 k2 hk2 hk3;refine ZC i (fun j s=>(s.env 0).v=.sl b (l.map uD)/\(s.env 1).v=.bool rec/\(s.env 6).v=.int .i64 i/\(s.env 7).v=.ptr 7 p 0/\s.mem 7 p=some ((uD x).map (⟨·,.no⟩))/\(s.env 8).v=.int .i64 j/\¬x.name∈(l.take j).map RE.name)
              (fun e s=>(e=.exit 2/\¬x.name∈(l.take i).map RE.name/\(s.env 0).v=.sl b (l.map uD)/\(s.env 1).v=.bool rec/\(s.env 6).v=.int .i64 i/\(s.env 7).v=.ptr 7 p 0/\s.mem 7 p=some ((uD x).map (⟨·,.no⟩)))\/(e=.ret/\x.name∈(l.take i).map RE.name/\(s.env 4).v=.bool false)) (fun j hj s k' h gw jc=>?_) _ _ ?_ (fun e s h=>?_)
            · obtain ⟨e0,e1,e6,e7,m7,e8,hm⟩:=h
              refine EC ?_;by_cases hji:j<i
              · have ej:(j:Int)<i:=by omega
                have g2:(l.map uD)[j]?=some (uD l[j]):=by simp[show j<l.length from by omega]
                have hwj:=cD (i:=j);have htj:l.take (j+1)=l.take j++[l[j]]:=(yx (by omega)).symm;simp only[uD,yk,yq]at g2 m7;by_cases rf:l[j].name=x.name
                · simp [JG,-J,-y4,-y3,y0,e0,e1,e6,e7,m7,e8,ej,g1,g2,rf]
                  refine jc _ _ (.inr ⟨rfl,?_,by simp⟩);rw[<- rf];exact List.mem_map_of_mem (List.mem_take_iff_getElem.2 ⟨j,by omega,rfl⟩)
                · simp [JG,-J,-y4,-y3,y0,e0,e1,e6,e7,m7,e8,ej,g1,g2,rf,hwj]
                  refine gw hji _ ⟨?_,?_,?_,?_,?_,?_,?_⟩
                  · simp[e0]
                  · simp[e1]
                  · simp[e6]
                  · simp[e7]
                  · simp[m7,uD]
                  · simp
                  · rw [htj,List.map_append,yD]
                    rintro(h|h)
                    · exact hm h
                    · simp at h;exact rf h.symm
              · have ej:¬ (j:Int)<i:=by omega
                have xu:j=i:=by omega
                simp[JG,-J,-y4,-y3,y0,e6,e8,ej];exact jc _ _ (.inl ⟨rfl,xu▸hm,by simp[e0],by simp[e1],by simp[e6],by simp[e7],by simp[m7]⟩)
            · simp[e0,e1,e6,e7,e8,m7]
            · rcases h with ⟨rfl,h1,e0,e1,e6,e7,m7⟩ | ⟨rfl,h1,e4⟩
              · exact hk3 s e0 e1 e6 e7 m7 h1
              · rw [hk2 _ e4]
                exact fail _ e4 (by rw[rk,bU h1];simp)
          have next:∀s',(s'.env 0).v=.sl b (l.map uD)->(s'.env 1).v=.bool rec->(s'.env 5).v=.int .i64 x.id->(s'.env 6).v=.int .i64 ((i+1:Nat):Int)->UE rec x=true->¬x.name∈(l.take i).map RE.name->OL dD PC eG s' k=some (.bool (nL rec l),none):=fun s' f0 f1 f5 f6 hg lc=>ih fa _ ⟨f0,f1,by rw[hp];exact f5,f6,by rw[hp,ht,<- tt,c1,c2,hg,rk,ZY lc];rfl⟩
          cases hz:x.dflt.same Vl.zero<;>rw[hz]at lj<;>cases rec<;>cases hc:x.EA<;>cases hh:x.has<;>
            simp[eG,-J,-y4,-y3,y0,e0,e1,e5,e6,ga,g1,MQ,hn,hc,hh,lj]<;>
            first
            |exact fail _ (by simp) (by simp[UE,hc,hh,hz])
            | (refine inner _ (by simp [UE,hc,hh,hz]) ?_ ?_ ?_ ?_ (s.next + 1) ?_ ?_ _ ?_ ?_
               · simp[e0]
               · simp[e1]
               · simp[e6]
               · simp
               · simp
               · simp[uD,hc,hh]
               · intro s' _;rfl
               · intro s' f0 f1 f6 f7 fm lc
                 simp only[uD,yk,yq]at fm;simp[-J,-y4,-y3,y0,f0,f1,f6,f7,fm,hw];refine next _ ?_ ?_ ?_ ?_ (by simp[UE,hc,hh,hz]) lc<;>simp[f0,f1])
    · have ga:¬ (i:Int)<l.length:=by omega
      simp[eG,-J,-y4,-y3,y0,e0,e6,ga];refine hk _ _ (.inl ⟨rfl,?_,by simp[e0],by simp[e1]⟩);rw[<- hs,yf (by simp;omega),yf (by omega),jF];rfl
  · simp[dG]
  · unfold nL
    rcases h with⟨rfl,h1,e0,e1⟩|⟨rfl,h1,e2⟩
    · rw [y9] at h1
      rw[h1.1,h1.2];by_cases h16:l.length<=16
      · have jq:(l.length:Int)<=16:=by omega
        cases rec
        · by_cases h0:0<l.length
          · have cf:(1:Int)<=l.length:=by omega
            simp[-J,-y4,-y3,y0,e0,e1,h0,cf,h16,jq]
          · have cf:¬ (1:Int)<=l.length:=by omega
            simp[-J,-y4,-y3,y0,e0,e1,h0,cf,h16,jq]
        · simp[-J,-y4,-y3,y0,e0,e1,h16,jq]
      · have jq:¬ (l.length:Int)<=16:=by omega
        simp[-J,-y4,-y3,y0,e0,e1,h16,jq]
    · have:(l.all (UE rec)&&((rec||decide (0<l.length))&&(jF 0 [] (l.map AI)&&decide (l.length<=16))))=false:=by
        rw[Bool.and_eq_false_iff]at h1;rcases h1 with h1|h1<;>simp[h1]
      rw[this];simp[-J,-y4,-y3,y0,e2]
mutual
theorem Vl.rB:∀v:Vl,v.same v=true
 |.mk k b i s d kn ks xn xs rn rs=>by rw[Vl.same];simp[Vl.mB ks,Vl.mB xs]
theorem Vl.mB:∀l:List Vl,Vl.fA l l=true
 | []=>by rw[Vl.fA]
 |v::r=>by rw[Vl.fA];simp[Vl.rB v,Vl.mB r]
end
theorem RE.rB (m:RE):m.same m=true:=by simp[RE.same,Vl.rB]
theorem pT:∀l:List RE,QE l l=true
 | []=>rfl
 |m::r=>by simp[QE,RE.rB,pT r]
def fG:BC:=⟨0,⟨#[]⟩,0,0,0,true,[],true,[],0,0,false⟩
def BC.left (t:BC):BC :=
 if t.kind=1 then{ t with kind:=0 }
 else if t.kind=2 then{ t with kind:=0,low:=0,high:=0 }
 else if t.kind=3 then{ t with kind:=0,max:=0 }
 else if t.kind=4 then{ t with kind:=0,name:=⟨#[]⟩,sn:=true,tA:=[],opn:=false }
 else if t.kind=5 then{ t with kind:=0,name:=⟨#[]⟩,mn:=true,qA:=[] }
 else if t.kind=6 then{ t with kind:=0,name:=⟨#[]⟩,mn:=true,qA:=[],opn:=false }
 else if t.kind=7 then{ t with kind:=0,max:=0,elem:=0 }
 else if t.kind=8 then{ t with kind:=0,max:=0,elem:=0,key:=0 }
 else{ t with kind:=0,elem:=0 }
def wN (t:BC):Bool :=
 if t.kind=2 then decide (t.low<=t.high)
 else if t.kind=3 then decide (0<=t.max)&&decide (t.max<=200)
 else if t.kind=4 then aJ t.name&&jP t.tA
 else if t.kind=5 then aJ t.name&&nL true t.qA
 else if t.kind=6 then aJ t.name&&nL false t.qA
 else if t.kind=7\/t.kind=8 then decide (0<=t.max)&&decide (t.max<=50)
 else true
def IE (t:BC):Bool:=decide (1<=t.kind/\t.kind<=9)&&(wN t&&t.left.same fG)
def BC.fine (t:BC):Prop:=t.ok/\t.tA.length<=8796093022206/\t.qA.length<=8796093022206
theorem BU {t u:BC}(h:t.ok)(h1:u.tA=t.tA\/u.tA=[])(h2:u.qA=t.qA\/u.qA=[]):u.ok:=by
 refine⟨?_,?_,?_⟩
 ·rcases h1 with h1 | h1
  ·rw[h1];exact h.1
  ·rw[h1];simp
 ·rcases h2 with h2 | h2
  ·rw[h2];exact h.2.1
  ·rw[h2];simp
 ·rcases h2 with h2 | h2
  ·rw[h2];exact h.2.2
  ·rw[h2];simp
theorem Ob {t:BC}(h:t.ok):t.left.ok:=by
 unfold BC.left;by_cases h1:t.kind=1
 ·rw[if_pos h1];exact BU h (.inl rfl) (.inl rfl)
 by_cases h2:t.kind=2
 ·rw[if_neg h1,if_pos h2];exact BU h (.inl rfl) (.inl rfl)
 by_cases h3:t.kind=3
 ·rw[if_neg h1,if_neg h2,if_pos h3];exact BU h (.inl rfl) (.inl rfl)
 by_cases h4:t.kind=4
 ·rw[if_neg h1,if_neg h2,if_neg h3,if_pos h4];exact BU h (.inr rfl) (.inl rfl)
 by_cases h5:t.kind=5
 ·rw[if_neg h1,if_neg h2,if_neg h3,if_neg h4,if_pos h5];exact BU h (.inl rfl) (.inr rfl)
 by_cases h6:t.kind=6
 ·rw[if_neg h1,if_neg h2,if_neg h3,if_neg h4,if_neg h5,if_pos h6];exact BU h (.inl rfl) (.inr rfl)
 rw[if_neg h1,if_neg h2,if_neg h3,if_neg h4,if_neg h5,if_neg h6];by_cases h7:t.kind=7
 ·rw[if_pos h7];exact BU h (.inl rfl) (.inl rfl)
 by_cases h8:t.kind=8
 ·rw[if_neg h7,if_pos h8];exact BU h (.inl rfl) (.inl rfl)
 rw[if_neg h7,if_neg h8];exact BU h (.inl rfl) (.inl rfl)
theorem kinds (k:Int):k=1\/k=2\/k=3\/k=4\/k=5\/k=6\/k=7\/k=8\/k=9\/¬(1<=k/\k<=9):=by omega
def PJ (n:Int):List AV:=[.int .i64 n]
def BC.zA (t:BC):List Int:=(t.qA.map RE.ty++(if t.kind=8 then [t.key]else []))++(if 7<=t.kind then [t.elem]else [])
section
variable (t:BC) (hl:t.qA.length<=8796093022206)
include t hl
theorem Nm (r:RV)(k:Ex->OC->Option RV)
  (hk:∀s':OC,(s'.env 1).v=.ptr 1 1 0->s'.mem 1 1=some (ID t)->(s'.env 3).v=.sl t.qA.isEmpty ((t.qA.map RE.ty).map PJ)->(t.qA.isEmpty=t.qA.isEmpty/\(s'.env 3).a=.ex\/t.qA.isEmpty=false/\(s'.env 3).a=.own 17 3)->k (.exit 0) s'=some r)
  (s:OC) (h1:(s.env 1).v=.ptr 1 1 0) (h2:s.mem 1 1=some (ID t)) (h3:(s.env 7).v=.sl t.mn (t.qA.map uD)) (h4:(s.env 8).v=.int .i64 t.qA.length) (h5:(s.env 9).v=.int .i64 0) (h6:(s.env 3).v=.sl true []) (h7:(s.env 3).a=.ex):OL dD PC GH s k=some r:=by
 refine ZC t.qA.length (fun i s=>(s.env 1).v=.ptr 1 1 0/\s.mem 1 1=some (ID t)/\(s.env 7).v=.sl t.mn (t.qA.map uD)/\(s.env 8).v=.int .i64 t.qA.length/\(s.env 9).v=.int .i64 i/\(s.env 3).v=.sl (t.qA.take i).isEmpty (((t.qA.take i).map RE.ty).map PJ)/\((t.qA.take i).isEmpty=(t.qA.take i).isEmpty/\(s.env 3).a=.ex\/(t.qA.take i).isEmpty=false/\(s.env 3).a=.own 17 3))
  (fun e s=>e=.exit 0/\(s.env 1).v=.ptr 1 1 0/\s.mem 1 1=some (ID t)/\(s.env 3).v=.sl t.qA.isEmpty ((t.qA.map RE.ty).map PJ)/\(t.qA.isEmpty=t.qA.isEmpty/\(s.env 3).a=.ex\/t.qA.isEmpty=false/\(s.env 3).a=.own 17 3)) (fun i hi s k h ih hk=>?_) _ _ ?_ (fun e s h=>?_)
 ·obtain ⟨e1,m1,e7,e8,e9,e3,an⟩:=h;refine EC ?_;by_cases fa:i<t.qA.length
  ·have ga:(i:Int)<t.qA.length:=by omega
   have g1:(t.qA.map uD)[i]?=some (uD t.qA[i]):=by simp[fa]
   have hw:=cD (i:=i);have ht:t.qA.take (i+1)=t.qA.take i++[t.qA[i]]:=(yx fa).symm;generalize t.qA[i]=x at *
   simp only[uD]at g1;have ja:(t.qA.take i).length=i:=by simp;omega
   generalize t.qA.take i=q at *
   have sh:aE 8 (q.length+1)=true:=by rw[UD];omega
   have q1:PD 1 ((q.map RE.ty).map PJ)=true:=rG _ _ _ fun _=>rfl
   rcases an with⟨a0,a3⟩|⟨a0,a3⟩
   ·simp[GH,-J,-y4,-y3,y0,e1,m1,e7,e8,e9,e3,a0,a3,ga,g1,hw,sh,q1];refine ih fa _ ⟨?_,?_,?_,?_,?_,?_,?_⟩<;>simp[ht,e1,m1,e7,e8,PJ,An.strip]
   ·simp[GH,-J,-y4,-y3,y0,e1,m1,e7,e8,e9,e3,a0,a3,ga,g1,hw,sh,q1];refine ih fa _ ⟨?_,?_,?_,?_,?_,?_,?_⟩<;>simp[ht,e1,m1,e7,e8,PJ,An.strip]
  ·have ga:¬ (i:Int)<t.qA.length:=by omega
   simp[GH,-J,-y4,-y3,y0,e8,e9,ga];rw[yB (by omega)]at e3 an;exact hk _ _ ⟨rfl,by simp[e1],by simp[m1],by simp[e3],by simpa using an⟩
 ·simp[h1,h2,h3,h4,h5,h6,h7]
 ·obtain⟨rfl,e1,m1,e3,an⟩:=h;exact hk s e1 m1 e3 an
theorem Bm (b:Bool)(hb:b=t.zA.isEmpty):IC 39 [.agg (QC t)] (.sl b (t.zA.map PJ)):=by
 subst hb;refine mC (c:=mM) rfl rfl ?_;simp[mM,-J,-y4,-y3,y0,QC];refine Nm t hl _ _ (fun s e1 m1 e3 an=>?_) _ ?_ ?_ ?_ ?_ ?_ ?_ ?_
 ·have q1:PD 1 ((t.qA.map RE.ty).map PJ)=true:=rG _ _ _ fun _=>rfl
  have sh:aE 8 (t.qA.length+1)=true:=by rw[UD];omega
  have mi:aE 8 (t.qA.length+1+1)=true:=by rw[UD];omega
  unfold BC.zA;by_cases h8:t.kind=8
  ·rcases an with ⟨a0,a3⟩ | ⟨a0,a3⟩
   ·simp[-J,-y4,-y3,y0,e1,m1,e3,a0,a3,h8,q1,sh,mi,PJ]
   ·simp[-J,-y4,-y3,y0,e1,m1,e3,a0,a3,h8,q1,sh,mi,PJ]
  ·by_cases h7:7<=t.kind
   ·rcases an with ⟨a0,a3⟩ | ⟨a0,a3⟩
    ·simp[-J,-y4,-y3,y0,e1,m1,e3,a0,a3,h8,h7,q1,sh,mi,PJ]
    ·simp[-J,-y4,-y3,y0,e1,m1,e3,a0,a3,h8,h7,q1,sh,mi,PJ]
   ·simp[-J,-y4,-y3,y0,e1,m1,e3,h8,h7]
 all_goals simp
theorem Dk (r:RV)(k:Ex->OC->Option RV)
  (hk:∀s':OC,(s'.env 1).v=.ptr 1 1 0->s'.mem 1 1=some (ID t)->(s'.env 3).v=.sl t.qA.isEmpty ((t.qA.map RE.ty).map PJ)->(t.qA.isEmpty=t.qA.isEmpty/\(s'.env 3).a=.ex\/t.qA.isEmpty=false/\(s'.env 3).a=.own 20 3)->k (.exit 0) s'=some r)
  (s:OC) (h1:(s.env 1).v=.ptr 1 1 0) (h2:s.mem 1 1=some (ID t)) (h5:(s.env 4).v=.int .i64 0) (h6:(s.env 3).v=.sl true []) (h7:(s.env 3).a=.ex):OL dD PC lI s k=some r:=by
 refine ZC t.qA.length (fun i s=>(s.env 1).v=.ptr 1 1 0/\s.mem 1 1=some (ID t)/\(s.env 4).v=.int .i64 i/\(s.env 3).v=.sl (t.qA.take i).isEmpty (((t.qA.take i).map RE.ty).map PJ)/\((t.qA.take i).isEmpty=(t.qA.take i).isEmpty/\(s.env 3).a=.ex\/(t.qA.take i).isEmpty=false/\(s.env 3).a=.own 20 3))
  (fun e s=>e=.exit 0/\(s.env 1).v=.ptr 1 1 0/\s.mem 1 1=some (ID t)/\(s.env 3).v=.sl t.qA.isEmpty ((t.qA.map RE.ty).map PJ)/\(t.qA.isEmpty=t.qA.isEmpty/\(s.env 3).a=.ex\/t.qA.isEmpty=false/\(s.env 3).a=.own 20 3)) (fun i hi s k h ih hk=>?_) _ _ ?_ (fun e s h=>?_)
 ·obtain ⟨e1,m1,e9,e3,an⟩:=h;refine EC ?_;by_cases fa:i<t.qA.length
  ·have ga:(i:Int)<t.qA.length:=by omega
   have g1:(t.qA.map uD)[i]?=some (uD t.qA[i]):=by simp[fa]
   have hw:=cD (i:=i);have ht:t.qA.take (i+1)=t.qA.take i++[t.qA[i]]:=(yx fa).symm;generalize t.qA[i]=x at *
   simp only[uD]at g1;have ja:(t.qA.take i).length=i:=by simp;omega
   generalize t.qA.take i=q at *
   have sh:aE 8 (q.length+1)=true:=by rw[UD];omega
   have q1:PD 1 ((q.map RE.ty).map PJ)=true:=rG _ _ _ fun _=>rfl
   rcases an with⟨a0,a3⟩|⟨a0,a3⟩
   ·simp[lI,-J,-y4,-y3,y0,e1,m1,e9,e3,a0,a3,ga,g1,hw,sh,q1];refine ih fa _ ⟨?_,?_,?_,?_,?_⟩<;>simp[ht,e1,m1,PJ,An.strip]
   ·simp[lI,-J,-y4,-y3,y0,e1,m1,e9,e3,a0,a3,ga,g1,hw,sh,q1];refine ih fa _ ⟨?_,?_,?_,?_,?_⟩<;>simp[ht,e1,m1,PJ,An.strip]
  ·have ga:¬ (i:Int)<t.qA.length:=by omega
   simp[lI,-J,-y4,-y3,y0,e1,m1,e9,ga];rw[yB (by omega)]at e3 an;exact hk _ _ ⟨rfl,by simp[e1],by simp[m1],by simp[e3],by simpa using an⟩
 ·simp[h1,h2,h5,h6,h7]
 ·obtain⟨rfl,e1,m1,e3,an⟩:=h;exact hk s e1 m1 e3 an
theorem Sk (h9:t.kind<=9)(b:Bool)(hb:b=t.zA.isEmpty):IC 44 [.agg (QC t)] (.sl b (t.zA.map PJ)):=by
 subst hb;refine mC (c:=xN) rfl rfl ?_;simp[xN,-J,-y4,-y3,y0,QC];refine Dk t hl _ _ (fun s e1 m1 e3 an=>?_) _ ?_ ?_ ?_ ?_ ?_
 ·have q1:PD 1 ((t.qA.map RE.ty).map PJ)=true:=rG _ _ _ fun _=>rfl
  have sh:aE 8 (t.qA.length+1)=true:=by rw[UD];omega
  have mi:aE 8 (t.qA.length+1+1)=true:=by rw[UD];omega
  unfold BC.zA;have hc:t.kind=8\/t.kind=7\/t.kind=9\/(¬t.kind=8/\¬t.kind=7/\¬t.kind=9/\¬7<=t.kind):=by omega
  rcases hc with h|h|h|⟨h8,h7,h9,h⟩
  ·rcases an with⟨a0,a3⟩|⟨a0,a3⟩<;>simp[-J,-y4,-y3,y0,e1,m1,e3,a0,a3,h,q1,sh,mi,PJ]
  ·rcases an with⟨a0,a3⟩|⟨a0,a3⟩<;>simp[-J,-y4,-y3,y0,e1,m1,e3,a0,a3,h,q1,sh,mi,PJ]
  ·rcases an with⟨a0,a3⟩|⟨a0,a3⟩<;>simp[-J,-y4,-y3,y0,e1,m1,e3,a0,a3,h,q1,sh,mi,PJ]
  ·simp[-J,-y4,-y3,y0,e1,m1,e3,h8,h7,h9,h]
 all_goals simp
end
def WF (v:Vl):Bool :=
 (decide (v.kind=1)||!v.b)&&((decide (v.kind=2)||decide (v.i=0))&&((decide (v.kind=3)||decide (v.s=⟨#[]⟩))&&((decide (v.kind=4)||decide (v.kind=6)||decide (v.id=0))&&((decide (v.kind=8)||v.keys.isEmpty)&&((decide (5<=v.kind)||v.items.isEmpty)&&(decide (v.kind=5)||decide (v.kind=6)||v.rest.isEmpty))))))
def Vl.bare (v:Vl):Vl:=.mk v.kind (if v.kind=1 then v.b else false) (if v.kind=2 then v.i else 0) (if v.kind=3 then v.s else⟨#[]⟩) (if v.kind=4\/v.kind=6 then v.id else 0)
 (if v.kind=8 then v.kn else true) (if v.kind=8 then v.keys else []) (if 5<=v.kind then v.xn else true) (if 5<=v.kind then v.items else []) (if v.kind=5\/v.kind=6 then v.rn else true) (if v.kind=5\/v.kind=6 then v.rest else [])
section
variable (v:Vl)
include v
theorem Hs (h:v.kind=1):IC 167 [.agg (TC v)] (.agg (TC v.bare)):=by
 refine mC (c:=nD) rfl rfl ?_;obtain⟨k,b,i,s,d,kn,ks,xn,xs,rn,rs⟩:=v;have h:k=1:=h;subst h;rw[nC,nC];simp[nD,-J,-y4,-y3,y0,Vl.bare,Vl.kind,Vl.b,Vl.i,Vl.s,Vl.id,Vl.kn,Vl.keys,Vl.xn,Vl.items,Vl.rn,Vl.rest]
theorem Js (h:v.kind=2):IC 167 [.agg (TC v)] (.agg (TC v.bare)):=by
 refine mC (c:=nD) rfl rfl ?_;obtain⟨k,b,i,s,d,kn,ks,xn,xs,rn,rs⟩:=v;have h:k=2:=h;subst h;rw[nC,nC];simp[nD,-J,-y4,-y3,y0,Vl.bare,Vl.kind,Vl.b,Vl.i,Vl.s,Vl.id,Vl.kn,Vl.keys,Vl.xn,Vl.items,Vl.rn,Vl.rest]
theorem Ks (h:v.kind=3):IC 167 [.agg (TC v)] (.agg (TC v.bare)):=by
 refine mC (c:=nD) rfl rfl ?_;obtain⟨k,b,i,s,d,kn,ks,xn,xs,rn,rs⟩:=v;have h:k=3:=h;subst h;rw[nC,nC];simp[nD,-J,-y4,-y3,y0,Vl.bare,Vl.kind,Vl.b,Vl.i,Vl.s,Vl.id,Vl.kn,Vl.keys,Vl.xn,Vl.items,Vl.rn,Vl.rest]
theorem Ls (h:v.kind=4):IC 167 [.agg (TC v)] (.agg (TC v.bare)):=by
 refine mC (c:=nD) rfl rfl ?_;obtain⟨k,b,i,s,d,kn,ks,xn,xs,rn,rs⟩:=v;have h:k=4:=h;subst h;rw[nC,nC];simp[nD,-J,-y4,-y3,y0,Vl.bare,Vl.kind,Vl.b,Vl.i,Vl.s,Vl.id,Vl.kn,Vl.keys,Vl.xn,Vl.items,Vl.rn,Vl.rest]
theorem Zs (h:v.kind=5):IC 167 [.agg (TC v)] (.agg (TC v.bare)):=by
 refine mC (c:=nD) rfl rfl ?_;obtain⟨k,b,i,s,d,kn,ks,xn,xs,rn,rs⟩:=v;have h:k=5:=h;subst h;rw[nC,nC];simp[nD,-J,-y4,-y3,y0,Vl.bare,Vl.kind,Vl.b,Vl.i,Vl.s,Vl.id,Vl.kn,Vl.keys,Vl.xn,Vl.items,Vl.rn,Vl.rest]
theorem Cs (h:v.kind=6):IC 167 [.agg (TC v)] (.agg (TC v.bare)):=by
 refine mC (c:=nD) rfl rfl ?_;obtain⟨k,b,i,s,d,kn,ks,xn,xs,rn,rs⟩:=v;have h:k=6:=h;subst h;rw[nC,nC];simp[nD,-J,-y4,-y3,y0,Vl.bare,Vl.kind,Vl.b,Vl.i,Vl.s,Vl.id,Vl.kn,Vl.keys,Vl.xn,Vl.items,Vl.rn,Vl.rest]
theorem Bs (h:v.kind=7):IC 167 [.agg (TC v)] (.agg (TC v.bare)):=by
 refine mC (c:=nD) rfl rfl ?_;obtain⟨k,b,i,s,d,kn,ks,xn,xs,rn,rs⟩:=v;have h:k=7:=h;subst h;rw[nC,nC];simp[nD,-J,-y4,-y3,y0,Vl.bare,Vl.kind,Vl.b,Vl.i,Vl.s,Vl.id,Vl.kn,Vl.keys,Vl.xn,Vl.items,Vl.rn,Vl.rest]
theorem Ns (h:v.kind=8):IC 167 [.agg (TC v)] (.agg (TC v.bare)):=by
 refine mC (c:=nD) rfl rfl ?_;obtain⟨k,b,i,s,d,kn,ks,xn,xs,rn,rs⟩:=v;have h:k=8:=h;subst h;rw[nC,nC];simp[nD,-J,-y4,-y3,y0,Vl.bare,Vl.kind,Vl.b,Vl.i,Vl.s,Vl.id,Vl.kn,Vl.keys,Vl.xn,Vl.items,Vl.rn,Vl.rest]
theorem Ms (h:v.kind=9):IC 167 [.agg (TC v)] (.agg (TC v.bare)):=by
 refine mC (c:=nD) rfl rfl ?_;obtain⟨k,b,i,s,d,kn,ks,xn,xs,rn,rs⟩:=v;have h:k=9:=h;subst h;rw[nC,nC];simp[nD,-J,-y4,-y3,y0,Vl.bare,Vl.kind,Vl.b,Vl.i,Vl.s,Vl.id,Vl.kn,Vl.keys,Vl.xn,Vl.items,Vl.rn,Vl.rest]
theorem Nx (h:1<=v.kind/\v.kind<=9):IC 167 [.agg (TC v)] (.agg (TC v.bare)):=by
 rcases kinds v.kind with e|e|e|e|e|e|e|e|e|e
 ·exact Hs v e
 ·exact Js v e
 ·exact Ks v e
 ·exact Ls v e
 ·exact Zs v e
 ·exact Cs v e
 ·exact Bs v e
 ·exact Ns v e
 ·exact Ms v e
 ·exact absurd h e
end
theorem Lq (v w:Vl)(hb:IC 167 [.agg (TC v)] (.agg (TC w))):IC 106 [.agg (TC v)] (.bool ((v.b == w.b)&&(decide (v.i=w.i)&&(decide (v.s=w.s)&&(decide (v.id=w.id)&&(decide (v.keys.length=w.keys.length)&&(decide (v.items.length=w.items.length)&&decide (v.rest.length=w.rest.length)))))))):=by
 refine mC (c:=AE) rfl rfl ?_;rw[nC,nC]at hb;rw[nC];simp only[IC]at hb;by_cases h1:v.b=w.b
 ·by_cases h2:v.i=w.i
  ·by_cases h3:v.s=w.s
   ·by_cases h4:v.id=w.id
    ·by_cases h5:v.keys.length=w.keys.length
     ·by_cases h6:v.items.length=w.items.length
      ·by_cases h7:v.rest.length=w.rest.length
       ·simp[AE,-J,-y4,-y3,y0,hb,h1.symm,h2.symm,h3.symm,h4.symm,h5,h6,h7]
       ·have h7':¬ (v.rest.length:Int)=w.rest.length:=by omega
        simp[AE,-J,-y4,-y3,y0,hb,h1.symm,h2.symm,h3.symm,h4.symm,h5,h6,h7,h7']
      ·have h6':¬ (v.items.length:Int)=w.items.length:=by omega
       simp[AE,-J,-y4,-y3,y0,hb,h1.symm,h2.symm,h3.symm,h4.symm,h5,h6,h6']
     ·have ww:¬ (v.keys.length:Int)=w.keys.length:=by omega
      simp[AE,-J,-y4,-y3,y0,hb,h1.symm,h2.symm,h3.symm,h4.symm,h5,ww]
    ·simp[AE,-J,-y4,-y3,y0,hb,h1.symm,h2.symm,h3.symm,h4]
   ·simp[AE,-J,-y4,-y3,y0,hb,h1.symm,h2.symm,h3]
  ·simp[AE,-J,-y4,-y3,y0,hb,h1.symm,h2]
 ·simp[AE,-J,-y4,-y3,y0,hb,h1]
theorem Qa {α β:Type}(k:Int)(h:1<=k/\k<=9)(b:Bool)(i:Int)(s:ByteArray)(d:Int)(ks xs:List α)(rs:List β):
  ((decide (k=1)||!b)&&((decide (k=2)||decide (i=0))&&((decide (k=3)||decide (s=⟨#[]⟩))&&((decide (k=4)||decide (k=6)||decide (d=0))&&((decide (k=8)||ks.isEmpty)&&((decide (5<=k)||xs.isEmpty)&&(decide (k=5)||decide (k=6)||rs.isEmpty))))))) =
  ((b ==(if k=1 then b else false))&&(decide (i=(if k=2 then i else 0))&&(decide (s=(if k=3 then s else⟨#[]⟩))&&(decide (d=(if k=4\/k=6 then d else 0))&&(decide (ks.length=(if k=8 then ks else []).length)&&(decide (xs.length=(if 5<=k then xs else []).length)&&decide (rs.length=(if k=5\/k=6 then rs else []).length))))))):=by
 rcases kinds k with e|e|e|e|e|e|e|e|e|e
 all_goals first|exact absurd h e|skip
 all_goals cases b<;>cases ks<;>cases xs<;>cases rs<;>simp[e]
theorem d4 (v:Vl)(h:1<=v.kind/\v.kind<=9):IC 106 [.agg (TC v)] (.bool (WF v)):=by
 have r:=Lq v v.bare (Nx v h);have e:=Qa v.kind h v.b v.i v.s v.id v.keys v.items v.rest;unfold WF;rw[e];exact r
theorem Xo (v:Vl)(h:v.kind=1):IC 221 [.agg (TC v)] (.bool (WF v)):=by
 refine mC (c:=RC) rfl rfl ?_;rw[nC];unfold WF;by_cases hi:v.i=0
 ·by_cases hs:v.s=⟨#[]⟩
  ·by_cases hd:v.id=0
   ·by_cases hk:v.keys=[]
    ·by_cases hx:v.items=[]
     ·by_cases hr:v.rest=[]
      ·simp[RC,-J,-y4,-y3,y0,h,hi,hs,hd,hk,hx,hr]
      ·simp[RC,-J,-y4,-y3,y0,h,hi,hs,hd,hk,hx,hr]
     ·simp[RC,-J,-y4,-y3,y0,h,hi,hs,hd,hk,hx]
    ·simp[RC,-J,-y4,-y3,y0,h,hi,hs,hd,hk]
   ·simp[RC,-J,-y4,-y3,y0,h,hi,hs,hd]
  ·simp[RC,-J,-y4,-y3,y0,h,hi,hs]
 ·simp[RC,-J,-y4,-y3,y0,h,hi]
theorem Co (v:Vl)(h:v.kind=2):IC 221 [.agg (TC v)] (.bool (WF v)):=by
 refine mC (c:=RC) rfl rfl ?_;rw[nC];unfold WF;by_cases hb:v.b=false
 ·by_cases hs:v.s=⟨#[]⟩
  ·by_cases hd:v.id=0
   ·by_cases hk:v.keys=[]
    ·by_cases hx:v.items=[]
     ·by_cases hr:v.rest=[]
      ·simp[RC,-J,-y4,-y3,y0,h,hb,hs,hd,hk,hx,hr]
      ·simp[RC,-J,-y4,-y3,y0,h,hb,hs,hd,hk,hx,hr]
     ·simp[RC,-J,-y4,-y3,y0,h,hb,hs,hd,hk,hx]
    ·simp[RC,-J,-y4,-y3,y0,h,hb,hs,hd,hk]
   ·simp[RC,-J,-y4,-y3,y0,h,hb,hs,hd]
  ·simp[RC,-J,-y4,-y3,y0,h,hb,hs]
 ·simp[RC,-J,-y4,-y3,y0,h,hb]
theorem Bo (v:Vl)(h:v.kind=3):IC 221 [.agg (TC v)] (.bool (WF v)):=by
 refine mC (c:=RC) rfl rfl ?_;rw[nC];unfold WF;by_cases hb:v.b=false
 ·by_cases hi:v.i=0
  ·by_cases hd:v.id=0
   ·by_cases hk:v.keys=[]
    ·by_cases hx:v.items=[]
     ·by_cases hr:v.rest=[]
      ·simp[RC,-J,-y4,-y3,y0,h,hb,hi,hd,hk,hx,hr]
      ·simp[RC,-J,-y4,-y3,y0,h,hb,hi,hd,hk,hx,hr]
     ·simp[RC,-J,-y4,-y3,y0,h,hb,hi,hd,hk,hx]
    ·simp[RC,-J,-y4,-y3,y0,h,hb,hi,hd,hk]
   ·simp[RC,-J,-y4,-y3,y0,h,hb,hi,hd]
  ·simp[RC,-J,-y4,-y3,y0,h,hb,hi]
 ·simp[RC,-J,-y4,-y3,y0,h,hb]
theorem Mo (v:Vl)(h:v.kind=4):IC 221 [.agg (TC v)] (.bool (WF v)):=by
 refine mC (c:=RC) rfl rfl ?_;rw[nC];unfold WF;by_cases hb:v.b=false
 ·by_cases hi:v.i=0
  ·by_cases hs:v.s=⟨#[]⟩
   ·by_cases hk:v.keys=[]
    ·by_cases hx:v.items=[]
     ·by_cases hr:v.rest=[]
      ·simp[RC,-J,-y4,-y3,y0,h,hb,hi,hs,hk,hx,hr]
      ·simp[RC,-J,-y4,-y3,y0,h,hb,hi,hs,hk,hx,hr]
     ·simp[RC,-J,-y4,-y3,y0,h,hb,hi,hs,hk,hx]
    ·simp[RC,-J,-y4,-y3,y0,h,hb,hi,hs,hk]
   ·simp[RC,-J,-y4,-y3,y0,h,hb,hi,hs]
  ·simp[RC,-J,-y4,-y3,y0,h,hb,hi]
 ·simp[RC,-J,-y4,-y3,y0,h,hb]
theorem Qp (v:Vl)(h:v.kind=5):IC 221 [.agg (TC v)] (.bool (WF v)):=by
 refine mC (c:=RC) rfl rfl ?_;rw[nC];unfold WF;by_cases hb:v.b=false
 ·by_cases hi:v.i=0
  ·by_cases hs:v.s=⟨#[]⟩
   ·by_cases hd:v.id=0
    ·by_cases hk:v.keys=[]
     ·simp[RC,-J,-y4,-y3,y0,h,hb,hi,hs,hd,hk]
     ·simp[RC,-J,-y4,-y3,y0,h,hb,hi,hs,hd,hk]
    ·simp[RC,-J,-y4,-y3,y0,h,hb,hi,hs,hd]
   ·simp[RC,-J,-y4,-y3,y0,h,hb,hi,hs]
  ·simp[RC,-J,-y4,-y3,y0,h,hb,hi]
 ·simp[RC,-J,-y4,-y3,y0,h,hb]
theorem Wp (v:Vl)(h:v.kind=6):IC 221 [.agg (TC v)] (.bool (WF v)):=by
 refine mC (c:=RC) rfl rfl ?_;rw[nC];unfold WF;by_cases hb:v.b=false
 ·by_cases hi:v.i=0
  ·by_cases hs:v.s=⟨#[]⟩
   ·by_cases hk:v.keys=[]
    ·simp[RC,-J,-y4,-y3,y0,h,hb,hi,hs,hk]
    ·simp[RC,-J,-y4,-y3,y0,h,hb,hi,hs,hk]
   ·simp[RC,-J,-y4,-y3,y0,h,hb,hi,hs]
  ·simp[RC,-J,-y4,-y3,y0,h,hb,hi]
 ·simp[RC,-J,-y4,-y3,y0,h,hb]
theorem Ep (v:Vl)(h:v.kind=7):IC 221 [.agg (TC v)] (.bool (WF v)):=by
 refine mC (c:=RC) rfl rfl ?_;rw[nC];unfold WF;by_cases hb:v.b=false
 ·by_cases hi:v.i=0
  ·by_cases hs:v.s=⟨#[]⟩
   ·by_cases hd:v.id=0
    ·by_cases hk:v.keys=[]
     ·by_cases hr:v.rest=[]
      ·simp[RC,-J,-y4,-y3,y0,h,hb,hi,hs,hd,hk,hr]
      ·simp[RC,-J,-y4,-y3,y0,h,hb,hi,hs,hd,hk,hr]
     ·simp[RC,-J,-y4,-y3,y0,h,hb,hi,hs,hd,hk]
    ·simp[RC,-J,-y4,-y3,y0,h,hb,hi,hs,hd]
   ·simp[RC,-J,-y4,-y3,y0,h,hb,hi,hs]
  ·simp[RC,-J,-y4,-y3,y0,h,hb,hi]
 ·simp[RC,-J,-y4,-y3,y0,h,hb]
theorem Rp (v:Vl)(h:v.kind=8):IC 221 [.agg (TC v)] (.bool (WF v)):=by
 refine mC (c:=RC) rfl rfl ?_;rw[nC];unfold WF;by_cases hb:v.b=false
 ·by_cases hi:v.i=0
  ·by_cases hs:v.s=⟨#[]⟩
   ·by_cases hd:v.id=0
    ·by_cases hr:v.rest=[]
     ·simp[RC,-J,-y4,-y3,y0,h,hb,hi,hs,hd,hr]
     ·simp[RC,-J,-y4,-y3,y0,h,hb,hi,hs,hd,hr]
    ·simp[RC,-J,-y4,-y3,y0,h,hb,hi,hs,hd]
   ·simp[RC,-J,-y4,-y3,y0,h,hb,hi,hs]
  ·simp[RC,-J,-y4,-y3,y0,h,hb,hi]
 ·simp[RC,-J,-y4,-y3,y0,h,hb]
theorem Tp (v:Vl)(h:v.kind=9):IC 221 [.agg (TC v)] (.bool (WF v)):=by
 refine mC (c:=RC) rfl rfl ?_;rw[nC];unfold WF;by_cases hb:v.b=false
 ·by_cases hi:v.i=0
  ·by_cases hs:v.s=⟨#[]⟩
   ·by_cases hd:v.id=0
    ·by_cases hk:v.keys=[]
     ·by_cases hr:v.rest=[]
      ·simp[RC,-J,-y4,-y3,y0,h,hb,hi,hs,hd,hk,hr]
      ·simp[RC,-J,-y4,-y3,y0,h,hb,hi,hs,hd,hk,hr]
     ·simp[RC,-J,-y4,-y3,y0,h,hb,hi,hs,hd,hk]
    ·simp[RC,-J,-y4,-y3,y0,h,hb,hi,hs,hd]
   ·simp[RC,-J,-y4,-y3,y0,h,hb,hi,hs]
  ·simp[RC,-J,-y4,-y3,y0,h,hb,hi]
 ·simp[RC,-J,-y4,-y3,y0,h,hb]
section
set_option maxHeartbeats 400000
def RQ:Int->List Ea->Int
 |n,[]=>n
 |n,x::r=>RQ (IntKind.i64.wrap (IntKind.i64.wrap (n+1)+x.data.size)) r
mutual
def Z0:Vl->Int
 |.mk _ _ _ s _ _ ks _ xs _ rs=>RQ (XH (XH (IntKind.i64.wrap (1+s.size)) ks) xs) rs
def XH:Int->List Vl->Int
 |n,[]=>n
 |n,v::r=>XH (IntKind.i64.wrap (n+Z0 v)) r
end
theorem Fp (v:Vl):Z0 v=RQ (XH (XH (IntKind.i64.wrap (1+v.s.size)) v.keys) v.items) v.rest:=by
 cases v;rw[Z0];rfl
section
variable (n:Nat) (ih0:∀ v:Vl,SizeOf.sizeOf v<n->v.ok->IC 54 [.agg (TC v)] (.int .i64 (Z0 v))) {rv:RV} (v:Vl)
include n ih0 rv v
theorem El (hl:v.keys.length<=9223372036854775807)(hv:∀x∈v.keys,SizeOf.sizeOf x<n/\x.ok)(a0:Int)(s:OC)(e1:(s.env 1).v=.ptr 1 1 0)(m1:s.mem 1 1=some (kF v))(e3:(s.env 3).v=.int .i64 a0)(e4:(s.env 4).v=.int .i64 0)(k:Ex->OC->Option RV)
  (hk:∀s',(s'.env 1).v=.ptr 1 1 0->s'.mem 1 1=some (kF v)->(s'.env 3).v=.int .i64 (XH a0 v.keys)->k (.exit 0) s'=some rv):OL dD PC kK s k=some rv:=by
 refine ZC v.keys.length (fun i s=>(s.env 1).v=.ptr 1 1 0/\s.mem 1 1=some (kF v)/\(∃a,(s.env 3).v=.int .i64 a/\XH a (v.keys.drop i)=XH a0 v.keys)/\(s.env 4).v=.int .i64 i)
  (fun e s=>e=.exit 0/\(s.env 1).v=.ptr 1 1 0/\s.mem 1 1=some (kF v)/\(s.env 3).v=.int .i64 (XH a0 v.keys)) (fun i hi s k h ih hk=>?_) _ _ ⟨e1,m1,⟨a0,e3,rfl⟩,e4⟩ (fun e s h=>by obtain⟨rfl,h1,h2,h3⟩:=h;exact hk _ h1 h2 h3)
 obtain⟨e1,m1,⟨a,e3,hs⟩,ei⟩:=h;refine EC ?_;have m1':=m1;simp only[kF]at m1;by_cases fa:i<v.keys.length
 ·have ga:(i:Int)<v.keys.length:=by omega
  have g1:(v.keys.map TC)[i]?=some (TC v.keys[i]):=by simp[fa]
  have hw:=cD (i:=i);obtain⟨hx1,hx2⟩:=hv _ (y8 fa);have hx:=ih0 _ hx1 hx2;rw[yc fa,XH]at hs;generalize v.keys[i]=x at *
  simp only[IC,nC]at hx;rw[nC x]at g1;simp[kK,-J,-y4,-y3,y0,e1,m1,e3,ei,ga,g1,hx,hw];refine ih fa _ ⟨?_,?_,⟨_,?_,hs⟩,?_⟩
  ·simp[e1]
  ·simp[m1,kF]
  ·simp
  ·simp
 ·have ga:¬ (i:Int)<v.keys.length:=by omega
  rw[yf (by omega),XH]at hs;simp[kK,-J,-y4,-y3,y0,e1,m1,ei,ga];refine hk _ _ ⟨rfl,?_,?_,?_⟩
  ·simp[e1]
  ·simp[m1,kF]
  ·simp[e3,hs]
theorem Wl (hl:v.items.length<=9223372036854775807)(hv:∀x∈v.items,SizeOf.sizeOf x<n/\x.ok)(a0:Int)(s:OC)(e1:(s.env 1).v=.ptr 1 1 0)(m1:s.mem 1 1=some (kF v))(e3:(s.env 3).v=.int .i64 a0)(e5:(s.env 5).v=.int .i64 0)(k:Ex->OC->Option RV)
  (hk:∀s',(s'.env 1).v=.ptr 1 1 0->s'.mem 1 1=some (kF v)->(s'.env 3).v=.int .i64 (XH a0 v.items)->k (.exit 2) s'=some rv):OL dD PC jK s k=some rv:=by
 refine ZC v.items.length (fun i s=>(s.env 1).v=.ptr 1 1 0/\s.mem 1 1=some (kF v)/\(∃a,(s.env 3).v=.int .i64 a/\XH a (v.items.drop i)=XH a0 v.items)/\(s.env 5).v=.int .i64 i)
  (fun e s=>e=.exit 2/\(s.env 1).v=.ptr 1 1 0/\s.mem 1 1=some (kF v)/\(s.env 3).v=.int .i64 (XH a0 v.items)) (fun i hi s k h ih hk=>?_) _ _ ⟨e1,m1,⟨a0,e3,rfl⟩,e5⟩ (fun e s h=>by obtain⟨rfl,h1,h2,h3⟩:=h;exact hk _ h1 h2 h3)
 obtain⟨e1,m1,⟨a,e3,hs⟩,ei⟩:=h;refine EC ?_;have m1':=m1;simp only[kF]at m1;by_cases fa:i<v.items.length
 ·have ga:(i:Int)<v.items.length:=by omega
  have g1:(v.items.map TC)[i]?=some (TC v.items[i]):=by simp[fa]
  have hw:=cD (i:=i);obtain⟨hx1,hx2⟩:=hv _ (y8 fa);have hx:=ih0 _ hx1 hx2;rw[yc fa,XH]at hs;generalize v.items[i]=x at *
  simp only[IC,nC]at hx;rw[nC x]at g1;simp[jK,-J,-y4,-y3,y0,e1,m1,e3,ei,ga,g1,hx,hw];refine ih fa _ ⟨?_,?_,⟨_,?_,hs⟩,?_⟩
  ·simp[e1]
  ·simp[m1,kF]
  ·simp
  ·simp
 ·have ga:¬ (i:Int)<v.items.length:=by omega
  rw[yf (by omega),XH]at hs;simp[jK,-J,-y4,-y3,y0,e1,m1,ei,ga];refine hk _ _ ⟨rfl,?_,?_,?_⟩
  ·simp[e1]
  ·simp[m1,kF]
  ·simp[e3,hs]
end
theorem Ql {rv:RV}(v:Vl)(hl:v.rest.length<=9223372036854775807)(a0:Int)(s:OC)(e1:(s.env 1).v=.ptr 1 1 0)(m1:s.mem 1 1=some (kF v))(e3:(s.env 3).v=.int .i64 a0)(e6:(s.env 6).v=.int .i64 0)(k:Ex->OC->Option RV)
  (hk:∀s',(s'.env 3).v=.int .i64 (RQ a0 v.rest)->k (.exit 4) s'=some rv):OL dD PC gK s k=some rv:=by
 refine ZC v.rest.length (fun i s=>(s.env 1).v=.ptr 1 1 0/\s.mem 1 1=some (kF v)/\(∃a,(s.env 3).v=.int .i64 a/\RQ a (v.rest.drop i)=RQ a0 v.rest)/\(s.env 6).v=.int .i64 i)
  (fun e s=>e=.exit 4/\(s.env 3).v=.int .i64 (RQ a0 v.rest)) (fun i hi s k h ih hk=>?_) _ _ ⟨e1,m1,⟨a0,e3,rfl⟩,e6⟩ (fun e s h=>by obtain⟨rfl,h1⟩:=h;exact hk _ h1)
 obtain⟨e1,m1,⟨a,e3,hs⟩,ei⟩:=h;refine EC ?_;simp only[kF]at m1;by_cases fa:i<v.rest.length
 ·have ga:(i:Int)<v.rest.length:=by omega
  have g1:(v.rest.map qN)[i]?=some (qN v.rest[i]):=by simp[fa]
  have hw:=cD (i:=i);rw[yc fa,RQ]at hs;generalize v.rest[i]=x at *
  simp only[qN]at g1;simp[gK,-J,-y4,-y3,y0,e1,m1,e3,ei,ga,g1,hw];refine ih fa _ ⟨?_,?_,⟨_,?_,hs⟩,?_⟩
  ·simp[e1]
  ·simp[m1,kF]
  ·simp
  ·simp
 ·have ga:¬ (i:Int)<v.rest.length:=by omega
  rw[yf (by omega),RQ]at hs;simp[gK,-J,-y4,-y3,y0,e1,m1,ei,ga];exact hk _ _ ⟨rfl,by simp[e3,hs]⟩
theorem Dm:∀(n:Nat)(v:Vl),SizeOf.sizeOf v<n->v.ok->IC 54 [.agg (TC v)] (.int .i64 (Z0 v)):=by
 intro n
 induction n with
 |zero=>intro v h;omega
 |succ n ih =>
  intro v hn hv;rw[Vl.NA]at hv;obtain⟨k1,k2,k3,k4,k5,k6⟩:=hv;refine mC (c:=zN) rfl rfl ?_;rw[nC];simp[zN,-J,-y4,-y3,y0];refine El n ih v k1 (fun x hx=>⟨by have:=Vl.xA v x hx;omega,k5 x hx⟩) (IntKind.i64.wrap (1+v.s.size)) _ ?_ ?_ ?_ ?_ _ (fun s' e1 m1 e3=>?_)
  ·simp
  ·simp[kF]
  ·simp
  ·simp
  simp[-J,-y4,-y3,y0];refine Wl n ih v k2 (fun x hx=>⟨by have:=Vl.jA v x hx;omega,k6 x hx⟩) (XH (IntKind.i64.wrap (1+v.s.size)) v.keys) _ ?_ ?_ ?_ ?_ _ (fun s2 f1 n1 f3=>?_)
  ·simp[e1]
  ·simpa using m1
  ·simp[e3]
  ·simp
  simp[-J,-y4,-y3,y0];refine Ql v k3 (XH (XH (IntKind.i64.wrap (1+v.s.size)) v.keys) v.items) _ ?_ ?_ ?_ ?_ _ (fun s3 g3=>?_)
  ·simp[f1]
  ·simpa using n1
  ·simp[f3]
  ·simp
  simp[-J,-y4,-y3,y0,g3,Fp]
def dX:Int->List RE->Int
 |n,[]=>n
 |n,m::r=>dX (IntKind.i64.wrap (IntKind.i64.wrap (n+Z0 m.dflt)+m.name.size)) r
def typF (n:Int)(t:BC):Int:=dX (IntKind.i64.wrap (IntKind.i64.wrap (IntKind.i64.wrap (n+t.qA.length)+t.tA.length)+t.name.size)) (t.qA.take 100)
def JT:Int->List BC->Int
 |n,[]=>n
 |n,t::r=>JT (typF n t) r
def fewP (s:dR):Bool:=!decide (40<s.types.length)&&decide (JT 0 s.types<=400)
def p9 (t:BC):List WC:=(QC t).map (⟨·,.no⟩)
theorem Ac {rv:RV}(t:BC)(ht:∀m∈t.qA,m.ok)(hl:t.qA.length<=9223372036854775807){nl:Bool}{S:List BC}{j:Nat}{n5:Nat}(a0:Int)(s:OC)(e1:(s.env 1).v=.ptr 1 1 0)(m1:s.mem 1 1=some [⟨.sl nl (S.map QC),.no⟩])(e3:(s.env 3).v=.int .i64 a0)(e4:(s.env 4).v=.int .i64 j)(e5:(s.env 5).v=.ptr 5 n5 0)(m5:s.mem 5 n5=some (p9 t))(e6:(s.env 6).v=.int .i64 0)(k:Ex->OC->Option RV)
  (hk:∀s',(s'.env 1).v=.ptr 1 1 0->s'.mem 1 1=some [⟨.sl nl (S.map QC),.no⟩]->(s'.env 3).v=.int .i64 (dX a0 (t.qA.take 100))->(s'.env 4).v=.int .i64 j->k (.exit 2) s'=some rv):OL dD PC eJ s k=some rv:=by
 have hN:(t.qA.take 100).length<=t.qA.length/\(t.qA.take 100).length<=100/\((t.qA.take 100).length=t.qA.length\/(t.qA.take 100).length=100):=by
  rw[yM];omega
 obtain⟨N,hNe⟩:∃N,(t.qA.take 100).length=N:=⟨_,rfl⟩;rw[hNe]at hN;obtain⟨hN1,hN2,hN3⟩:=hN;refine ZC N (fun i s=>(s.env 1).v=.ptr 1 1 0/\s.mem 1 1=some [⟨.sl nl (S.map QC),.no⟩]/\(∃a,(s.env 3).v=.int .i64 a/\dX a ((t.qA.take 100).drop i)=dX a0 (t.qA.take 100))/\(s.env 4).v=.int .i64 j/\(s.env 5).v=.ptr 5 n5 0/\s.mem 5 n5=some (p9 t)/\(s.env 6).v=.int .i64 i)
  (fun e s=>e=.exit 2/\(s.env 1).v=.ptr 1 1 0/\s.mem 1 1=some [⟨.sl nl (S.map QC),.no⟩]/\(s.env 3).v=.int .i64 (dX a0 (t.qA.take 100))/\(s.env 4).v=.int .i64 j) (fun i hi s k h ih hk=>?_) _ _ ⟨e1,m1,⟨a0,e3,rfl⟩,e4,e5,m5,e6⟩ (fun e s h=>by obtain⟨rfl,h1,h2,h3,h4⟩:=h;exact hk _ h1 h2 h3 h4)
 obtain⟨e1,m1,⟨a,e3,hs⟩,e4,e5,m5,e6⟩:=h;refine EC ?_;simp only[p9,QC,yk,yq]at m5;by_cases fa:i<N
 ·have ga:(i:Int)<t.qA.length:=by omega
  have sd:(i:Int)<100:=by omega
  have mg:i<t.qA.length:=by omega
  have hi3:i<(t.qA.take 100).length:=by omega
  have g1:(t.qA.map uD)[i]?=some (uD t.qA[i]):=by simp[mg]
  have hw:=cD (i:=i);have hx:=Dm _ _ (Nat.lt_succ_self _) (ht _ (y8 mg)).1;rw[yc hi3,dX,List.getElem_take]at hs;generalize t.qA[i]=x at *
  simp only[uD]at g1;simp only[IC,nC]at hx;simp[eJ,-J,-y4,-y3,y0,e3,e5,m5,e6,ga,sd,g1,hx,hw];refine ih fa _ ⟨?_,?_,⟨_,?_,hs⟩,?_,?_,?_,?_⟩
  ·simp[e1]
  ·simp[m1]
  ·simp
  ·simp[e4]
  ·simp[e5]
  ·simp[m5,p9,QC]
  ·simp
 ·have ci:i=N:=by omega
  rw[yf (by omega),dX]at hs;by_cases c:(i:Int)<t.qA.length
  ·have c2:¬ (i:Int)<100:=by omega
   simp[eJ,-J,-y4,-y3,y0,e5,m5,e6,c,c2];exact hk _ _ ⟨rfl,by simp[e1],by simp[m1],by simp[e3,hs],by simp[e4]⟩
  ·simp[eJ,-J,-y4,-y3,y0,e5,m5,e6,c];exact hk _ _ ⟨rfl,by simp[e1],by simp[m1],by simp[e3,hs],by simp[e4]⟩
theorem few_ev (s:dR)(hs:s.ok):IC 23 [.agg (pD s)] (.bool (fewP s)):=by
 obtain⟨hl,ht⟩:=hs;refine mC (c:=HM) rfl rfl ?_;unfold fewP;by_cases c:40<s.types.length
 ·have c':(40:Int)<s.types.length:=by omega
  simp[HM,-J,-y4,-y3,y0,pD,c,c']
 have c':¬(40:Int)<s.types.length:=by omega
 simp[HM,-J,-y4,-y3,y0,pD,c,c'];refine ZC s.types.length (fun i st=>(st.env 1).v=.ptr 1 1 0/\st.mem 1 1=some [⟨.sl s.nl (s.types.map QC),.no⟩]/\(∃a,(st.env 3).v=.int .i64 a/\JT a (s.types.drop i)=JT 0 s.types)/\(st.env 4).v=.int .i64 i)
  (fun e st=>e=.exit 0/\(st.env 3).v=.int .i64 (JT 0 s.types)) (fun i hi st k h ih hk=>?_) _ _ ?_ (fun e st h=>?_)
 ·obtain ⟨e1,m1,⟨a,e3,jp⟩,e4⟩:=h;refine EC ?_;by_cases fa:i<s.types.length
  ·have ga:(i:Int)<s.types.length:=by omega
   have g1:(s.types.map QC)[i]?=some (QC s.types[i]):=by simp[fa]
   have hw:=cD (i:=i);have hto:=ht _ (y8 fa);rw[yc fa,JT]at jp;generalize s.types[i]=x at *
   simp only[QC]at g1;simp[NN,-J,-y4,-y3,y0,e1,m1,e3,e4,ga,g1];refine Ac (nl:=s.nl) (S:=s.types) x hto.2.2 hto.2.1 (j:=i) (n5:=st.next+1) (IntKind.i64.wrap (IntKind.i64.wrap (IntKind.i64.wrap (a+x.qA.length)+x.tA.length)+x.name.size)) _ ?_ ?_ ?_ ?_ ?_ ?_ ?_ _ (fun s' f1 n1 f3 f4=>?_)
   ·simp[e1]
   ·simp[m1]
   ·simp
   ·simp[e4]
   ·simp
   ·simp[p9,QC]
   ·simp
   ·simp [-J,-y4,-y3,y0,f4,hw];refine ih fa _ ⟨?_,?_,⟨_,?_,jp⟩,?_⟩
    ·simp[f1]
    ·simp[n1]
    ·simp[f3,typF]
    ·simp
  ·have ga:¬ (i:Int)<s.types.length:=by omega
   rw[yf (by omega),JT]at jp;simp[NN,-J,-y4,-y3,y0,e1,m1,e4,ga];exact hk _ _ ⟨rfl,by simp[e3,jp]⟩
 ·refine⟨?_,?_,⟨0,?_,rfl⟩,?_⟩<;>simp
 ·obtain⟨rfl,e3⟩:=h;simp[-J,-y4,-y3,y0,e3]
end
end Go.Proofs.YthnefkpplcmjdaaGreat
