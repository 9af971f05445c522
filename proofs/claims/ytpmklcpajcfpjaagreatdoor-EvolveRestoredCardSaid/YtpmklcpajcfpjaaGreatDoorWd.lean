/- A part of the proof. -/
import Derived.Test.YtpmklcpajcfpjaaGreatDoorWc
import Derived.Laws.CopyRow
import Derived.Lib.AppendZerosOnto
import Derived.Deep.RegionWith
import Derived.Deep.RegionHeld3
import Derived.BigQuiet
import Derived.Lib.Overlaps
import Derived.Laws.Externs
import Derived.Shelf.Strconv.Itoa3
import Derived.Shelf.Strings.OnBuilder
import Derived.Test.YtpmklcpajcfpjaaGreatDoorProg
set_option linter.all false
set_option maxRecDepth 100000
set_option maxHeartbeats 8000000
open Option renaming bind_some → J, bind_eq_some_iff → yh, map_eq_some_iff → yq, map_some → yB
open List renaming range_succ → y0, map_map → y9, length_map → yc, all_eq_true → ye, getElem?_eq_getElem → yf, length_append → yj, getElem?_map → yk, map_cons → ym, getElem?_eq_some_iff → yn, mem_of_getElem? → yr, mem_append → yu, drop_eq_getElem_cons → yv, drop_eq_nil_of_le → yw, append_assoc → yx, length_take → yz, flatten_cons → yA, getElem_mem → yC, mem_map → yD, append_nil → yF, length_cons → yG, getElem?_drop → yI, length_drop → yJ, getElem?_take → yK, getElem?_append_right → yP, map_nil → yQ, mem_flatMap → yR, getElem?_append_left → yT, map_take → yW, size_toArray → yY, nil_append → Y00, map_append → Y03, eq_nil_of_length_eq_zero → Y04, drop_zero → Y05, getElem?_eq_none → Y08, flatMap_cons → Y0a, take_of_length_le → Y0b, take_append_drop → Y0c, mem_of_mem_take → Y0i, flatten_append → Y0l, take_append_getElem → Y0m
open Int renaming toNat_lt → yb
open Bool renaming and_eq_true → yg
open Nat renaming le_refl → yl, zero_add → yy, add_mul → yL, add_zero → yV, eq_zero_or_pos → yZ, mul_le_mul_right → Y0e, add_sub_cancel_left → Y0g
open Array renaming length_toList → Y02
namespace Go.Proofs.YtpmklcpajcfpjaaGreatDoor
open Go
structure Eb where
 id:Int
 data:ByteArray
 deriving DecidableEq
inductive Vl where
 |mk (kind:Int) (b:Bool) (i:Int) (s:ByteArray) (id:Int) (kn:Bool) (keys:List Vl) (xn:Bool) (items:List Vl) (rn:Bool) (rest:List Eb)
namespace Vl
def kind:Vl->Int|.mk k _ _ _ _ _ _ _ _ _ _=>k
def b:Vl->Bool|.mk _ b _ _ _ _ _ _ _ _ _=>b
def i:Vl->Int|.mk _ _ i _ _ _ _ _ _ _ _=>i
def s:Vl->ByteArray|.mk _ _ _ s _ _ _ _ _ _ _=>s
def id:Vl->Int|.mk _ _ _ _ d _ _ _ _ _ _=>d
def kn:Vl->Bool|.mk _ _ _ _ _ k _ _ _ _ _=>k
def keys:Vl->List Vl|.mk _ _ _ _ _ _ l _ _ _ _=>l
def xn:Vl->Bool|.mk _ _ _ _ _ _ _ x _ _ _=>x
def items:Vl->List Vl|.mk _ _ _ _ _ _ _ _ l _ _=>l
def rn:Vl->Bool|.mk _ _ _ _ _ _ _ _ _ r _=>r
def rest:Vl->List Eb|.mk _ _ _ _ _ _ _ _ _ _ l=>l
theorem ZB (v x:Vl)(h:x∈v.keys):SizeOf.sizeOf x<SizeOf.sizeOf v:=by
 cases v;have:=List.sizeOf_lt_of_mem h;simp only[keys]at this;simp only[mk.sizeOf_spec];omega
theorem OB (v x:Vl)(h:x∈v.items):SizeOf.sizeOf x<SizeOf.sizeOf v:=by
 cases v;have:=List.sizeOf_lt_of_mem h;simp only[items]at this;simp only[mk.sizeOf_spec];omega
end Vl
def rN (r:Eb):List AV:=[.int .i64 r.id,.str r.data]
mutual
def WE:Vl->List AV
 |.mk k b i s d kn ks xn xs rn rs=>[.int .i64 k,.bool b,.int .i64 i,.str s,.int .i64 d,.sl kn (Q5 ks),.sl xn (Q5 xs),.sl rn (rs.map rN)]
def Q5:List Vl->List (List AV)
 | []=>[]
 |v::r=>WE v::Q5 r
end
theorem HX:∀l:List Vl,Q5 l=l.map WE
 | []=>by rw[Q5];rfl
 |v::r=>by rw[Q5,HX r];rfl
theorem EF (v:Vl):WE v=[.int .i64 v.kind,.bool v.b,.int .i64 v.i,.str v.s,.int .i64 v.id,.sl v.kn (v.keys.map WE),.sl v.xn (v.items.map WE),.sl v.rn (v.rest.map rN)]:=by
 cases v;rw[WE,HX,HX];rfl
mutual
/-- lengths that occur -/
def Vl.ok:Vl->Prop
 |.mk _ _ _ s _ _ ks _ xs _ rs=>ks.length<=9223372036854775807/\xs.length<=9223372036854775807/\rs.length<=9223372036854775807/\s.size<=9223372036854775807/\Vl.oks ks/\Vl.oks xs
def Vl.oks:List Vl->Prop
 | []=>True
 |v::r=>Vl.ok v/\Vl.oks r
end
theorem Vl.dC:∀l:List Vl,Vl.oks l ↔ ∀v∈l,v.ok
 | []=>by simp[Vl.oks]
 |v::r=>by simp[Vl.oks,Vl.dC r]
theorem Vl.WB (v:Vl):v.ok↔v.keys.length<=9223372036854775807/\v.items.length<=9223372036854775807/\v.rest.length<=9223372036854775807/\v.s.size<=9223372036854775807/\(∀x∈v.keys,x.ok)/\∀x∈v.items,x.ok:=by
 cases v;rw[Vl.ok,Vl.dC,Vl.dC];rfl
def Vl.zero:Vl:=.mk 0 false 0 ⟨#[]⟩ 0 true [] true [] true []
structure PG where
 id:Int
 name:ByteArray
 deriving DecidableEq
def fD (x:PG):List AV:=[.int .i64 x.id,.str x.name]
structure ED where
 id:Int
 name:ByteArray
 ty:Int
 gB:Bool
 has:Bool
 dflt:Vl
def rD (m:ED):List AV:=[.int .i64 m.id,.str m.name,.int .i64 m.ty,.bool m.gB,.bool m.has,.int .i64 m.dflt.kind,.bool m.dflt.b,.int .i64 m.dflt.i,.str m.dflt.s,.int .i64 m.dflt.id,.sl m.dflt.kn (m.dflt.keys.map WE),.sl m.dflt.xn (m.dflt.items.map WE),.sl m.dflt.rn (m.dflt.rest.map rN)]
structure BC where
 kind:Int
 name:ByteArray
 low:Int
 high:Int
 max:Int
 sn:Bool
 wA:List PG
 mn:Bool
 qA:List ED
 key:Int
 elem:Int
 opn:Bool
def GC (t:BC):List AV:=[.int .i64 t.kind,.str t.name,.int .i64 t.low,.int .i64 t.high,.int .i64 t.max,.sl t.sn (t.wA.map fD),.sl t.mn (t.qA.map rD),.int .i64 t.key,.int .i64 t.elem,.bool t.opn]
structure CT where
 nl:Bool
 types:List BC
def xK (s:CT):List AV:=[.sl s.nl (s.types.map GC)]
def ED.ok (m:ED):Prop:=m.dflt.ok/\m.name.size<=9223372036854775807
def BC.ok (t:BC):Prop:=t.wA.length<=9223372036854775807/\t.qA.length<=9223372036854775807/\∀m∈t.qA,m.ok
def CT.ok (s:CT):Prop:=s.types.length<=9223372036854775807/\∀t∈s.types,t.ok
theorem rE {i:Nat}(h:i<9223372036854775807:=by omega):IntKind.i64.wrap ((i:Int)+1)=((i+1:Nat):Int):=by
 rw[IntWalk.i64_in _ (by omega)];rfl
theorem O2 (v:Vl):(WE v).length=8:=by rw[EF];rfl
theorem CS (l:List Vl):kD 8 (l.map WE)=true:=nF _ _ _ O2
theorem Ju (l:List Eb):kD 2 (l.map rN)=true:=nF _ _ _ fun _=>rfl
theorem AH (l:List PG):kD 2 (l.map fD)=true:=nF _ _ _ fun _=>rfl
theorem dG (l:List ED):kD 13 (l.map rD)=true:=nF _ _ _ fun _=>rfl
theorem Ku (l:List BC):kD 10 (l.map GC)=true:=nF _ _ _ fun _=>rfl
theorem tD {f:Nat}{c:FD}{args:List AV}{r:RV}(hT:MC f=some c)(hl:args.length=c.np)(h:c.code.run (sF MC ZC) (jH MC ZC) (LC.init args none) (JJ c none)=some r)(hm:zI args=false:=by rfl):sF MC ZC f args none=some r:=GJ c hT hl h hm
abbrev BD (f:Nat)(args:List AV)(v:AV):Prop:=sF MC ZC f args none=some (v,none)
def eU (x:Int):Bool:=decide (x=95)||(decide (97<=x)&&decide (x<=122))||(decide (65<=x)&&decide (x<=90))
def HZ (x:Int):Bool:=decide (48<=x)&&decide (x<=57)
def CI (s:ByteArray):Nat->Nat->Bool
 |0,_=>true
 | n+1,i=>(match s[i]? with | some u=>eU u.toNat||HZ u.toNat | none=>false)&&CI s n (i+1)
def eI (s:ByteArray):Bool:=decide (s.size≠0)&&decide (s.size<=24)&&(match s[0]? with|some u=>eU u.toNat|none=>false)&&CI s s.size 0
theorem P4 (x:Int):BD 109 [.int .u8 x] (.bool (eU x)):=by
 refine tD (c:=AJ) rfl rfl ?_;unfold eU;by_cases h1:x=95<;>by_cases h2:97<=x<;>by_cases h3:65<=x<;>by_cases h4:x<=122<;>by_cases h5:x<=90<;>simp[AJ,-J,tE,y0,h1,h2,h3,h4,h5]
theorem Lj (x:Int):BD 110 [.int .u8 x] (.bool (HZ x)):=by
 refine tD (c:=mK) rfl rfl ?_;unfold HZ;by_cases h1:48<=x<;>simp[mK,-J,tE,y0,h1]
theorem U1 (x:Int):BD 119 [.int .u8 x] (.bool (eU x)):=by
 refine tD (c:=iL) rfl rfl ?_;unfold eU;by_cases h1:x=95<;>by_cases h2:97<=x<;>by_cases h3:65<=x<;>by_cases h4:x<=122<;>by_cases h5:x<=90<;>simp[iL,-J,tE,y0,h1,h2,h3,h4,h5]
theorem Ad (x:Int):BD 120 [.int .u8 x] (.bool (HZ x)):=by
 refine tD (c:=lM) rfl rfl ?_;unfold HZ;by_cases h1:48<=x<;>simp[lM,-J,tE,y0,h1]
theorem XS {s:ByteArray}{i:Nat}(h:i<s.size):∃u,s[i]?=some u:=⟨s[i],getElem?_pos s i h⟩
theorem name_lp (s:ByteArray)(hs:s.size<=24)(r:RV)(k:Ex->LC->Option RV)(hk:∀s',CI s s.size 0=true->k (.exit 0) s'=some r)(hr:∀s':LC,CI s s.size 0=false->(s'.env 2).v=.bool false->k .ret s'=some r):
  ∀(n i:Nat),i+n=s.size->CI s n i=CI s s.size 0->∀s':LC,(s'.env 0).v=.str s->(s'.env 18).v=.int .i64 s.size->(s'.env 19).v=.int .i64 i->HJ MC ZC CG s' k=some r:=by
 intro n
 induction n with
 |zero =>
  intro i hi hf s' e0 e18 fu;have ba:¬((i:Int)<s.size):=by omega
  refine wD ?_;simp[CG,-J,tE,y0,e0,e18,fu,ba];exact hk _ (by rw[<- hf];rfl)
 |succ n ih =>
  intro i hi hf s' e0 e18 fu;have ba:(i:Int)<s.size:=by omega
  obtain⟨u,hu⟩:=XS (s:=s) (i:=i) (by omega);have hw:=rE (i:=i);have h1:=P4 u.toNat;have h2:=Lj u.toNat;simp only[CI,hu]at hf;refine wD ?_;cases b1:eU u.toNat with
  |true =>
   simp only[b1]at h1 hf;simp[CG,-J,tE,y0,e0,e18,fu,ba,hu,h1,hw];refine ih (i+1) (by omega) (by simpa using hf) _ ?_ ?_ ?_<;>simp[*]
  |false =>
   cases b2:HZ u.toNat with
   |true =>
    simp only[b1,b2]at h1 h2 hf;simp[CG,-J,tE,y0,e0,e18,fu,ba,hu,h1,h2,hw];refine ih (i+1) (by omega) (by simpa using hf) _ ?_ ?_ ?_<;>simp[*]
   |false =>
    simp only[b1,b2]at h1 h2 hf;simp[CG,-J,tE,y0,e0,e18,fu,ba,hu,h1,h2,hw];refine hr _ (by simpa using hf.symm) ?_;simp
theorem Fi (s:ByteArray):BD 78 [.str s] (.bool (eI s)):=by
 refine tD (c:=nH) rfl rfl ?_;unfold eI;by_cases h0:s=⟨#[]⟩
 ·subst h0;simp[nH,-J,tE,y0];exact fun h=>absurd rfl h
 ·have hz:s.size≠0:=fun h=>h0 (by
   obtain⟨d⟩:=s;have h:d.size=0:=h;rw[Array.eq_empty_of_size_eq_zero h])
  by_cases h1:s.size<=24
  ·have kq:¬ ((24:Int)<s.size):=by omega
   obtain⟨u,hu⟩:=XS (s:=s) (i:=0) (by omega);have h2:=P4 u.toNat;cases b1:eU u.toNat with
   |false =>
    simp only[b1]at h2;simp[nH,-J,tE,y0,h0,kq,hu,h2,b1]
   |true =>
    simp only[b1]at h2;simp[nH,-J,tE,y0,h0,kq,hu,h2,b1,hz,h1];refine name_lp s h1 _ _ (fun s' hf=>?main) (fun s' hf h2=>?main2) s.size 0 (by simp) rfl _ ?_ ?_ ?_
    case main=>simp[-J,tE,y0,hf]
    case main2=>simp[-J,tE,y0,hf,h2]
    all_goals simp
  ·have kq:(24:Int)<s.size:=by omega
   simp[nH,-J,tE,y0,h0,kq,h1]
theorem Uc (s:ByteArray)(hs:s.size<=24)(r:RV)(k:Ex->LC->Option RV)(hk:∀s',CI s s.size 0=true->k (.exit 0) s'=some r)(hr:∀s':LC,CI s s.size 0=false->(s'.env 2).v=.bool false->k .ret s'=some r):
  ∀(n i:Nat),i+n=s.size->CI s n i=CI s s.size 0->∀s':LC,(s'.env 0).v=.str s->(s'.env 3).v=.int .i64 i->HJ MC ZC BG s' k=some r:=by
 intro n
 induction n with
 |zero =>
  intro i hi hf s' e0 e3;have ba:¬((i:Int)<s.size):=by omega
  refine wD ?_;simp[BG,-J,tE,y0,e0,e3,ba];exact hk _ (by rw[<- hf];rfl)
 |succ n ih =>
  intro i hi hf s' e0 e3;have ba:(i:Int)<s.size:=by omega
  obtain⟨u,hu⟩:=XS (s:=s) (i:=i) (by omega);have hw:=rE (i:=i);have h1:=U1 u.toNat;have h2:=Ad u.toNat;simp only[CI,hu]at hf;refine wD ?_;cases b1:eU u.toNat with
  |true =>
   simp only[b1]at h1 hf;simp[BG,-J,tE,y0,e0,e3,ba,hu,h1,hw];refine ih (i+1) (by omega) (by simpa using hf) _ ?_ ?_<;>simp[*]
  |false =>
   cases b2:HZ u.toNat with
   |true =>
    simp only[b1,b2]at h1 h2 hf;simp[BG,-J,tE,y0,e0,e3,ba,hu,h1,h2,hw];refine ih (i+1) (by omega) (by simpa using hf) _ ?_ ?_<;>simp[*]
   |false =>
    simp only[b1,b2]at h1 h2 hf;simp[BG,-J,tE,y0,e0,e3,ba,hu,h1,h2,hw];refine hr _ (by simpa using hf.symm) ?_;simp
theorem I1 (s:ByteArray):BD 88 [.str s] (.bool (eI s)):=by
 refine tD (c:=mH) rfl rfl ?_;unfold eI;by_cases h0:s=⟨#[]⟩
 ·subst h0;simp[mH,-J,tE,y0];exact fun h=>absurd rfl h
 ·have hz:s.size≠0:=fun h=>h0 (by
   obtain⟨d⟩:=s;have h:d.size=0:=h;rw[Array.eq_empty_of_size_eq_zero h])
  by_cases h1:s.size<=24
  ·have kq:¬ ((24:Int)<s.size):=by omega
   obtain⟨u,hu⟩:=XS (s:=s) (i:=0) (by omega);have h2:=U1 u.toNat;cases b1:eU u.toNat with
   |false =>
    simp only[b1]at h2;simp[mH,-J,tE,y0,h0,kq,hu,h2,b1]
   |true =>
    simp only[b1]at h2;simp[mH,-J,tE,y0,h0,kq,hu,h2,b1,hz,h1];refine Uc s h1 _ _ (fun s' hf=>?main) (fun s' hf h2=>?main2) s.size 0 (by simp) rfl _ ?_ ?_
    case main=>simp[-J,tE,y0,hf]
    case main2=>simp[-J,tE,y0,hf,h2]
    all_goals simp
  ·have kq:(24:Int)<s.size:=by omega
   simp[mH,-J,tE,y0,h0,kq,h1]
mutual
def Vl.same:Vl->Vl->Bool
 |.mk k b i s d _ ks _ xs _ rs,.mk k' b' i' s' d' _ ks' _ pk _ rs'=>decide (k=k')&&(b == b')&&decide (i=i')&&decide (s=s')&&decide (d=d')&&decide (rs=rs')&&Vl.jA ks ks'&&Vl.jA xs pk
def Vl.jA:List Vl->List Vl->Bool
 | [],[]=>true
 |v::r,v'::r'=>Vl.same v v'&&Vl.jA r r'
 | [],_::_=>false
 |_::_,[]=>false
end
theorem Vl.wC (v w:Vl):v.same w=(decide (v.kind=w.kind)&&(v.b == w.b)&&decide (v.i=w.i)&&decide (v.s=w.s)&&decide (v.id=w.id)&&decide (v.rest=w.rest)&&Vl.jA v.keys w.keys&&Vl.jA v.items w.items):=by
 cases v;cases w;rw[Vl.same];rfl
theorem Vl.AB:∀l m:List Vl,l.length≠m.length->Vl.jA l m=false
 | [],[],h=>absurd rfl h
 | [],_::_,_=>by rw[Vl.jA]
 |_::_,[],_=>by rw[Vl.jA]
 |v::r,w::r',h=>by rw[Vl.jA,Vl.AB r r' (by simpa using h)];simp
theorem raws_lp (rs qs:List Eb)(hl:rs.length<=9223372036854775807)(he:rs.length=qs.length)(b1 b2:Bool)(r:RV)(k:Ex->LC->Option RV)(hk:∀s',rs=qs->k (.exit 0) s'=some r)(hr:∀s':LC,rs≠qs->(s'.env 4).v=.bool false->k .ret s'=some r):
  ∀(n i:Nat),i+n=rs.length->(rs.drop i=qs.drop i↔rs=qs)->∀s':LC,(s'.env 0).v=.sl b1 (rs.map rN)->(s'.env 1).v=.sl b2 (qs.map rN)->(s'.env 12).v=.int .i64 rs.length->(s'.env 13).v=.int .i64 i->HJ MC ZC KE s' k=some r:=by
 intro n
 induction n with
 |zero =>
  intro i hi hf s' e0 e1 e12 e13;have ba:¬((i:Int)<rs.length):=by omega
  refine wD ?_;simp[KE,-J,tE,y0,e12,e13,ba];exact hk _ (hf.1 (by rw[yw (by omega),yw (by omega)]))
 |succ n ih =>
  intro i hi hf s' e0 e1 e12 e13;have ba:(i:Int)<rs.length:=by omega
  have zg:i<rs.length:=by omega
  have xf:i<qs.length:=by omega
  have hw:=rE (i:=i);have g1:(rs.map rN)[i]?=some (rN rs[i]):=by simp[zg]
  have g2:(qs.map rN)[i]?=some (rN qs[i]):=by simp[xf]
  rw[yv zg,yv xf]at hf;simp only[List.cons.injEq]at hf;generalize rs[i]=x at *
  generalize qs[i]=y at *
  obtain⟨xi,xd⟩:=x;obtain⟨yi,yd⟩:=y;simp only[rN]at g1 g2;simp only[Eb.mk.injEq]at hf;refine wD ?_;by_cases h1:xi=yi
  ·by_cases h2:xd=yd
   ·subst h1 h2;simp[KE,-J,tE,y0,e0,e1,e12,e13,ba,g1,g2,BM,hw];refine ih (i+1) (by omega) (by simpa using hf) _ ?_ ?_ ?_ ?_<;>simp[*]
   ·subst h1;simp[KE,-J,tE,y0,e0,e1,e12,e13,ba,g1,g2,BM,h2];exact hr _ (fun h=>h2 (hf.2 h).1.2) (by simp)
  ·simp[KE,-J,tE,y0,e0,e1,e12,e13,ba,g1,g2,BM,h1];exact hr _ (fun h=>h1 (hf.2 h).1.1) (by simp)
theorem Bi (rs qs:List Eb)(hl:rs.length<=9223372036854775807)(b1 b2:Bool):BD 117 [.sl b1 (rs.map rN),.sl b2 (qs.map rN)] (.bool (decide (rs=qs))):=by
 refine tD (c:=aG) rfl rfl ?_;by_cases he:rs.length=qs.length
 ·have uh:(rs.length:Int)=qs.length:=by omega
  simp[aG,-J,tE,y0,he];refine raws_lp rs qs hl he b1 b2 _ _ (fun s' hf=>?main) (fun s' hf h4=>?main2) rs.length 0 (by simp) (by simp) _ ?_ ?_ ?_ ?_
  case main=>simp[-J,tE,y0,hf]
  case main2=>simp[-J,tE,y0,hf,h4]
  all_goals simp[he]
 ·have uh:¬ (rs.length:Int)=qs.length:=by omega
  have ua:rs≠qs:=fun h=>he (by rw[h])
  simp[aG,-J,tE,y0,uh,ua]
theorem eqf_lp (F:Nat)(l m:List Vl)(hl:l.length<=9223372036854775807)(he:l.length=m.length)(hF:∀x∈l,∀y∈m,BD F [.agg (WE x),.agg (WE y)] (.bool (x.same y)))(b1 b2:Bool)(r:RV)(k:Ex->LC->Option RV)(hk:∀s',Vl.jA l m=true->k (.exit 0) s'=some r)(hr:∀s':LC,Vl.jA l m=false->(s'.env 6).v=.bool false->k .ret s'=some r):
  ∀(n i:Nat),i+n=l.length->Vl.jA (l.drop i) (m.drop i)=Vl.jA l m->∀s':LC,(s'.env 1).v=.sl b2 (m.map WE)->(s'.env 2).v=.fn F []->(s'.env 15).v=.sl b1 (l.map WE)->(s'.env 16).v=.int .i64 l.length->(s'.env 17).v=.int .i64 i->HJ MC ZC nE s' k=some r:=by
 intro n
 induction n with
 |zero =>
  intro i hi hf s' e1 e2 pj dk mr;have ba:¬((i:Int)<l.length):=by omega
  refine wD ?_;simp[nE,-J,tE,y0,dk,mr,ba];refine hk _ ?_;rw[<- hf,yw (by omega),yw (by omega),Vl.jA]
 |succ n ih =>
  intro i hi hf s' e1 e2 pj dk mr;have ba:(i:Int)<l.length:=by omega
  have zg:i<l.length:=by omega
  have xf:i<m.length:=by omega
  have hw:=rE (i:=i);have g1:(l.map WE)[i]?=some (WE l[i]):=by simp[zg]
  have g2:(m.map WE)[i]?=some (WE m[i]):=by simp[xf]
  have hx:=hF l[i] (yC _) m[i] (yC _);rw[yv zg,yv xf,Vl.jA]at hf;generalize l[i]=x at *
  generalize m[i]=y at *
  simp only[BD,EF]at g1 g2 hx;refine wD ?_;cases h1:x.same y with
  |true =>
   rw[h1]at hx hf;simp[nE,-J,tE,y0,e1,e2,pj,dk,mr,ba,g1,g2,tI,gG,hx,hw];refine ih (i+1) (by omega) (by simpa using hf) _ ?_ ?_ ?_ ?_ ?_<;>simp[*]
  |false =>
   rw[h1]at hx hf;simp[nE,-J,tE,y0,e1,e2,pj,dk,mr,ba,g1,g2,tI,gG,hx];exact hr _ (by simpa using hf.symm) (by simp)
theorem K5 (F:Nat)(l m:List Vl)(hl:l.length<=9223372036854775807)(hF:∀x∈l,∀y∈m,BD F [.agg (WE x),.agg (WE y)] (.bool (x.same y)))(b1 b2:Bool):BD 118 [.sl b1 (l.map WE),.sl b2 (m.map WE),.fn F []] (.bool (Vl.jA l m)):=by
 refine tD (c:=XE) rfl rfl ?_;by_cases he:l.length=m.length
 ·simp [XE,-J,tE,y0,he];refine eqf_lp F l m hl he hF b1 b2 _ _ (fun s' hf=>?main) (fun s' hf h4=>?main2) l.length 0 (by simp) (by simp) _ ?_ ?_ ?_ ?_ ?_
  case main=>simp[-J,tE,y0,hf]
  case main2=>simp[-J,tE,y0,hf,h4]
  all_goals simp[he]
 ·have uh:¬ (l.length:Int)=m.length:=by omega
  simp[XE,-J,tE,y0,uh,Vl.AB l m he]
theorem Ro:∀(n:Nat)(v w:Vl),SizeOf.sizeOf v<n->v.ok->BD 116 [.agg (WE v),.agg (WE w)] (.bool (v.same w)):=by
 intro n
 induction n with
 |zero=>intro v w h;omega
 |succ n ih =>
  intro v w hn hv;rw[Vl.WB]at hv;obtain⟨o1,o2,o3,o4,o5,o6⟩:=hv;have hr:=Bi v.rest w.rest o3 v.rn w.rn;have af:=K5 116 v.keys w.keys o1 (fun x hx y _=>ih x y (by have:=Vl.ZB v x hx;omega) (o5 x hx)) v.kn w.kn;have oc:=K5 116 v.items w.items o2 (fun x hx y _=>ih x y (by have:=Vl.OB v x hx;omega) (o6 x hx)) v.xn w.xn;simp only[BD]at hr af oc;refine tD (c:=AF) rfl rfl ?_;rw[EF,EF,Vl.wC];by_cases h1:v.kind=w.kind
  ·by_cases h2:v.b=w.b
   ·by_cases h3:v.i=w.i
    ·by_cases h4:v.s=w.s
     ·by_cases h5:v.id=w.id
      ·by_cases h6:v.rest=w.rest
       ·cases h7:Vl.jA v.keys w.keys with
        |true=>rw[h7]at af;simp[AF,-J,tE,y0,h1,h2,h3,h4,h5,h6▸hr,h6,tI,gG,af,oc,h7]
        |false=>rw[h7]at af;simp[AF,-J,tE,y0,h1,h2,h3,h4,h5,h6▸hr,h6,tI,gG,af,h7]
       ·simp[AF,-J,tE,y0,h1,h2,h3,h4,h5,hr,h6]
      ·simp[AF,-J,tE,y0,h1,h2,h3,h4,h5]
     ·simp[AF,-J,tE,y0,h1,h2,h3,h4]
    ·simp[AF,-J,tE,y0,h1,h2,h3]
   ·simp[AF,-J,tE,y0,h1,h2]
  ·simp[AF,-J,tE,y0,h1]
abbrev B6 (v:Vl):List SC:=[⟨.int .i64 v.kind,.no⟩,⟨.bool v.b,.no⟩,⟨.int .i64 v.i,.no⟩,⟨.str v.s,.no⟩,⟨.int .i64 v.id,.no⟩,⟨.sl v.kn (v.keys.map WE),.no⟩,⟨.sl v.xn (v.items.map WE),.no⟩,⟨.sl v.rn (v.rest.map rN),.no⟩]
theorem Sc (v w:Vl)(hl:v.rest.length<=9223372036854775807)(he:v.rest.length=w.rest.length)(m:Nat)(r:RV)(k:Ex->LC->Option RV)
  (hk:∀s':LC,v.rest=w.rest->(s'.env 2).v=.ptr 2 m 0->(s'.env 3).v=.ptr 3 m 0->s'.mem 2 m=some (B6 v)->s'.mem 3 m=some (B6 w)->k (.exit 0) s'=some r) (hr:∀s':LC,v.rest≠w.rest->(s'.env 4).v=.bool false->k .ret s'=some r) :
  ∀(n i:Nat),i+n=v.rest.length->(v.rest.drop i=w.rest.drop i↔v.rest=w.rest)->∀s':LC,(s'.env 2).v=.ptr 2 m 0->(s'.env 3).v=.ptr 3 m 0->s'.mem 2 m=some (B6 v)->s'.mem 3 m=some (B6 w)->(s'.env 5).v=.int .i64 i->HJ MC ZC wG s' k=some r:=by
 intro n
 induction n with
 |zero =>
  intro i hi hf s' e2 e3 m2 m3 e5;have ba:¬((i:Int)<v.rest.length):=by omega
  refine wD ?_;simp[wG,-J,tE,y0,e2,e3,m2,m3,e5,ba];exact hk _ (hf.1 (by rw[yw (by omega),yw (by omega)])) (by simp[e2]) (by simp[e3]) (by simp[m2]) (by simp[m3])
 |succ n ih =>
  intro i hi hf s' e2 e3 m2 m3 e5;have ba:(i:Int)<v.rest.length:=by omega
  have zg:i<v.rest.length:=by omega
  have xf:i<w.rest.length:=by omega
  have hw:=rE (i:=i);have g1:(v.rest.map rN)[i]?=some (rN v.rest[i]):=by simp[zg]
  have g2:(w.rest.map rN)[i]?=some (rN w.rest[i]):=by simp[xf]
  rw[yv zg,yv xf]at hf;simp only[List.cons.injEq]at hf;generalize v.rest[i]=x at *
  generalize w.rest[i]=y at *
  obtain⟨xi,xd⟩:=x;obtain⟨yi,yd⟩:=y;simp only[rN]at g1 g2;simp only[Eb.mk.injEq]at hf;refine wD ?_;by_cases h1:xi=yi
  ·by_cases h2:xd=yd
   ·subst h1 h2;simp[wG,-J,tE,y0,e2,e3,m2,m3,e5,ba,g1,g2,BM,hw];refine ih (i+1) (by omega) (by simpa using hf) _ ?_ ?_ ?_ ?_ ?_<;>simp[*]
   ·subst h1;simp[wG,-J,tE,y0,e2,e3,m2,m3,e5,ba,g1,g2,BM,h2];exact hr _ (fun h=>h2 (hf.2 h).1.2) (by simp)
  ·simp[wG,-J,tE,y0,e2,e3,m2,m3,e5,ba,g1,g2,BM,h1];exact hr _ (fun h=>h1 (hf.2 h).1.1) (by simp)
theorem Gd (l m:List Vl)(hl:l.length<=9223372036854775807)(he:l.length=m.length)(hF:∀x∈l,∀y∈m,BD 95 [.agg (WE x),.agg (WE y)] (.bool (x.same y)))(b1 b2:Bool)(r:RV)(k:Ex->LC->Option RV)(hk:∀s',Vl.jA l m=true->k (.exit 0) s'=some r)(hr:∀s':LC,Vl.jA l m=false->(s'.env 4).v=.bool false->k .ret s'=some r):
  ∀(n i:Nat),i+n=l.length->Vl.jA (l.drop i) (m.drop i)=Vl.jA l m->∀s':LC,(s'.env 0).v=.sl b1 (l.map WE)->(s'.env 1).v=.sl b2 (m.map WE)->(s'.env 5).v=.int .i64 i->HJ MC ZC nG s' k=some r:=by
 intro n
 induction n with
 |zero =>
  intro i hi hf s' e0 e1 e5;have ba:¬((i:Int)<l.length):=by omega
  refine wD ?_;simp[nG,-J,tE,y0,e0,e5,ba];refine hk _ ?_;rw[<- hf,yw (by omega),yw (by omega),Vl.jA]
 |succ n ih =>
  intro i hi hf s' e0 e1 e5;have ba:(i:Int)<l.length:=by omega
  have zg:i<l.length:=by omega
  have xf:i<m.length:=by omega
  have hw:=rE (i:=i);have g1:(l.map WE)[i]?=some (WE l[i]):=by simp[zg]
  have g2:(m.map WE)[i]?=some (WE m[i]):=by simp[xf]
  have hx:=hF l[i] (yC _) m[i] (yC _);rw[yv zg,yv xf,Vl.jA]at hf;generalize l[i]=x at *
  generalize m[i]=y at *
  simp only[BD,EF]at g1 g2 hx;refine wD ?_;cases h1:x.same y with
  |true =>
   rw[h1]at hx hf;simp[nG,-J,tE,y0,e0,e1,e5,ba,g1,g2,tI,hx,hw];refine ih (i+1) (by omega) (by simpa using hf) _ ?_ ?_ ?_<;>simp[*]
  |false =>
   rw[h1]at hx hf;simp[nG,-J,tE,y0,e0,e1,e5,ba,g1,g2,tI,hx];exact hr _ (by simpa using hf.symm) (by simp)
theorem C4 (l m:List Vl)(hl:l.length<=9223372036854775807)(hF:∀x∈l,∀y∈m,BD 95 [.agg (WE x),.agg (WE y)] (.bool (x.same y)))(b1 b2:Bool):BD 124 [.sl b1 (l.map WE),.sl b2 (m.map WE)] (.bool (Vl.jA l m)):=by
 refine tD (c:=QH) rfl rfl ?_;by_cases he:l.length=m.length
 ·simp [QH,-J,tE,y0,he];refine Gd l m hl he hF b1 b2 _ _ (fun s' hf=>?main) (fun s' hf h4=>?main2) l.length 0 (by simp) (by simp) _ ?_ ?_ ?_
  case main=>simp[-J,tE,y0,hf]
  case main2=>simp[-J,tE,y0,hf,h4]
  all_goals simp[he]
 ·have uh:¬ (l.length:Int)=m.length:=by omega
  simp[QH,-J,tE,y0,uh,Vl.AB l m he]
theorem L8:∀(n:Nat)(v w:Vl),SizeOf.sizeOf v<n->v.ok->BD 95 [.agg (WE v),.agg (WE w)] (.bool (v.same w)):=by
 intro n
 induction n with
 |zero=>intro v w h;omega
 |succ n ih =>
  intro v w hn hv;rw[Vl.WB]at hv;obtain⟨o1,o2,o3,o4,o5,o6⟩:=hv;have af:=C4 v.keys w.keys o1 (fun x hx y _=>ih x y (by have:=Vl.ZB v x hx;omega) (o5 x hx)) v.kn w.kn;have oc:=C4 v.items w.items o2 (fun x hx y _=>ih x y (by have:=Vl.OB v x hx;omega) (o6 x hx)) v.xn w.xn;simp only[BD]at af oc;refine tD (c:=SE) rfl rfl ?_;rw[EF,EF,Vl.wC];by_cases h1:v.kind=w.kind
  ·by_cases h2:v.b=w.b
   ·by_cases h3:v.i=w.i
    ·by_cases h4:v.s=w.s
     ·by_cases h5:v.id=w.id
      ·by_cases he:v.rest.length=w.rest.length
       ·simp [SE,-J,tE,y0,h1,h2,h3,h4,h5,he];refine Sc v w o3 he 1 _ _ (fun s' h6 e2 e3 m2 m3=>?main) (fun s' h6 e4=>?main2) v.rest.length 0 (by simp) (by simp) _ ?_ ?_ ?_ ?_ ?_
        case main =>
         cases h7:Vl.jA v.keys w.keys with
         |true=>rw[h7]at af;simp[-J,tE,y0,e2,e3,m2,m3,tI,af,oc,h6]
         |false=>rw[h7]at af;simp[-J,tE,y0,e2,e3,m2,m3,tI,af,h6]
        case main2=>simp[-J,tE,y0,e4,h6]
        all_goals simp[h1,h2,h3,h4,h5]
       ·have uh:¬ (v.rest.length:Int)=w.rest.length:=by omega
        have h6:¬v.rest=w.rest:=fun h=>he (by rw[h])
        simp[SE,-J,tE,y0,h1,h2,h3,h4,h5,uh,h6]
      ·simp[SE,-J,tE,y0,h1,h2,h3,h4,h5]
     ·simp[SE,-J,tE,y0,h1,h2,h3,h4]
    ·simp[SE,-J,tE,y0,h1,h2,h3]
   ·simp[SE,-J,tE,y0,h1,h2]
  ·simp[SE,-J,tE,y0,h1]
def ED.same (m m':ED):Bool:=decide (m.id=m'.id)&&decide (m.name=m'.name)&&decide (m.ty=m'.ty)&&(m.gB == m'.gB)&&(m.has == m'.has)&&m.dflt.same m'.dflt
def mD:List ED->List ED->Bool
 | [],[]=>true
 |m::r,m'::r'=>m.same m'&&mD r r'
 | [],_::_=>false
 |_::_,[]=>false
theorem JQ:∀l m:List ED,l.length≠m.length->mD l m=false
 | [],[],h=>absurd rfl h
 | [],_::_,_=>rfl
 |_::_,[],_=>rfl
 |v::r,w::r',h=>by rw[mD,JQ r r' (by simpa using h)];simp
def BC.same (t u:BC):Bool:=decide (t.kind=u.kind)&&decide (t.name=u.name)&&decide (t.low=u.low)&&decide (t.high=u.high)&&decide (t.max=u.max)&&decide (t.key=u.key)&&decide (t.elem=u.elem)&&(t.opn == u.opn)&&decide (t.wA=u.wA)&&mD t.qA u.qA
theorem Nz (m m':ED)(hm:m.ok):BD 115 [.agg (rD m),.agg (rD m')] (.bool (m.same m')):=by
 have hs:=Ro _ m.dflt m'.dflt (Nat.lt_succ_self _) hm.1;simp only[BD,EF]at hs;refine tD (c:=qF) rfl rfl ?_;unfold ED.same rD;by_cases h1:m.id=m'.id
 ·by_cases h2:m.name=m'.name
  ·by_cases h3:m.ty=m'.ty
   ·by_cases h4:m.gB=m'.gB
    ·by_cases h5:m.has=m'.has
     ·simp[qF,-J,tE,y0,h1,h2,h3,h4,h5,hs]
     ·simp[qF,-J,tE,y0,h1,h2,h3,h4,h5]
    ·simp[qF,-J,tE,y0,h1,h2,h3,h4]
   ·simp[qF,-J,tE,y0,h1,h2,h3]
  ·simp[qF,-J,tE,y0,h1,h2]
 ·simp[qF,-J,tE,y0,h1]
theorem Sd (m m':ED)(hm:m.ok):BD 67 [.agg (rD m),.agg (rD m')] (.bool (m.same m')):=by
 have hs:=L8 _ m.dflt m'.dflt (Nat.lt_succ_self _) hm.1;simp only[BD,EF]at hs;refine tD (c:=LE) rfl rfl ?_;unfold ED.same rD;by_cases h1:m.id=m'.id
 ·by_cases h2:m.name=m'.name
  ·by_cases h3:m.ty=m'.ty
   ·by_cases h4:m.gB=m'.gB
    ·by_cases h5:m.has=m'.has
     ·simp[LE,-J,tE,y0,h1,h2,h3,h4,h5,hs]
     ·simp[LE,-J,tE,y0,h1,h2,h3,h4,h5]
    ·simp[LE,-J,tE,y0,h1,h2,h3,h4]
   ·simp[LE,-J,tE,y0,h1,h2,h3]
  ·simp[LE,-J,tE,y0,h1,h2]
 ·simp[LE,-J,tE,y0,h1]
theorem syms_lp (rs qs:List PG)(hl:rs.length<=9223372036854775807)(he:rs.length=qs.length)(b1 b2:Bool)(r:RV)(k:Ex->LC->Option RV)(hk:∀s',rs=qs->k (.exit 0) s'=some r)(hr:∀s':LC,rs≠qs->(s'.env 4).v=.bool false->k .ret s'=some r):
  ∀(n i:Nat),i+n=rs.length->(rs.drop i=qs.drop i↔rs=qs)->∀s':LC,(s'.env 0).v=.sl b1 (rs.map fD)->(s'.env 1).v=.sl b2 (qs.map fD)->(s'.env 12).v=.int .i64 rs.length->(s'.env 13).v=.int .i64 i->HJ MC ZC fE s' k=some r:=by
 intro n
 induction n with
 |zero =>
  intro i hi hf s' e0 e1 e12 e13;have ba:¬((i:Int)<rs.length):=by omega
  refine wD ?_;simp[fE,-J,tE,y0,e12,e13,ba];exact hk _ (hf.1 (by rw[yw (by omega),yw (by omega)]))
 |succ n ih =>
  intro i hi hf s' e0 e1 e12 e13;have ba:(i:Int)<rs.length:=by omega
  have zg:i<rs.length:=by omega
  have xf:i<qs.length:=by omega
  have hw:=rE (i:=i);have g1:(rs.map fD)[i]?=some (fD rs[i]):=by simp[zg]
  have g2:(qs.map fD)[i]?=some (fD qs[i]):=by simp[xf]
  rw[yv zg,yv xf]at hf;simp only[List.cons.injEq]at hf;generalize rs[i]=x at *
  generalize qs[i]=y at *
  obtain⟨xi,xd⟩:=x;obtain⟨yi,yd⟩:=y;simp only[fD]at g1 g2;simp only[PG.mk.injEq]at hf;refine wD ?_;by_cases h1:xi=yi
  ·by_cases h2:xd=yd
   ·subst h1 h2;simp[fE,-J,tE,y0,e0,e1,e12,e13,ba,g1,g2,BM,hw];refine ih (i+1) (by omega) (by simpa using hf) _ ?_ ?_ ?_ ?_<;>simp[*]
   ·subst h1;simp[fE,-J,tE,y0,e0,e1,e12,e13,ba,g1,g2,BM,h2];exact hr _ (fun h=>h2 (hf.2 h).1.2) (by simp)
  ·simp[fE,-J,tE,y0,e0,e1,e12,e13,ba,g1,g2,BM,h1];exact hr _ (fun h=>h1 (hf.2 h).1.1) (by simp)
theorem syms_ev (rs qs:List PG)(hl:rs.length<=9223372036854775807)(b1 b2:Bool):BD 113 [.sl b1 (rs.map fD),.sl b2 (qs.map fD)] (.bool (decide (rs=qs))):=by
 refine tD (c:=QF) rfl rfl ?_;by_cases he:rs.length=qs.length
 ·simp [QF,-J,tE,y0,he];refine syms_lp rs qs hl he b1 b2 _ _ (fun s' hf=>?main) (fun s' hf h4=>?main2) rs.length 0 (by simp) (by simp) _ ?_ ?_ ?_ ?_
  case main=>simp[-J,tE,y0,hf]
  case main2=>simp[-J,tE,y0,hf,h4]
  all_goals simp[he]
 ·have uh:¬ (rs.length:Int)=qs.length:=by omega
  have ua:rs≠qs:=fun h=>he (by rw[h])
  simp[QF,-J,tE,y0,uh,ua]
theorem eqm_lp (l m:List ED)(hl:l.length<=9223372036854775807)(he:l.length=m.length)(hF:∀x∈l,x.ok)(b1 b2:Bool)(r:RV)(k:Ex->LC->Option RV)(hk:∀s',mD l m=true->k (.exit 0) s'=some r)(hr:∀s':LC,mD l m=false->(s'.env 6).v=.bool false->k .ret s'=some r):
  ∀(n i:Nat),i+n=l.length->mD (l.drop i) (m.drop i)=mD l m->∀s':LC,(s'.env 1).v=.sl b2 (m.map rD)->(s'.env 2).v=.fn 115 []->(s'.env 15).v=.sl b1 (l.map rD)->(s'.env 16).v=.int .i64 l.length->(s'.env 17).v=.int .i64 i->HJ MC ZC lE s' k=some r:=by
 intro n
 induction n with
 |zero =>
  intro i hi hf s' e1 e2 pj dk mr;have ba:¬((i:Int)<l.length):=by omega
  refine wD ?_;simp[lE,-J,tE,y0,dk,mr,ba];refine hk _ ?_;rw[<- hf,yw (by omega),yw (by omega),mD]
 |succ n ih =>
  intro i hi hf s' e1 e2 pj dk mr;have ba:(i:Int)<l.length:=by omega
  have zg:i<l.length:=by omega
  have xf:i<m.length:=by omega
  have hw:=rE (i:=i);have g1:(l.map rD)[i]?=some (rD l[i]):=by simp[zg]
  have g2:(m.map rD)[i]?=some (rD m[i]):=by simp[xf]
  have hx:=Nz l[i] m[i] (hF l[i] (yC _));rw[yv zg,yv xf,mD]at hf;generalize l[i]=x at *
  generalize m[i]=y at *
  simp only[BD,rD]at g1 g2 hx;refine wD ?_;cases h1:x.same y with
  |true =>
   rw[h1]at hx hf;simp[lE,-J,tE,y0,e1,e2,pj,dk,mr,ba,g1,g2,tI,gG,hx,hw];refine ih (i+1) (by omega) (by simpa using hf) _ ?_ ?_ ?_ ?_ ?_<;>simp[*]
  |false =>
   rw[h1]at hx hf;simp[lE,-J,tE,y0,e1,e2,pj,dk,mr,ba,g1,g2,tI,gG,hx];exact hr _ (by simpa using hf.symm) (by simp)
theorem eqm_ev (l m:List ED)(hl:l.length<=9223372036854775807)(hF:∀x∈l,x.ok)(b1 b2:Bool):BD 114 [.sl b1 (l.map rD),.sl b2 (m.map rD),.fn 115 []] (.bool (mD l m)):=by
 refine tD (c:=GE) rfl rfl ?_;by_cases he:l.length=m.length
 ·simp [GE,-J,tE,y0,he];refine eqm_lp l m hl he hF b1 b2 _ _ (fun s' hf=>?main) (fun s' hf h4=>?main2) l.length 0 (by simp) (by simp) _ ?_ ?_ ?_ ?_ ?_
  case main=>simp[-J,tE,y0,hf]
  case main2=>simp[-J,tE,y0,hf,h4]
  all_goals simp[he]
 ·have uh:¬ (l.length:Int)=m.length:=by omega
  simp[GE,-J,tE,y0,uh,JQ l m he]
theorem Sv (t u:BC)(ht:t.ok):BD 81 [.agg (GC t),.agg (GC u)] (.bool (t.same u)):=by
 have hs:=syms_ev t.wA u.wA ht.1 t.sn u.sn;have hm:=eqm_ev t.qA u.qA ht.2.1 ht.2.2 t.mn u.mn;simp only[BD]at hs hm;refine tD (c:=IE) rfl rfl ?_;unfold BC.same GC;by_cases h1:t.kind=u.kind
 ·by_cases h2:t.name=u.name
  ·by_cases h3:t.low=u.low
   ·by_cases h4:t.high=u.high
    ·by_cases h5:t.max=u.max
     ·by_cases h6:t.key=u.key
      ·by_cases h7:t.elem=u.elem
       ·by_cases h8:t.opn=u.opn
        ·by_cases h9:t.wA=u.wA
         ·rw[decide_eq_true h9]at hs;simp[IE,-J,tE,y0,h1,h2,h3,h4,h5,h6,h7,h8,hs,h9▸hs,h9,tI,gG,hm]
         ·rw[decide_eq_false h9]at hs;simp[IE,-J,tE,y0,h1,h2,h3,h4,h5,h6,h7,h8,hs,h9]
        ·simp[IE,-J,tE,y0,h1,h2,h3,h4,h5,h6,h7,h8]
       ·simp[IE,-J,tE,y0,h1,h2,h3,h4,h5,h6,h7]
      ·simp[IE,-J,tE,y0,h1,h2,h3,h4,h5,h6]
     ·simp[IE,-J,tE,y0,h1,h2,h3,h4,h5]
    ·simp[IE,-J,tE,y0,h1,h2,h3,h4]
   ·simp[IE,-J,tE,y0,h1,h2,h3]
  ·simp[IE,-J,tE,y0,h1,h2]
 ·simp[IE,-J,tE,y0,h1]
abbrev OG (t:BC):List SC:=[⟨.int .i64 t.kind,.no⟩,⟨.str t.name,.no⟩,⟨.int .i64 t.low,.no⟩,⟨.int .i64 t.high,.no⟩,⟨.int .i64 t.max,.no⟩,⟨.sl t.sn (t.wA.map fD),.no⟩,⟨.sl t.mn (t.qA.map rD),.no⟩,⟨.int .i64 t.key,.no⟩,⟨.int .i64 t.elem,.no⟩,⟨.bool t.opn,.no⟩]
theorem Dc (v w:BC)(hl:v.wA.length<=9223372036854775807)(he:v.wA.length=w.wA.length)(m:Nat)(r:RV)(k:Ex->LC->Option RV)
  (hk:∀s':LC,v.wA=w.wA->(s'.env 2).v=.ptr 2 m 0->(s'.env 3).v=.ptr 3 m 0->s'.mem 2 m=some (OG v)->s'.mem 3 m=some (OG w)->k (.exit 0) s'=some r) (hr:∀s':LC,v.wA≠w.wA->(s'.env 4).v=.bool false->k .ret s'=some r) :
  ∀(n i:Nat),i+n=v.wA.length->(v.wA.drop i=w.wA.drop i↔v.wA=w.wA)->∀s':LC,(s'.env 2).v=.ptr 2 m 0->(s'.env 3).v=.ptr 3 m 0->s'.mem 2 m=some (OG v)->s'.mem 3 m=some (OG w)->(s'.env 5).v=.int .i64 i->HJ MC ZC kG s' k=some r:=by
 intro n
 induction n with
 |zero =>
  intro i hi hf s' e2 e3 m2 m3 e5;have ba:¬((i:Int)<v.wA.length):=by omega
  refine wD ?_;simp[kG,-J,tE,y0,e2,e3,m2,m3,e5,ba];exact hk _ (hf.1 (by rw[yw (by omega),yw (by omega)])) (by simp[e2]) (by simp[e3]) (by simp[m2]) (by simp[m3])
 |succ n ih =>
  intro i hi hf s' e2 e3 m2 m3 e5;have ba:(i:Int)<v.wA.length:=by omega
  have zg:i<v.wA.length:=by omega
  have xf:i<w.wA.length:=by omega
  have hw:=rE (i:=i);have g1:(v.wA.map fD)[i]?=some (fD v.wA[i]):=by simp[zg]
  have g2:(w.wA.map fD)[i]?=some (fD w.wA[i]):=by simp[xf]
  rw[yv zg,yv xf]at hf;simp only[List.cons.injEq]at hf;generalize v.wA[i]=x at *
  generalize w.wA[i]=y at *
  obtain⟨xi,xd⟩:=x;obtain⟨yi,yd⟩:=y;simp only[fD]at g1 g2;simp only[PG.mk.injEq]at hf;refine wD ?_;by_cases h1:xi=yi
  ·by_cases h2:xd=yd
   ·subst h1 h2;simp[kG,-J,tE,y0,e2,e3,m2,m3,e5,ba,g1,g2,BM,hw];refine ih (i+1) (by omega) (by simpa using hf) _ ?_ ?_ ?_ ?_ ?_<;>simp[*]
   ·subst h1;simp[kG,-J,tE,y0,e2,e3,m2,m3,e5,ba,g1,g2,BM,h2];exact hr _ (fun h=>h2 (hf.2 h).1.2) (by simp)
  ·simp[kG,-J,tE,y0,e2,e3,m2,m3,e5,ba,g1,g2,BM,h1];exact hr _ (fun h=>h1 (hf.2 h).1.1) (by simp)
theorem Tc (v w:BC)(hl:v.qA.length<=9223372036854775807)(hF:∀x∈v.qA,x.ok)(he:v.qA.length=w.qA.length)(m:Nat)(r:RV)(k:Ex->LC->Option RV)
  (hk:∀s':LC,mD v.qA w.qA=true->k (.exit 2) s'=some r) (hr:∀s':LC,mD v.qA w.qA=false->(s'.env 4).v=.bool false->k .ret s'=some r) :
  ∀(n i:Nat),i+n=v.qA.length->mD (v.qA.drop i) (w.qA.drop i)=mD v.qA w.qA->∀s':LC,(s'.env 2).v=.ptr 2 m 0->(s'.env 3).v=.ptr 3 m 0->s'.mem 2 m=some (OG v)->s'.mem 3 m=some (OG w)->(s'.env 6).v=.int .i64 i->HJ MC ZC rH s' k=some r:=by
 intro n
 induction n with
 |zero =>
  intro i hi hf s' e2 e3 m2 m3 e6;have ba:¬((i:Int)<v.qA.length):=by omega
  refine wD ?_;simp[rH,-J,tE,y0,e2,e3,m2,m3,e6,ba];refine hk _ ?_;rw[<- hf,yw (by omega),yw (by omega),mD]
 |succ n ih =>
  intro i hi hf s' e2 e3 m2 m3 e6;have ba:(i:Int)<v.qA.length:=by omega
  have zg:i<v.qA.length:=by omega
  have xf:i<w.qA.length:=by omega
  have hw:=rE (i:=i);have g1:(v.qA.map rD)[i]?=some (rD v.qA[i]):=by simp[zg]
  have g2:(w.qA.map rD)[i]?=some (rD w.qA[i]):=by simp[xf]
  have hx:=Sd v.qA[i] w.qA[i] (hF _ (yC _));rw[yv zg,yv xf,mD]at hf;generalize v.qA[i]=x at *
  generalize w.qA[i]=y at *
  simp only[BD,rD]at g1 g2 hx;refine wD ?_;cases h1:x.same y with
  |true =>
   rw[h1]at hx hf;simp[rH,-J,tE,y0,e2,e3,m2,m3,e6,ba,g1,g2,tI,hx,hw];refine ih (i+1) (by omega) (by simpa using hf) _ ?_ ?_ ?_ ?_ ?_<;>simp[*]
  |false =>
   rw[h1]at hx hf;simp[rH,-J,tE,y0,e2,e3,m2,m3,e6,ba,g1,g2,tI,hx];exact hr _ (by simpa using hf.symm) (by simp)
theorem SX (t u:BC)(ht:t.ok):BD 28 [.agg (GC t),.agg (GC u)] (.bool (t.same u)):=by
 refine tD (c:=JD) rfl rfl ?_;unfold BC.same GC;by_cases h1:t.kind=u.kind
 ·by_cases h2:t.name=u.name
  ·by_cases h3:t.low=u.low
   ·by_cases h4:t.high=u.high
    ·by_cases h5:t.max=u.max
     ·by_cases h6:t.key=u.key
      ·by_cases h7:t.elem=u.elem
       ·by_cases h8:t.opn=u.opn
        ·by_cases h9:t.wA.length=u.wA.length
         ·by_cases py:t.qA.length=u.qA.length
          ·simp [JD,-J,tE,y0,h1,h2,h3,h4,h5,h6,h7,h8,h9,py];refine Dc t u ht.1 h9 1 _ _ (fun s' h11 e2 e3 m2 m3=>?main) (fun s' h11 e4=>?main2) t.wA.length 0 (by simp) (by simp) _ ?_ ?_ ?_ ?_ ?_
           case main =>
            simp[-J,tE,y0,h11];refine Tc t u ht.2.1 ht.2.2 py 1 _ _ (fun s' h12=>?a) (fun s' h12 e4=>?b) t.qA.length 0 (by simp) (by simp) _ ?_ ?_ ?_ ?_ ?_
            case a=>simp[-J,tE,y0,h12]
            case b=>simp[-J,tE,y0,h12,e4]
            all_goals simp[e2,e3,m2,m3]
           case main2=>simp[-J,tE,y0,h11,e4]
           all_goals simp[h1,h2,h3,h4,h5,h6,h7,h8]
          ·have h10':¬ (t.qA.length:Int)=u.qA.length:=by omega
           simp[JD,-J,tE,y0,h1,h2,h3,h4,h5,h6,h7,h8,h9,h10',JQ _ _ py]
         ·have rk:¬ (t.wA.length:Int)=u.wA.length:=by omega
          have h11:¬t.wA=u.wA:=fun h=>h9 (by rw[h])
          simp[JD,-J,tE,y0,h1,h2,h3,h4,h5,h6,h7,h8,rk,h11]
        ·simp[JD,-J,tE,y0,h1,h2,h3,h4,h5,h6,h7,h8]
       ·simp[JD,-J,tE,y0,h1,h2,h3,h4,h5,h6,h7]
      ·simp[JD,-J,tE,y0,h1,h2,h3,h4,h5,h6]
     ·simp[JD,-J,tE,y0,h1,h2,h3,h4,h5]
    ·simp[JD,-J,tE,y0,h1,h2,h3,h4]
   ·simp[JD,-J,tE,y0,h1,h2,h3]
  ·simp[JD,-J,tE,y0,h1,h2]
 ·simp[JD,-J,tE,y0,h1]
theorem anN_t (a:An):tE true a=.ex:=rfl
theorem anN_f (a:An):tE false a=a:=rfl
theorem anN_ex (b:Bool):tE b .ex=.ex:=by cases b<;>rfl
attribute [simp] anN_t anN_f anN_ex
theorem zE {b:C}{r:RV}(n:Nat)(I:Nat->LC->Prop)(E:Ex->LC->Prop)
  (step:∀i,i<=n->∀s k,I i s->(i<n->∀s',I (i+1) s'->HJ MC ZC b s' k=some r)->(∀e s',E e s'->k e s'=some r)->HJ MC ZC b s k=some r)
  (s:LC) (k:Ex->LC->Option RV) (h:I 0 s) (hk:∀e s',E e s'->k e s'=some r):HJ MC ZC b s k=some r:=by
 have:∀m i,i+m=n->∀s,I i s->HJ MC ZC b s k=some r:=by
  intro m
  induction m with
  |zero=>intro i hi s h;exact step i (by omega) s k h (fun ba=>absurd ba (by omega)) hk
  |succ m ih=>intro i hi s h;exact step i (by omega) s k h (fun _ s' h'=>ih (i+1) (by omega) s' h') hk
 exact this n 0 (by omega) s h
instance memStr (s:ByteArray)(l:List ByteArray):Decidable (s∈l):=@List.instDecidableMemOfLawfulBEq _ instBEqOfDecidableEq _ s l
def jU (s:ByteArray)(l:List ByteArray):Bool:=decide (s∈l)
theorem UV {s:ByteArray}{l:List ByteArray}(h:s∈l):jU s l=true:=decide_eq_true h
theorem TV {s:ByteArray}{l:List ByteArray}(h:¬s∈l):jU s l=false:=decide_eq_false h
def kU (b n:Int):Bool:=decide (b<n)&&decide (1<=n)&&decide (n<=1000)
def NE:Int->List ByteArray->List (Int×ByteArray)->Bool
 |_,_,[]=>true
 |b,seen,(n,s)::r=>kU b n&&!jU s seen&&eI s&&NE n (seen++[s]) r
def L5 (x:Int×ByteArray):List AV:=[.int .i64 x.1]
def Ji (x:Int×ByteArray):List AV:=[.str x.2]
def NK (s:ByteArray):List AV:=[.str s,.bool true]
theorem B1 (s:ByteArray):∀l:List ByteArray,iM (l.map NK) (.str s)=if s∈l then some (AV.bool true)else none
 | []=>rfl
 |x::r=>by
  simp only[ym,NK,iM,rU];by_cases h:x=s
  ·simp[h]
  ·have h':¬ s=x:=fun e=>h e.symm
   have:=B1 s r;simp[h,h',this]
theorem N1 (s:ByteArray):∀l:List ByteArray,¬s∈l->DK (l.map NK) (.str s) (.bool true)=(l++[s]).map NK
 | [],_=>rfl
 |x::r,hn=>by
  have h:¬x=s:=fun e=>hn (by simp[e])
  have:=N1 s r fun e=>hn (by simp[e])
  simp[NK,DK,rU,h,this]
theorem H6:∀l:List ByteArray,nP .none (l.map NK)=true
 | []=>rfl
 |x::r=>by
  have:=H6 r;simp only[nP]at this;simp[nP,NK,LK,AV.flat,AV.cA]
def JG (l:List (Int×ByteArray)):Nat->Int
 |0=>0
 |i+1=>match l[i]? with
  |some x=>x.1
  |none=>0
theorem Tl (l:List (Int×ByteArray))(hl:l.length<=9223372036854775807)(b1 b2:Bool):BD 111 [.sl b1 (l.map L5),.sl b2 (l.map Ji)] (.bool (NE 0 [] l&&decide (l.length<=16))):=by
 refine tD (c:=WN) rfl rfl ?_;simp[WN,-J,-yb,-y9,y0];refine zE l.length (fun i s=>(s.env 0).v=.sl b1 (l.map L5)/\(s.env 1).v=.sl b2 (l.map Ji)/\(s.env 5).v=.mp 8 2/\(s.env 9).v=.sl b1 (l.map L5)/\(s.env 10).v=.int .i64 l.length/\(s.env 11).v=.int .i64 i/\s.obj 8 2=some (xL (((l.take i).map (·.2)).map NK))/\NE (JG l i) ((l.take i).map (·.2)) (l.drop i)=NE 0 [] l)
  (fun e s=>(e=.exit 0/\NE 0 [] l=true/\(s.env 0).v=.sl b1 (l.map L5))\/(e=.ret/\NE 0 [] l=false/\(s.env 4).v=.bool false)) (fun i hi s k h ih hk=>?_) _ _ ?_ (fun e s h=>?_)
 ·obtain ⟨e0,e1,e5,e9,e10,e11,o,hs⟩:=h;refine wD ?_;by_cases ba:i<l.length
  ·have fa:(i:Int)<l.length:=by omega
   have g1:(l.map L5)[i]?=some (L5 l[i]):=by simp[ba]
   have g2:(l.map Ji)[i]?=some (Ji l[i]):=by simp[ba]
   have hw:=rE (i:=i);have ht:l.take (i+1)=l.take i++[l[i]]:=(Y0m ba).symm;have hp:JG l (i+1)=l[i].1:=by simp[JG,ba]
   have hn:=Fi l[i].2;rw[yv ba,NE]at hs;generalize hx:l[i]=x at *
   generalize et:(l.take i).map (·.2)=seen at *
   have hg:=B1 x.2 seen;have wx:=H6 seen;simp only[L5,Ji]at g1 g2;have hprev:(0<(i:Int)->∃p,(l.map L5)[i-1]?=some [.int .i64 p]/\JG l i=p):=fun h0=>by
    obtain⟨j,rfl⟩:∃j,i=j+1:=⟨i-1,by omega⟩;exact⟨l[j].1,by simp[L5,show j<l.length from by omega],by simp[JG,show j<l.length from by omega]⟩
   have fail:∀s',(s'.env 4).v=.bool false->(kU (JG l i) x.1&&!jU x.2 seen&&eI x.2)=false->k .ret s'=some (.bool (NE 0 [] l&&decide (l.length<=16)),none):=fun s' h4 hf=>hk _ _ (.inr ⟨rfl,by rw[<- hs,hf];rfl,h4⟩)
   obtain⟨z,hz⟩:∃z:Int,z=i:=⟨_,rfl⟩;have fc:0<=z:=by omega
   have hzt:z.toNat=i:=by omega
   have zx:z<l.length:=by omega
   have hwz:IntKind.i64.wrap (z+1)=((i+1:Nat):Int):=by rw[hz];exact hw
   rw[<- hz]at e11;rw[<- hzt]at g1 g2;by_cases c1:x.1<1
   ·simp[dE,-J,-yb,-y9,y0,e0,e1,e5,e9,e10,e11,zx,fc,g1,c1];exact fail _ (by simp) (by simp[kU,show ¬1<=x.1 from by omega])
   by_cases c2:1000<x.1
   ·simp[dE,-J,-yb,-y9,y0,e0,e1,e5,e9,e10,e11,zx,fc,g1,c1,c2];exact fail _ (by simp) (by simp[kU,show ¬x.1<=1000 from by omega])
   have rest:(¬0<z\/∃y p,0<z/\IntKind.i64.wrap (z-1)=y/\0<=y/\(l.map L5)[y.toNat]?=some [.int .i64 p]/\¬x.1<=p)->JG l i<x.1->dE.run (sF MC ZC) (jH MC ZC) s (aN (HJ MC ZC) dE k)=some (.bool (NE 0 [] l&&decide (l.length<=16)),none):=by
    intro h0 ur;by_cases c5:x.2∈seen
    ·rw [if_pos c5] at hg;rcases h0 with c3 | ⟨y,p,c3,hy,nq,hp2,hp3⟩
     ·simp[dE,-J,-yb,-y9,y0,e0,e1,e5,e9,e10,e11,zx,fc,g1,g2,c1,c2,c3,o,cL,wx,LK,AV.flat,AV.cA,hg];exact fail _ (by simp) (by simp[UV c5])
     ·simp[dE,-J,-yb,-y9,y0,e0,e1,e5,e9,e10,e11,zx,fc,g1,g2,c1,c2,c3,hy,nq,hp2,hp3,o,cL,wx,LK,AV.flat,AV.cA,hg];exact fail _ (by simp) (by simp[UV c5])
    ·rw [if_neg c5] at hg;have sb:=N1 x.2 seen c5;cases c6:eI x.2 with
     |false =>
      rw[c6]at hn;rcases h0 with c3|⟨y,p,c3,hy,nq,hp2,hp3⟩
      ·simp[dE,-J,-yb,-y9,y0,e0,e1,e5,e9,e10,e11,zx,fc,g1,g2,c1,c2,c3,o,cL,wx,LK,AV.flat,AV.cA,hg,hn];exact fail _ (by simp) (by simp[c6])
      ·simp[dE,-J,-yb,-y9,y0,e0,e1,e5,e9,e10,e11,zx,fc,g1,g2,c1,c2,c3,hy,nq,hp2,hp3,o,cL,wx,LK,AV.flat,AV.cA,hg,hn];exact fail _ (by simp) (by simp[c6])
     |true =>
      rw[c6]at hn;have po:NE x.1 (seen++[x.2]) (l.drop (i+1))=NE 0 [] l:=by rw[<- hs];simp[kU,TV c5,c6,ur,show 1<=x.1 from by omega,show x.1<=1000 from by omega]
      rcases h0 with c3|⟨y,p,c3,hy,nq,hp2,hp3⟩
      ·simp[dE,-J,-yb,-y9,y0,e0,e1,e5,e9,e10,e11,zx,fc,g1,g2,c1,c2,c3,o,cL,wx,LK,AV.flat,AV.cA,hg,hn,sb,hwz];refine ih ba _ ⟨?_,?_,?_,?_,?_,?_,?_,?_⟩<;>simp[ht,et,hp,po,e0,e1,e5,e9,e10]
      ·simp[dE,-J,-yb,-y9,y0,e0,e1,e5,e9,e10,e11,zx,fc,g1,g2,c1,c2,c3,hy,nq,hp2,hp3,o,cL,wx,LK,AV.flat,AV.cA,hg,hn,sb,hwz];refine ih ba _ ⟨?_,?_,?_,?_,?_,?_,?_,?_⟩<;>simp[ht,et,hp,po,e0,e1,e5,e9,e10]
   by_cases c3:0<(i:Int)
   ·obtain ⟨p,hp1,hp2⟩:=hprev c3;have c3z:0<z:=by omega
    have hwm:IntKind.i64.wrap (z-1)=((i-1:Nat):Int):=by rw[IntWalk.i64_in _ (by omega)];omega
    obtain⟨y,hy⟩:∃y:Int,y=((i-1:Nat):Int):=⟨_,rfl⟩;have nq:0<=y:=by omega
    rw[<- hy]at hwm;rw[show i-1=y.toNat from by omega]at hp1;by_cases c4:x.1<=p
    ·simp[dE,-J,-yb,-y9,y0,e0,e1,e5,e9,e10,e11,zx,fc,g1,c1,c2,c3z,hwm,nq,hp1,c4];exact fail _ (by simp) (by simp[kU,hp2,show ¬p<x.1 from by omega])
    ·exact rest (.inr ⟨y,p,c3z,hwm,nq,hp1,c4⟩) (by rw[hp2];omega)
   ·have h0:i=0:=by omega
    subst h0;exact rest (.inl (by omega)) (by simp only[JG];omega)
  ·have fa:¬ (i:Int)<l.length:=by omega
   simp[dE,-J,-yb,-y9,y0,e10,e11,fa];refine hk _ _ (.inl ⟨rfl,?_,by simp[e0]⟩);rw[<- hs,yw (by omega),NE]
 ·simp[xL,JG]
 ·rcases h with ⟨rfl,h1,h2⟩ | ⟨rfl,h1,h2⟩ <;> simp [-J,-yb,-y9,y0,h1,h2]
  omega
def tK (x:PG):Int×ByteArray:=(x.id,x.name)
def IH (x:ED):Int×ByteArray:=(x.id,x.name)
def IP (l:List PG):Bool:=decide (0<l.length)&&(NE 0 [] (l.map tK)&&decide (l.length<=16))
theorem Zw (l:List PG)(hl:l.length<=8796093022206)(b:Bool):BD 79 [.sl b (l.map fD)] (.bool (IP l)):=by
 refine tD (c:=FJ) rfl rfl ?_;have nh:=fun b1 b2=>Tl (l.map tK) (by simp;omega) b1 b2
 simp only[BD]at nh;simp[FJ,-J,-yb,-y9,y0];refine zE l.length (fun i s=>(s.env 0).v=.sl b (l.map fD)/\(s.env 7).v=.sl b (l.map fD)/\(s.env 8).v=.int .i64 l.length/\(s.env 9).v=.int .i64 i/\(s.env 3).v=.sl (l.take i).isEmpty (((l.take i).map tK).map L5)/\(s.env 4).v=.sl (l.take i).isEmpty (((l.take i).map tK).map Ji)/\((s.env 3).a=.ex/\(s.env 4).a=.ex\/(l.take i).isEmpty=false/\(s.env 3).a=.own 17 3/\(s.env 4).a=.own 22 9))
  (fun e s=>e=.exit 0/\(s.env 0).v=.sl b (l.map fD)/\(s.env 3).v=.sl l.isEmpty ((l.map tK).map L5)/\(s.env 4).v=.sl l.isEmpty ((l.map tK).map Ji)) (fun i hi s k h ih hk=>?_) _ _ ?_ (fun e s h=>?_)
 ·obtain ⟨e0,e7,e8,e9,e3,e4,an⟩:=h;refine wD ?_;by_cases ba:i<l.length
  ·have fa:(i:Int)<l.length:=by omega
   have g1:(l.map fD)[i]?=some (fD l[i]):=by simp[ba]
   have hw:=rE (i:=i);have ht:l.take (i+1)=l.take i++[l[i]]:=(Y0m ba).symm;generalize l[i]=x at *
   simp only[fD]at g1;have da:(l.take i).length=i:=by simp;omega
   generalize l.take i=t at *
   have rh:pD 8 (t.length+1)=true:=by rw[XC];omega
   have jk:pD 16 (t.length+1)=true:=by rw[XC];omega
   have q1:kD 1 ((t.map tK).map L5)=true:=nF _ _ _ fun _=>rfl
   have q2:kD 1 ((t.map tK).map Ji)=true:=nF _ _ _ fun _=>rfl
   rcases an with⟨a3,a4⟩|⟨a0,a3,a4⟩
   ·simp[aI,-J,-yb,-y9,y0,e0,e7,e8,e9,e3,e4,a3,a4,fa,g1,hw,rh,jk,q1,q2];refine ih ba _ ⟨?_,?_,?_,?_,?_,?_,?_⟩<;>simp[ht,e0,e7,e8,L5,Ji,tK]
   ·simp[aI,-J,-yb,-y9,y0,e0,e7,e8,e9,e3,e4,a0,a3,a4,fa,g1,hw,rh,jk,q1,q2];refine ih ba _ ⟨?_,?_,?_,?_,?_,?_,?_⟩<;>simp[ht,e0,e7,e8,L5,Ji,tK]
  ·have fa:¬ (i:Int)<l.length:=by omega
   simp[aI,-J,-yb,-y9,y0,e8,e9,fa];rw[Y0b (by omega)]at e3 e4;exact hk _ _ ⟨rfl,by simp[e0],by simp[e3],by simp[e4]⟩
 ·simp
 ·obtain ⟨rfl,e0,e3,e4⟩:=h;unfold IP;by_cases h0:0<l.length
  ·have xg:(0:Int)<l.length:=by omega
   simp[-J,-yb,-y9,y0,e0,e3,e4,h0,xg,nh]
  ·have xg:¬ (0:Int)<l.length:=by omega
   simp[-J,-yb,-y9,y0,e0,e3,e4,h0,xg]
theorem Rc (b n:Int):BD 121 [.int .i64 b,.int .i64 n] (.bool (kU b n)):=by
 refine tD (c:=UQ) rfl rfl ?_;unfold kU;by_cases h1:b<n<;>by_cases h2:1<=n<;>simp[UQ,-J,-yb,-y9,y0,h1,h2]
theorem Z8 (l:List PG)(hl:l.length<=8796093022206)(b:Bool):BD 89 [.sl b (l.map fD)] (.bool (IP l)):=by
 refine tD (c:=EK) rfl rfl ?_;simp[EK,-J,-yb,-y9,y0];have g0:∀j,j<l.length->∃x,l[j]?=some x:=fun j hj=>⟨l[j],by simp[hj]⟩
 refine zE l.length (fun i s=>(s.env 0).v=.sl b (l.map fD)/\(s.env 3).v=.int .i64 (JG (l.map tK) i)/\(s.env 4).v=.int .i64 i/\NE (JG (l.map tK) i) ((l.map tK).take i |>.map (·.2)) ((l.map tK).drop i)=NE 0 [] (l.map tK))
  (fun e s=>(e=.exit 0/\NE 0 [] (l.map tK)=true/\(s.env 0).v=.sl b (l.map fD))\/(e=.ret/\NE 0 [] (l.map tK)=false/\(s.env 2).v=.bool false)) (fun i hi s k h ih hk=>?_) _ _ ?_ (fun e s h=>?_)
 ·obtain ⟨e0,e3,e4,hs⟩:=h;refine wD ?_;by_cases ba:i<l.length
  ·have fa:(i:Int)<l.length:=by omega
   have g1:(l.map fD)[i]?=some (fD l[i]):=by simp[ba]
   have hw:=rE (i:=i);have tv:i<(l.map tK).length:=by simpa using ba
   have hp:JG (l.map tK) (i+1)=l[i].id:=by simp[JG,ba,tK]
   have hn:=I1 l[i].name;have KN:=Rc (JG (l.map tK) i) l[i].id;have ej:(l.map tK)[i]=tK l[i]:=by simp
   have ht:((l.map tK).take (i+1)).map (·.2)=((l.map tK).take i).map (·.2)++[l[i].name]:=by rw[<- Y0m tv,ej];simp[tK]
   rw[yv tv,ej]at hs;obtain⟨x,hx⟩:∃x,x=l[i]:=⟨_,rfl⟩;rw[<- hx]at g1 hp hn KN ht hs;simp only[tK,NE]at hs;have fail:∀s',(s'.env 2).v=.bool false->(kU (JG (l.map tK) i) x.id&&!jU x.name (((l.map tK).take i).map (·.2))&&eI x.name)=false->k .ret s'=some (.bool (IP l),none):=fun s' h4 hf=>hk _ _ (.inr ⟨rfl,by rw[<- hs,hf];rfl,h4⟩)
   simp only[BD]at hn KN;simp only[fD]at g1;cases c1:kU (JG (l.map tK) i) x.id with
   |false =>
    rw[c1]at KN;simp[EH,-J,-yb,-y9,y0,e0,e3,e4,fa,g1,KN];exact fail _ (by simp) (by simp[c1])
   |true =>
    rw[c1]at KN;cases c2:eI x.name with
    |false =>
     rw[c2]at hn;simp[EH,-J,-yb,-y9,y0,e0,e3,e4,fa,g1,KN,hn];exact fail _ (by simp) (by simp[c2])
    |true =>
     rw[c2]at hn;simp[EH,-J,-yb,-y9,y0,e0,e3,e4,fa,g1,KN,hn];have xp:((l.map tK).take i).map (·.2)=(l.take i).map PG.name:=by simp[<- yW,tK,Function.comp_def]
     refine zE i (fun j s=>(s.env 0).v=.sl b (l.map fD)/\(s.env 4).v=.int .i64 i/\(s.env 5).v=.int .i64 j/\¬x.name∈(l.take j).map PG.name)
      (fun e s=>(e=.exit 2/\¬x.name∈(l.take i).map PG.name/\(s.env 0).v=.sl b (l.map fD)/\(s.env 4).v=.int .i64 i)\/(e=.ret/\x.name∈(l.take i).map PG.name/\(s.env 2).v=.bool false)) (fun j hj s k' h jb sf=>?_) _ _ ?_ (fun e s h=>?_)
     ·obtain ⟨e0,e4,e5,hm⟩:=h;refine wD ?_;by_cases au:j<i
      ·have wn:(j:Int)<i:=by omega
       have g2:(l.map fD)[j]?=some (fD l[j]):=by simp[show j<l.length from by omega]
       have jr:=rE (i:=j);have htj:l.take (j+1)=l.take j++[l[j]]:=(Y0m (by omega)).symm;simp only[fD]at g2;by_cases fi:l[j].name=x.name
       ·simp[OI,-J,-yb,-y9,y0,e0,e4,e5,wn,g1,g2,fi];refine sf _ _ (.inr ⟨rfl,?_,by simp⟩);rw[<- fi];exact List.mem_map_of_mem (List.mem_take_iff_getElem.2 ⟨j,by omega,rfl⟩)
       ·simp [OI,-J,-yb,-y9,y0,e0,e4,e5,wn,g1,g2,fi,jr];refine jb au _ ⟨?_,?_,?_,?_⟩
        ·simp[e0]
        ·simp[e4]
        ·simp
        ·rw [htj,Y03,yu];rintro (h | h)
         ·exact hm h
         ·simp at h;exact fi h.symm
      ·have wn:¬ (j:Int)<i:=by omega
       have hjj:j=i:=by omega
       simp[OI,-J,-yb,-y9,y0,e4,e5,wn];exact sf _ _ (.inl ⟨rfl,hjj▸hm,by simp[e0],by simp[e4]⟩)
     ·simp[e0,e4]
     ·rcases h with ⟨rfl,h1,e0,e4⟩ | ⟨rfl,h1,e2⟩
      ·simp [-J,-yb,-y9,y0,e0,e4,g1,hw];refine ih ba _ ⟨?_,?_,?_,?_⟩
       ·simp[e0]
       ·simp[hp]
       ·simp
       ·rw[hp,ht,<- hs,c1,c2,xp,TV h1];rfl
      ·simp[-J,-yb,-y9,y0];exact fail _ e2 (by rw[xp,UV h1];simp)
  ·have fa:¬ (i:Int)<l.length:=by omega
   simp[EH,-J,-yb,-y9,y0,e0,e4,fa];refine hk _ _ (.inl ⟨rfl,?_,by simp[e0]⟩);rw[<- hs,yw (by simp;omega),NE]
 ·simp[JG]
 ·unfold IP;rcases h with ⟨rfl,h1,e0⟩ | ⟨rfl,h1,e2⟩
  ·by_cases h0:0<l.length
   ·have xg:(1:Int)<=l.length:=by omega
    simp[-J,-yb,-y9,y0,e0,h0,xg,h1];omega
   ·have xg:¬ (1:Int)<=l.length:=by omega
    simp[-J,-yb,-y9,y0,e0,h0,xg,h1]
  ·simp[-J,-yb,-y9,y0,h1,e2]
theorem Th (v:Vl)(hv:v.ok):BD 112 [.agg (WE v)] (.bool (v.same Vl.zero)):=by
 have h:=Ro _ v Vl.zero (Nat.lt_succ_self _) hv;refine tD (c:=fL) rfl rfl ?_;simp only[BD,EF,Vl.zero,Vl.kind,Vl.b,Vl.i,Vl.s,Vl.id,Vl.kn,Vl.keys,Vl.xn,Vl.items,Vl.rn,Vl.rest,yQ]at h ⊢;simp[fL,-J,-yb,-y9,y0,h]
theorem Pd (v:Vl)(hv:v.ok):BD 95 [.agg (WE v),.agg [.int .i64 0,.bool false,.int .i64 0,.str ⟨#[]⟩,.int .i64 0,.sl true [],.sl true [],.sl true []]] (.bool (v.same Vl.zero)):=by
 have h:=L8 _ v Vl.zero (Nat.lt_succ_self _) hv;simp only[BD,EF,Vl.zero,Vl.kind,Vl.b,Vl.i,Vl.s,Vl.id,Vl.kn,Vl.keys,Vl.xn,Vl.items,Vl.rn,Vl.rest,yQ]at h ⊢;exact h
def AD (rec:Bool)(m:ED):Bool:=!(!rec&&(m.gB||m.has))&&!(m.gB&&m.has)&&(m.has||m.dflt.same Vl.zero)
def xI (rec:Bool)(l:List ED):Bool:=l.all (AD rec)&&((rec||decide (0<l.length))&&(NE 0 [] (l.map IH)&&decide (l.length<=16)))
theorem Bq (t:BC)(ht:t.ok)(hl:t.qA.length<=8796093022206)(hk:t.kind=5\/t.kind=6):BD 80 [.agg (GC t)] (.bool (xI (decide (t.kind=5)) t.qA)):=by
 obtain⟨rc,hrc⟩:∃rc,rc=decide (t.kind=5):=⟨_,rfl⟩;have hk:t.kind=5/\rc=true\/t.kind=6/\rc=false:=by
  rcases hk with h|h
  ·exact .inl ⟨h,by rw[hrc,h];rfl⟩
  ·exact .inr ⟨h,by rw[hrc,h];rfl⟩
 rw[<- hrc];clear hrc;refine tD (c:=DJ) rfl rfl ?_;have nh:=fun b1 b2=>Tl (t.qA.map IH) (by simp;omega) b1 b2
 simp only[BD]at nh;simp[DJ,-J,-yb,-y9,y0,GC];refine zE t.qA.length (fun i s=>(s.env 1).v=.ptr 1 1 0/\s.mem 1 1=some (OG t)/\(s.env 8).v=.sl t.mn (t.qA.map rD)/\(s.env 9).v=.int .i64 t.qA.length/\(s.env 10).v=.int .i64 i/\(s.env 3).v=.sl (t.qA.take i).isEmpty (((t.qA.take i).map IH).map L5)/\(s.env 4).v=.sl (t.qA.take i).isEmpty (((t.qA.take i).map IH).map Ji)/\((t.qA.take i).isEmpty=(t.qA.take i).isEmpty/\(s.env 3).a=.ex/\(s.env 4).a=.ex\/(t.qA.take i).isEmpty=false/\(s.env 3).a=.own 18 3/\(s.env 4).a=.own 23 9)/\(t.qA.drop i).all (AD rc)=t.qA.all (AD rc))
  (fun e s=>(e=.exit 0/\t.qA.all (AD rc)=true/\(s.env 1).v=.ptr 1 1 0/\s.mem 1 1=some (OG t)/\(s.env 3).v=.sl t.qA.isEmpty ((t.qA.map IH).map L5)/\(s.env 4).v=.sl t.qA.isEmpty ((t.qA.map IH).map Ji))\/(e=.ret/\t.qA.all (AD rc)=false/\(s.env 2).v=.bool false)) (fun i hi s k h ih sf=>?_) _ _ ?_ (fun e s h=>?_)
 ·obtain ⟨e1,m1,e8,e9,e10,e3,e4,an,hs⟩:=h;refine wD ?_;by_cases ba:i<t.qA.length
  ·have fa:(i:Int)<t.qA.length:=by omega
   have g1:(t.qA.map rD)[i]?=some (rD t.qA[i]):=by simp[ba]
   have hw:=rE (i:=i);have dt:t.qA.take (i+1)=t.qA.take i++[t.qA[i]]:=(Y0m ba).symm;have gn:=Th t.qA[i].dflt (ht.2.2 _ (yC _)).1;rw[yv ba,List.all_cons]at hs;generalize t.qA[i]=x at *
   simp only[rD]at g1;simp only[BD,EF]at gn;have da:(t.qA.take i).length=i:=by simp;omega
   generalize hq:t.qA.take i=q at *
   have rh:pD 8 (q.length+1)=true:=by rw[XC];omega
   have jk:pD 16 (q.length+1)=true:=by rw[XC];omega
   have q1:kD 1 ((q.map IH).map L5)=true:=nF _ _ _ fun _=>rfl
   have q2:kD 1 ((q.map IH).map Ji)=true:=nF _ _ _ fun _=>rfl
   have fail:∀s',(s'.env 2).v=.bool false->AD rc x=false->k .ret s'=some (.bool (xI rc t.qA),none):=fun s' h4 hf=>sf _ _ (.inr ⟨rfl,by rw[<- hs,hf];rfl,h4⟩)
   have good:AD rc x=true->(t.qA.drop (i+1)).all (AD rc)=t.qA.all (AD rc):=fun h=>by rw[<- hs,h];rfl
   generalize hB:t.qA.all (AD rc)=B at *
   cases hg:AD rc x with
   |false =>
    cases hz:x.dflt.same Vl.zero<;>rw[hz]at gn<;>rcases hk with⟨h5,rfl⟩|⟨h5,rfl⟩<;>cases hc:x.gB<;>cases hh:x.has<;>first|(simp[AD,hc,hh,hz]at hg;done)|skip
    all_goals rcases an with⟨a0,a3,a4⟩|⟨a0,a3,a4⟩<;>
     simp[pI,-J,-yb,-y9,y0,e1,m1,e8,e9,e10,e3,e4,a0,a3,a4,fa,g1,hw,rh,jk,q1,q2,hc,hh,h5,gn]
    all_goals exact fail _ (by simp) hg
   |true =>
    have good:=good hg;cases hz:x.dflt.same Vl.zero<;>rw[hz]at gn<;>rcases hk with⟨h5,rfl⟩|⟨h5,rfl⟩<;>cases hc:x.gB<;>cases hh:x.has<;>first|(simp[AD,hc,hh,hz]at hg;done)|skip
    all_goals rcases an with⟨a0,a3,a4⟩|⟨a0,a3,a4⟩<;>
     simp[pI,-J,-yb,-y9,y0,e1,m1,e8,e9,e10,e3,e4,a0,a3,a4,fa,g1,hw,rh,jk,q1,q2,hc,hh,h5,gn]
    all_goals refine ih ba _ ⟨?_,?_,?_,?_,?_,?_,?_,?_,good⟩
    all_goals simp[dt,e1,m1,e8,e9,L5,Ji,IH,An.strip]
  ·have fa:¬ (i:Int)<t.qA.length:=by omega
   simp[pI,-J,-yb,-y9,y0,e9,e10,fa];rw[Y0b (by omega)]at e3 e4;rw[yw (by omega)]at hs;exact sf _ _ (.inl ⟨rfl,hs.symm,by simp[e1],by simp[m1],by simp[e3],by simp[e4]⟩)
 ·simp
 ·unfold xI;rcases h with ⟨rfl,h1,e1,m1,e3,e4⟩ | ⟨rfl,h1,e2⟩
  ·rw [h1];rcases hk with ⟨h5,rfl⟩ | ⟨h5,rfl⟩
   ·simp[-J,-yb,-y9,y0,e1,m1,e3,e4,h5,nh]
   ·by_cases h0:0<t.qA.length
    ·have xg:(0:Int)<t.qA.length:=by omega
     simp[-J,-yb,-y9,y0,e1,m1,e3,e4,h5,h0,xg,nh]
    ·have xg:¬ (0:Int)<t.qA.length:=by omega
     simp[-J,-yb,-y9,y0,e1,m1,e3,e4,h5,h0,xg]
  ·simp[-J,-yb,-y9,y0,h1,e2]
theorem J8 (l:List ED)(hl:l.length<=8796093022206)(wa:∀m∈l,m.ok)(b rec:Bool):BD 90 [.sl b (l.map rD),.bool rec] (.bool (xI rec l)):=by
  refine tD (c:=WK) rfl rfl ?_;simp[WK,-J,-yb,-y9,y0];refine zE l.length (fun i s=>(s.env 0).v=.sl b (l.map rD)/\(s.env 1).v=.bool rec/\(s.env 5).v=.int .i64 (JG (l.map IH) i)/\(s.env 6).v=.int .i64 i/\(NE (JG (l.map IH) i) ((l.map IH).take i |>.map (·.2)) ((l.map IH).drop i)&&(l.drop i).all (AD rec))=(NE 0 [] (l.map IH)&&l.all (AD rec)))
    (fun e s=>(e=.exit 0/\(NE 0 [] (l.map IH)&&l.all (AD rec))=true/\(s.env 0).v=.sl b (l.map rD)/\(s.env 1).v=.bool rec)\/(e=.ret/\(NE 0 [] (l.map IH)&&l.all (AD rec))=false/\(s.env 4).v=.bool false)) (fun i hi s k h ih hk=>?_) _ _ ?_ (fun e s h=>?_)
  · obtain ⟨e0,e1,e5,e6,hs⟩:=h
    refine wD ?_;by_cases ba:i<l.length
    · have fa:(i:Int)<l.length:=by omega
      have g1:(l.map rD)[i]?=some (rD l[i]):=by simp[ba]
      have hw:=rE (i:=i);have tv:i<(l.map IH).length:=by simpa using ba
      have hp:JG (l.map IH) (i+1)=l[i].id:=by simp[JG,ba,IH]
      have hn:=I1 l[i].name;have KN:=Rc (JG (l.map IH) i) l[i].id;have gn:=Pd l[i].dflt (wa _ (yC _)).1;have ej:(l.map IH)[i]=IH l[i]:=by simp
      have ht:((l.map IH).take (i+1)).map (·.2)=((l.map IH).take i).map (·.2)++[l[i].name]:=by rw[<- Y0m tv,ej];simp[IH]
      rw[yv tv,ej,yv ba,List.all_cons]at hs;obtain⟨x,hx⟩:∃x,x=l[i]:=⟨_,rfl⟩;rw[<- hx]at g1 hp hn KN ht hs gn;simp only[NE]at hs;have ro:((kU (JG (l.map IH) i) x.id&&!jU x.name (((l.map IH).take i).map (·.2))&&eI x.name&&AD rec x)&&(NE x.id (((l.map IH).take i).map (·.2)++[x.name]) ((l.map IH).drop (i+1))&&(l.drop (i+1)).all (AD rec)))=(NE 0 [] (l.map IH)&&l.all (AD rec)):=by
        rw[<- hs];simp only[IH,Bool.and_assoc];congr 1;congr 1;congr 1;rw[<- Bool.and_assoc,<- Bool.and_assoc,Bool.and_comm (AD rec x)]
      clear hs;have fail:∀s',(s'.env 4).v=.bool false->(kU (JG (l.map IH) i) x.id&&!jU x.name (((l.map IH).take i).map (·.2))&&eI x.name&&AD rec x)=false->k .ret s'=some (.bool (xI rec l),none):=fun s' h4 hf=>hk _ _ (.inr ⟨rfl,by rw[<- ro,hf];rfl,h4⟩)
      simp only[BD,EF]at hn KN gn;simp only[rD]at g1;cases c1:kU (JG (l.map IH) i) x.id with
      | false =>
        rw[c1]at KN;simp[RG,-J,-yb,-y9,y0,e0,e1,e5,e6,fa,g1,KN];exact fail _ (by simp) (by simp[c1])
      | true =>
        rw[c1]at KN;cases c2:eI x.name with
        | false =>
          rw[c2]at hn;simp[RG,-J,-yb,-y9,y0,e0,e1,e5,e6,fa,g1,KN,hn];exact fail _ (by simp) (by simp[c2])
        | true =>
          rw[c2]at hn;have xp:((l.map IH).take i).map (·.2)=(l.take i).map ED.name:=by simp[<- yW,IH,Function.comp_def]
          have inner:∀s:LC,AD rec x=true->(s.env 0).v=.sl b (l.map rD)->(s.env 1).v=.bool rec->(s.env 6).v=.int .i64 i->(s.env 8).v=.int .i64 0->∀p,(s.env 7).v=.ptr 7 p 0->s.mem 7 p=some ((rD x).map (⟨·,.no⟩)) →
              ∀k2:Ex->LC->Option RV,(∀s',(s'.env 4).v=.bool false->k2 .ret s'=k .ret s')->(∀s',(s'.env 0).v=.sl b (l.map rD)->(s'.env 1).v=.bool rec->(s'.env 6).v=.int .i64 i->(s'.env 7).v=.ptr 7 p 0->s'.mem 7 p=some ((rD x).map (⟨·,.no⟩))->¬x.name∈(l.take i).map ED.name->k2 (.exit 2) s'=some (.bool (xI rec l),none)) →
              HJ MC ZC WH s k2=some (.bool (xI rec l),none):=by
            intro s hgood e0 e1 e6 e8 p e7 m7 k2 jv hk3;refine zE i (fun j s=>(s.env 0).v=.sl b (l.map rD)/\(s.env 1).v=.bool rec/\(s.env 6).v=.int .i64 i/\(s.env 7).v=.ptr 7 p 0/\s.mem 7 p=some ((rD x).map (⟨·,.no⟩))/\(s.env 8).v=.int .i64 j/\¬x.name∈(l.take j).map ED.name)
              (fun e s=>(e=.exit 2/\¬x.name∈(l.take i).map ED.name/\(s.env 0).v=.sl b (l.map rD)/\(s.env 1).v=.bool rec/\(s.env 6).v=.int .i64 i/\(s.env 7).v=.ptr 7 p 0/\s.mem 7 p=some ((rD x).map (⟨·,.no⟩)))\/(e=.ret/\x.name∈(l.take i).map ED.name/\(s.env 4).v=.bool false)) (fun j hj s k' h jb sf=>?_) _ _ ?_ (fun e s h=>?_)
            · obtain ⟨e0,e1,e6,e7,m7,e8,hm⟩:=h
              refine wD ?_;by_cases au:j<i
              · have wn:(j:Int)<i:=by omega
                have g2:(l.map rD)[j]?=some (rD l[j]):=by simp[show j<l.length from by omega]
                have jr:=rE (i:=j);have htj:l.take (j+1)=l.take j++[l[j]]:=(Y0m (by omega)).symm;simp only[rD,ym,yQ]at g2 m7;by_cases fi:l[j].name=x.name
                · simp [WH,-J,-yb,-y9,y0,e0,e1,e6,e7,m7,e8,wn,g1,g2,fi]
                  refine sf _ _ (.inr ⟨rfl,?_,by simp⟩);rw[<- fi];exact List.mem_map_of_mem (List.mem_take_iff_getElem.2 ⟨j,by omega,rfl⟩)
                · simp [WH,-J,-yb,-y9,y0,e0,e1,e6,e7,m7,e8,wn,g1,g2,fi,jr]
                  refine jb au _ ⟨?_,?_,?_,?_,?_,?_,?_⟩
                  · simp[e0]
                  · simp[e1]
                  · simp[e6]
                  · simp[e7]
                  · simp[m7,rD]
                  · simp
                  · rw [htj,Y03,yu]
                    rintro(h|h)
                    · exact hm h
                    · simp at h;exact fi h.symm
              · have wn:¬ (j:Int)<i:=by omega
                have hjj:j=i:=by omega
                simp[WH,-J,-yb,-y9,y0,e6,e8,wn];exact sf _ _ (.inl ⟨rfl,hjj▸hm,by simp[e0],by simp[e1],by simp[e6],by simp[e7],by simp[m7]⟩)
            · simp[e0,e1,e6,e7,e8,m7]
            · rcases h with ⟨rfl,h1,e0,e1,e6,e7,m7⟩ | ⟨rfl,h1,e4⟩
              · exact hk3 s e0 e1 e6 e7 m7 h1
              · rw [jv _ e4]
                exact fail _ e4 (by rw[xp,UV h1];simp)
          have next:∀s',(s'.env 0).v=.sl b (l.map rD)->(s'.env 1).v=.bool rec->(s'.env 5).v=.int .i64 x.id->(s'.env 6).v=.int .i64 ((i+1:Nat):Int)->AD rec x=true->¬x.name∈(l.take i).map ED.name->HJ MC ZC RG s' k=some (.bool (xI rec l),none):=fun s' f0 f1 f5 f6 hg rb=>ih ba _ ⟨f0,f1,by rw[hp];exact f5,f6,by rw[hp,ht,<- ro,c1,c2,hg,xp,TV rb];rfl⟩
          cases hz:x.dflt.same Vl.zero<;>rw[hz]at gn<;>cases rec<;>cases hc:x.gB<;>cases hh:x.has<;>
            simp[RG,-J,-yb,-y9,y0,e0,e1,e5,e6,fa,g1,KN,hn,hc,hh,gn]<;>
            first
            |exact fail _ (by simp) (by simp[AD,hc,hh,hz])
            | (refine inner _ (by simp [AD,hc,hh,hz]) ?_ ?_ ?_ ?_ (s.next + 1) ?_ ?_ _ ?_ ?_
               · simp[e0]
               · simp[e1]
               · simp[e6]
               · simp
               · simp
               · simp[rD,hc,hh]
               · intro s' _;rfl
               · intro s' f0 f1 f6 f7 fm rb
                 simp only[rD,ym,yQ]at fm;simp[-J,-yb,-y9,y0,f0,f1,f6,f7,fm,hw];refine next _ ?_ ?_ ?_ ?_ (by simp[AD,hc,hh,hz]) rb<;>simp[f0,f1])
    · have fa:¬ (i:Int)<l.length:=by omega
      simp[RG,-J,-yb,-y9,y0,e0,e6,fa];refine hk _ _ (.inl ⟨rfl,?_,by simp[e0],by simp[e1]⟩);rw[<- hs,yw (by simp;omega),yw (by omega),NE];rfl
  · simp[JG]
  · unfold xI
    rcases h with⟨rfl,h1,e0,e1⟩|⟨rfl,h1,e2⟩
    · rw [yg] at h1
      rw[h1.1,h1.2];by_cases h16:l.length<=16
      · have ou:(l.length:Int)<=16:=by omega
        cases rec
        · by_cases h0:0<l.length
          · have xg:(1:Int)<=l.length:=by omega
            simp[-J,-yb,-y9,y0,e0,e1,h0,xg,h16,ou]
          · have xg:¬ (1:Int)<=l.length:=by omega
            simp[-J,-yb,-y9,y0,e0,e1,h0,xg,h16,ou]
        · simp[-J,-yb,-y9,y0,e0,e1,h16,ou]
      · have ou:¬ (l.length:Int)<=16:=by omega
        simp[-J,-yb,-y9,y0,e0,e1,h16,ou]
    · have:(l.all (AD rec)&&((rec||decide (0<l.length))&&(NE 0 [] (l.map IH)&&decide (l.length<=16))))=false:=by
        rw[Bool.and_eq_false_iff]at h1;rcases h1 with h1|h1<;>simp[h1]
      rw[this];simp[-J,-yb,-y9,y0,e2]
mutual
theorem Vl.UA:∀v:Vl,v.same v=true
 |.mk k b i s d kn ks xn xs rn rs=>by rw[Vl.same];simp[Vl.EB ks,Vl.EB xs]
theorem Vl.EB:∀l:List Vl,Vl.jA l l=true
 | []=>by rw[Vl.jA]
 |v::r=>by rw[Vl.jA];simp[Vl.UA v,Vl.EB r]
end
theorem ED.UA (m:ED):m.same m=true:=by simp[ED.same,Vl.UA]
theorem mP:∀l:List ED,mD l l=true
 | []=>rfl
 |m::r=>by simp[mD,ED.UA,mP r]
def pE:BC:=⟨0,⟨#[]⟩,0,0,0,true,[],true,[],0,0,false⟩
def BC.left (t:BC):BC :=
 if t.kind=1 then{ t with kind:=0 }
 else if t.kind=2 then{ t with kind:=0,low:=0,high:=0 }
 else if t.kind=3 then{ t with kind:=0,max:=0 }
 else if t.kind=4 then{ t with kind:=0,name:=⟨#[]⟩,sn:=true,wA:=[],opn:=false }
 else if t.kind=5 then{ t with kind:=0,name:=⟨#[]⟩,mn:=true,qA:=[] }
 else if t.kind=6 then{ t with kind:=0,name:=⟨#[]⟩,mn:=true,qA:=[],opn:=false }
 else if t.kind=7 then{ t with kind:=0,max:=0,elem:=0 }
 else if t.kind=8 then{ t with kind:=0,max:=0,elem:=0,key:=0 }
 else{ t with kind:=0,elem:=0 }
def EI (t:BC):Bool :=
 if t.kind=2 then decide (t.low<=t.high)
 else if t.kind=3 then decide (0<=t.max)&&decide (t.max<=200)
 else if t.kind=4 then eI t.name&&IP t.wA
 else if t.kind=5 then eI t.name&&xI true t.qA
 else if t.kind=6 then eI t.name&&xI false t.qA
 else if t.kind=7\/t.kind=8 then decide (0<=t.max)&&decide (t.max<=50)
 else true
def bD (t:BC):Bool:=decide (1<=t.kind/\t.kind<=9)&&(EI t&&t.left.same pE)
def BC.fine (t:BC):Prop:=t.ok/\t.wA.length<=8796093022206/\t.qA.length<=8796093022206
theorem pW {t u:BC}(h:t.ok)(h1:u.wA=t.wA\/u.wA=[])(h2:u.qA=t.qA\/u.qA=[]):u.ok:=by
 refine⟨?_,?_,?_⟩
 ·rcases h1 with h1 | h1
  ·rw[h1];exact h.1
  ·rw[h1];simp
 ·rcases h2 with h2 | h2
  ·rw[h2];exact h.2.1
  ·rw[h2];simp
 ·rcases h2 with h2 | h2
  ·rw[h2];exact h.2.2
  ·rw[h2];simp
theorem left_ok {t:BC}(h:t.ok):t.left.ok:=by
 unfold BC.left;by_cases h1:t.kind=1
 ·rw[if_pos h1];exact pW h (.inl rfl) (.inl rfl)
 by_cases h2:t.kind=2
 ·rw[if_neg h1,if_pos h2];exact pW h (.inl rfl) (.inl rfl)
 by_cases h3:t.kind=3
 ·rw[if_neg h1,if_neg h2,if_pos h3];exact pW h (.inl rfl) (.inl rfl)
 by_cases h4:t.kind=4
 ·rw[if_neg h1,if_neg h2,if_neg h3,if_pos h4];exact pW h (.inr rfl) (.inl rfl)
 by_cases h5:t.kind=5
 ·rw[if_neg h1,if_neg h2,if_neg h3,if_neg h4,if_pos h5];exact pW h (.inl rfl) (.inr rfl)
 by_cases h6:t.kind=6
 ·rw[if_neg h1,if_neg h2,if_neg h3,if_neg h4,if_neg h5,if_pos h6];exact pW h (.inl rfl) (.inr rfl)
 rw[if_neg h1,if_neg h2,if_neg h3,if_neg h4,if_neg h5,if_neg h6];by_cases h7:t.kind=7
 ·rw[if_pos h7];exact pW h (.inl rfl) (.inl rfl)
 by_cases h8:t.kind=8
 ·rw[if_neg h7,if_pos h8];exact pW h (.inl rfl) (.inl rfl)
 rw[if_neg h7,if_neg h8];exact pW h (.inl rfl) (.inl rfl)
theorem kinds (k:Int):k=1\/k=2\/k=3\/k=4\/k=5\/k=6\/k=7\/k=8\/k=9\/¬(1<=k/\k<=9):=by omega
def LJ (n:Int):List AV:=[.int .i64 n]
def BC.dA (t:BC):List Int:=(t.qA.map ED.ty++(if t.kind=8 then [t.key]else []))++(if 7<=t.kind then [t.elem]else [])
section
variable (t:BC) (hl:t.qA.length<=8796093022206)
include t hl
theorem uses_lp (r:RV)(k:Ex->LC->Option RV)
  (hk:∀s':LC,(s'.env 1).v=.ptr 1 1 0->s'.mem 1 1=some (OG t)->(s'.env 3).v=.sl t.qA.isEmpty ((t.qA.map ED.ty).map LJ)->(t.qA.isEmpty=t.qA.isEmpty/\(s'.env 3).a=.ex\/t.qA.isEmpty=false/\(s'.env 3).a=.own 17 3)->k (.exit 0) s'=some r)
  (s:LC) (h1:(s.env 1).v=.ptr 1 1 0) (h2:s.mem 1 1=some (OG t)) (h3:(s.env 7).v=.sl t.mn (t.qA.map rD)) (h4:(s.env 8).v=.int .i64 t.qA.length) (h5:(s.env 9).v=.int .i64 0) (h6:(s.env 3).v=.sl true []) (h7:(s.env 3).a=.ex):HJ MC ZC kI s k=some r:=by
 refine zE t.qA.length (fun i s=>(s.env 1).v=.ptr 1 1 0/\s.mem 1 1=some (OG t)/\(s.env 7).v=.sl t.mn (t.qA.map rD)/\(s.env 8).v=.int .i64 t.qA.length/\(s.env 9).v=.int .i64 i/\(s.env 3).v=.sl (t.qA.take i).isEmpty (((t.qA.take i).map ED.ty).map LJ)/\((t.qA.take i).isEmpty=(t.qA.take i).isEmpty/\(s.env 3).a=.ex\/(t.qA.take i).isEmpty=false/\(s.env 3).a=.own 17 3))
  (fun e s=>e=.exit 0/\(s.env 1).v=.ptr 1 1 0/\s.mem 1 1=some (OG t)/\(s.env 3).v=.sl t.qA.isEmpty ((t.qA.map ED.ty).map LJ)/\(t.qA.isEmpty=t.qA.isEmpty/\(s.env 3).a=.ex\/t.qA.isEmpty=false/\(s.env 3).a=.own 17 3)) (fun i hi s k h ih hk=>?_) _ _ ?_ (fun e s h=>?_)
 ·obtain ⟨e1,m1,e7,e8,e9,e3,an⟩:=h;refine wD ?_;by_cases ba:i<t.qA.length
  ·have fa:(i:Int)<t.qA.length:=by omega
   have g1:(t.qA.map rD)[i]?=some (rD t.qA[i]):=by simp[ba]
   have hw:=rE (i:=i);have ht:t.qA.take (i+1)=t.qA.take i++[t.qA[i]]:=(Y0m ba).symm;generalize t.qA[i]=x at *
   simp only[rD]at g1;have da:(t.qA.take i).length=i:=by simp;omega
   generalize t.qA.take i=q at *
   have rh:pD 8 (q.length+1)=true:=by rw[XC];omega
   have q1:kD 1 ((q.map ED.ty).map LJ)=true:=nF _ _ _ fun _=>rfl
   rcases an with⟨a0,a3⟩|⟨a0,a3⟩
   ·simp[kI,-J,-yb,-y9,y0,e1,m1,e7,e8,e9,e3,a0,a3,fa,g1,hw,rh,q1];refine ih ba _ ⟨?_,?_,?_,?_,?_,?_,?_⟩<;>simp[ht,e1,m1,e7,e8,LJ,An.strip]
   ·simp[kI,-J,-yb,-y9,y0,e1,m1,e7,e8,e9,e3,a0,a3,fa,g1,hw,rh,q1];refine ih ba _ ⟨?_,?_,?_,?_,?_,?_,?_⟩<;>simp[ht,e1,m1,e7,e8,LJ,An.strip]
  ·have fa:¬ (i:Int)<t.qA.length:=by omega
   simp[kI,-J,-yb,-y9,y0,e8,e9,fa];rw[Y0b (by omega)]at e3 an;exact hk _ _ ⟨rfl,by simp[e1],by simp[m1],by simp[e3],by simpa using an⟩
 ·simp[h1,h2,h3,h4,h5,h6,h7]
 ·obtain⟨rfl,e1,m1,e3,an⟩:=h;exact hk s e1 m1 e3 an
theorem uses_ev (b:Bool)(hb:b=t.dA.isEmpty):BD 45 [.agg (GC t)] (.sl b (t.dA.map LJ)):=by
 subst hb;refine tD (c:=cM) rfl rfl ?_;simp[cM,-J,-yb,-y9,y0,GC];refine uses_lp t hl _ _ (fun s e1 m1 e3 an=>?_) _ ?_ ?_ ?_ ?_ ?_ ?_ ?_
 ·have q1:kD 1 ((t.qA.map ED.ty).map LJ)=true:=nF _ _ _ fun _=>rfl
  have rh:pD 8 (t.qA.length+1)=true:=by rw[XC];omega
  have jk:pD 8 (t.qA.length+1+1)=true:=by rw[XC];omega
  unfold BC.dA;by_cases h8:t.kind=8
  ·rcases an with ⟨a0,a3⟩ | ⟨a0,a3⟩
   ·simp[-J,-yb,-y9,y0,e1,m1,e3,a0,a3,h8,q1,rh,jk,LJ]
   ·simp[-J,-yb,-y9,y0,e1,m1,e3,a0,a3,h8,q1,rh,jk,LJ]
  ·by_cases h7:7<=t.kind
   ·rcases an with ⟨a0,a3⟩ | ⟨a0,a3⟩
    ·simp[-J,-yb,-y9,y0,e1,m1,e3,a0,a3,h8,h7,q1,rh,jk,LJ]
    ·simp[-J,-yb,-y9,y0,e1,m1,e3,a0,a3,h8,h7,q1,rh,jk,LJ]
   ·simp[-J,-yb,-y9,y0,e1,m1,e3,h8,h7]
 all_goals simp
theorem Hc (r:RV)(k:Ex->LC->Option RV)
  (hk:∀s':LC,(s'.env 1).v=.ptr 1 1 0->s'.mem 1 1=some (OG t)->(s'.env 3).v=.sl t.qA.isEmpty ((t.qA.map ED.ty).map LJ)->(t.qA.isEmpty=t.qA.isEmpty/\(s'.env 3).a=.ex\/t.qA.isEmpty=false/\(s'.env 3).a=.own 20 3)->k (.exit 0) s'=some r)
  (s:LC) (h1:(s.env 1).v=.ptr 1 1 0) (h2:s.mem 1 1=some (OG t)) (h5:(s.env 4).v=.int .i64 0) (h6:(s.env 3).v=.sl true []) (h7:(s.env 3).a=.ex):HJ MC ZC JI s k=some r:=by
 refine zE t.qA.length (fun i s=>(s.env 1).v=.ptr 1 1 0/\s.mem 1 1=some (OG t)/\(s.env 4).v=.int .i64 i/\(s.env 3).v=.sl (t.qA.take i).isEmpty (((t.qA.take i).map ED.ty).map LJ)/\((t.qA.take i).isEmpty=(t.qA.take i).isEmpty/\(s.env 3).a=.ex\/(t.qA.take i).isEmpty=false/\(s.env 3).a=.own 20 3))
  (fun e s=>e=.exit 0/\(s.env 1).v=.ptr 1 1 0/\s.mem 1 1=some (OG t)/\(s.env 3).v=.sl t.qA.isEmpty ((t.qA.map ED.ty).map LJ)/\(t.qA.isEmpty=t.qA.isEmpty/\(s.env 3).a=.ex\/t.qA.isEmpty=false/\(s.env 3).a=.own 20 3)) (fun i hi s k h ih hk=>?_) _ _ ?_ (fun e s h=>?_)
 ·obtain ⟨e1,m1,e9,e3,an⟩:=h;refine wD ?_;by_cases ba:i<t.qA.length
  ·have fa:(i:Int)<t.qA.length:=by omega
   have g1:(t.qA.map rD)[i]?=some (rD t.qA[i]):=by simp[ba]
   have hw:=rE (i:=i);have ht:t.qA.take (i+1)=t.qA.take i++[t.qA[i]]:=(Y0m ba).symm;generalize t.qA[i]=x at *
   simp only[rD]at g1;have da:(t.qA.take i).length=i:=by simp;omega
   generalize t.qA.take i=q at *
   have rh:pD 8 (q.length+1)=true:=by rw[XC];omega
   have q1:kD 1 ((q.map ED.ty).map LJ)=true:=nF _ _ _ fun _=>rfl
   rcases an with⟨a0,a3⟩|⟨a0,a3⟩
   ·simp[JI,-J,-yb,-y9,y0,e1,m1,e9,e3,a0,a3,fa,g1,hw,rh,q1];refine ih ba _ ⟨?_,?_,?_,?_,?_⟩<;>simp[ht,e1,m1,LJ,An.strip]
   ·simp[JI,-J,-yb,-y9,y0,e1,m1,e9,e3,a0,a3,fa,g1,hw,rh,q1];refine ih ba _ ⟨?_,?_,?_,?_,?_⟩<;>simp[ht,e1,m1,LJ,An.strip]
  ·have fa:¬ (i:Int)<t.qA.length:=by omega
   simp[JI,-J,-yb,-y9,y0,e1,m1,e9,fa];rw[Y0b (by omega)]at e3 an;exact hk _ _ ⟨rfl,by simp[e1],by simp[m1],by simp[e3],by simpa using an⟩
 ·simp[h1,h2,h5,h6,h7]
 ·obtain⟨rfl,e1,m1,e3,an⟩:=h;exact hk s e1 m1 e3 an
theorem Gc (h9:t.kind<=9)(b:Bool)(hb:b=t.dA.isEmpty):BD 50 [.agg (GC t)] (.sl b (t.dA.map LJ)):=by
 subst hb;refine tD (c:=QN) rfl rfl ?_;simp[QN,-J,-yb,-y9,y0,GC];refine Hc t hl _ _ (fun s e1 m1 e3 an=>?_) _ ?_ ?_ ?_ ?_ ?_
 ·have q1:kD 1 ((t.qA.map ED.ty).map LJ)=true:=nF _ _ _ fun _=>rfl
  have rh:pD 8 (t.qA.length+1)=true:=by rw[XC];omega
  have jk:pD 8 (t.qA.length+1+1)=true:=by rw[XC];omega
  unfold BC.dA;have hc:t.kind=8\/t.kind=7\/t.kind=9\/(¬t.kind=8/\¬t.kind=7/\¬t.kind=9/\¬7<=t.kind):=by omega
  rcases hc with h|h|h|⟨h8,h7,h9,h⟩
  ·rcases an with⟨a0,a3⟩|⟨a0,a3⟩<;>simp[-J,-yb,-y9,y0,e1,m1,e3,a0,a3,h,q1,rh,jk,LJ]
  ·rcases an with⟨a0,a3⟩|⟨a0,a3⟩<;>simp[-J,-yb,-y9,y0,e1,m1,e3,a0,a3,h,q1,rh,jk,LJ]
  ·rcases an with⟨a0,a3⟩|⟨a0,a3⟩<;>simp[-J,-yb,-y9,y0,e1,m1,e3,a0,a3,h,q1,rh,jk,LJ]
  ·simp[-J,-yb,-y9,y0,e1,m1,e3,h8,h7,h9,h]
 all_goals simp
end
def Vl.bare (v:Vl):Vl:=.mk v.kind (if v.kind=1 then v.b else false) (if v.kind=2 then v.i else 0) (if v.kind=3 then v.s else⟨#[]⟩) (if v.kind=4\/v.kind=6 then v.id else 0)
 (if v.kind=8 then v.kn else true) (if v.kind=8 then v.keys else []) (if 5<=v.kind then v.xn else true) (if 5<=v.kind then v.items else []) (if v.kind=5\/v.kind=6 then v.rn else true) (if v.kind=5\/v.kind=6 then v.rest else [])




section
open Go Go.RowKit
section
variable {P:Program}
theorem rL (w:World)(t ty e:TypeId)(i:TypeInfo)(size:Nat)(ht:P.underlying t=some (.slice e))(hi:P.info? e=some i)(hs:i.size=size)(g off n c:Nat)(cur:Array Value)(te:TypeId)
  (hg:w.heap[g]?=some (.cells cur te (0,0))) (a:Addr) (m c':Nat) (news:List Value) (hl:news.length=m*size) (zb:∀j u,news[j]?=some u->w.cell? (a.add j)=some u) (h1:∀u∈news,u.oneCell'=true) (ga:n+m<=c) (li:off+n*size+news.length<=cur.size) :
  (Builtin.append_ #[t,t] ty #[.slice (some ⟨g,off,none⟩) n c,.slice (some a) m c']).run P w=.ok (.slice (some ⟨g,off,none⟩) (n+m) c) (w.setRow g (cur.toList.take (off+n*size)++news++cur.toList.drop (off+n*size+news.length)).toArray):=by
 have iu:=run_loadCells_list (P:=P) w a news zb;rw[hl]at iu;have sb:=run_storeCells_at P g (off+n*size) te news 0 cur w hg (by simpa using li) h1;simp only[yV]at sb;simp[Builtin.append_,run_underlying ht,sizeOf,typeInfo,hi,hs,Builtin.lenOf,Builtin.firstCells,ga,iu,Addr.add_lit,sb]
theorem fI (w:World)(t ty e:TypeId)(i:TypeInfo)(z:Value)(size bytes:Nat)(ht:P.underlying t=some (.slice e))(hi:P.info? e=some i)(hz:i.zero=some z)(hs:i.size=size)(hby:i.bytes=bytes)(fk:z.cells.size=size)(A:Option Addr)(n c:Nat)(olds:List Value)(hlo:olds.length=n*size)
  (iw:0<n->∃b,A=some b/\∀j u,olds[j]?=some u->w.cell? (b.add j)=some u) (wm:A=none->n=0/\c=0) (a:Addr) (m c':Nat) (news:List Value) (hl:news.length=m*size) (zb:∀j u,news[j]?=some u->w.cell? (a.add j)=some u) (ga:c<n+m) (hnc:n<=c) (hb:n+m<=1000) (hbb:bytes<=1000) :
  ∃cap sa,n+m<=cap/\cap<=maxLen/\sa.size=cap*size/\sa.toList.take ((n+m)*size)=olds++news/\(Builtin.append_ #[t,t] ty #[.slice A n c,.slice (some a) m c']).run P w=.ok (.slice (some ⟨w.heap.size,0,none⟩) (n+m) cap) (w.drew.alloc (.cells sa e)):=by
 subst hs;have h48:Builtin.nextslicecap (n+m) c*i.bytes<=281474976710656:=by
  have h1:Builtin.nextslicecap (n+m) c<=2*(n+m):=nextslicecap_le ga
  calc _<=(2*(n+m))*i.bytes:=Y0e _ h1
   _<=2000*1000:=Nat.mul_le_mul (by omega) (by omega)
   _<=_:=by decide
 cases A with
 |none =>
  obtain⟨hn,rx⟩:=wm rfl;subst hn;subst rx;have:olds=[]:=Y04 (by simpa using hlo);subst this;have cf:=grownCap_ge w m 0 e;have mf:m*i.bytes<=1000*1000:=Nat.mul_le_mul (by omega) (by omega);have hr:=run_append_nil (P:=P) w t ty e i z ht hi hz a m c' news hl zb (by omega) (by omega) (by omega);rw[yy];refine⟨_,_,cf,grownCap_le_maxLen w _ _ e (by have:maxLen=9223372036854775807:=rfl;omega),?_,?_,hr⟩
  ·rw[Array.size_append,size_zeroCells,yY,hl,fk,<- yL];congr 1;omega
  ·rw[Array.toList_append,<- hl];exact List.take_left
 |some b =>
  have cf:=grownCap_ge w (n+m) c e;have holds':∀j u,olds[j]?=some u->w.cell? (b.add j)=some u:=fun j u hu=>by
   have hj:j<olds.length:=(yn.1 hu).1;have hn:0<n:=by
    rcases yZ n with h|h
    ·subst h;omega
    ·exact h
   obtain⟨b',db,h⟩:=iw hn;injection db with db;subst db;exact h j u hu
  have hr:=run_append_grow (P:=P) w t ty e i z ht hi hz b n c olds hlo holds' a m c' news hl zb ga (by omega) h48;refine⟨_,_,cf,grownCap_le_maxLen w _ _ e (by have:maxLen=9223372036854775807:=rfl;omega),?_,?_,hr⟩
  ·rw[Array.size_append,Array.size_append,size_zeroCells,yY,yY,hl,hlo,fk,<- yL,<- yL];congr 1;omega
  ·have bc:(olds++news).length=(n + m) * i.size:=by rw [yj,hlo,hl,yL]
   rw[Array.toList_append,Array.toList_append,<- bc];exact List.take_left
theorem Su (w:World)(dT sT ty e:TypeId)(size:Nat)(hu:P.underlying dT=some (.slice e))(hs:(P.info? e).map (·.size)=some size)(g off dLen dCap:Nat)(a:Addr)(sLen sCap:Nat)(cur:Array Value)(t:TypeId)(cs:List Value)
  (hg:w.heap[g]?=some (.cells cur t (0,0))) (hn:cs.length=Nat.min sLen dLen*size) (mw:∀j v,cs[j]?=some v->w.cell? (a.add j)=some v) (li:off+cs.length<=cur.size) (h1:∀v∈cs,v.oneCell'=true) :
  (Builtin.copy_ #[dT,sT] ty #[.slice (some ⟨g,off,none⟩) dLen dCap,.slice (some a) sLen sCap]).run P w=.ok (goInt (Nat.min sLen dLen:Nat)) (w.setRow g (cur.toList.take off++cs++cur.toList.drop (off+cs.length)).toArray):=by
 have hl:=run_loadCells_list (P:=P) w a cs mw;have sb:=run_storeCells_at P g off t cs 0 cur w hg (by simpa using li) h1;rw[hn]at hl;cases hq:P.info? e with
 |none=>simp[hq]at hs
 |some i =>
  have hi:i.size=size:=by simpa [hq]using hs
  simp only[yV]at sb;simp[Builtin.copy_,run_underlying hu,Builtin.lenOf,Builtin.firstCells,sizeOf,typeInfo,hq,hi,hl,sb]
end
theorem EL {P:Program}(w:World){ops:Array Oper}{rest:List Oper}{o:Oper}{a:Act}{Q:Exit->Act->World->Prop}(ux:o.guard=none)(s x:Operand)(t t':TypeId)
  (ho:o.op=.call { callee:=.builtin .append,args:=#[s,x],argTypes:=#[t,t'] }) (v u:Value) (hs:a.eval s=v) (hx:a.eval x=u) {v':Value} {w':World}
  (hr:(Builtin.append_ #[t,t'] o.type #[v,u]).run P w=.ok v' w') (h:wpList P ops Q rest (a.put o.dst v') w'):wpList P ops Q (o::rest) a w:=by
 refine wpList_plain ux fun K hK=>?_
 unfold Oper.wp execOp;simp only[ho,resolve,invoke,builtin,Sem.run_bind,Sem.run_pure,Result.andThen_ok,List.map_toArray,ym,yQ,hs,hx,hr];exact hK _ _ h
theorem bW {P:Program}{w:World}{ops:Array Oper}{o:Oper}{a:Act}{K:Act->World->Prop}{Q:Exit->Act->World->Prop}{E:Prop}(ux:o.guard=none)(s x:Operand)(t t':TypeId)
  (ho:o.op=.call { callee:=.builtin .append,args:=#[s,x],argTypes:=#[t,t'] }) (v u:Value) (hs:a.eval s=v) (hx:a.eval x=u) {v':Value} {w':World}
  (hr:(Builtin.append_ #[t,t'] o.type #[v,u]).run P w=.ok v' w') (h:K (a.put o.dst v') w'):if Region.wanted o (yielded ops a.tmps)=true then Oper.wp P o a w K Q else E:=by
 have hw:Region.wanted o (yielded ops a.tmps)=true:=by simp[Region.wanted,ux]
 rw[if_pos hw];unfold Oper.wp execOp;simp only[ho,resolve,invoke,builtin,Sem.run_bind,Sem.run_pure,Result.andThen_ok,List.map_toArray,ym,yQ,hs,hx,hr];exact h
theorem AK {P:Program}(w:World){ops:Array Oper}{rest:List Oper}{o:Oper}{a:Act}{Q:Exit->Act->World->Prop}(ux:o.guard=none)(s x:Operand)(t t':TypeId)
  (ho:o.op=.call { callee:=.builtin .copy,args:=#[s,x],argTypes:=#[t,t'] }) (v u:Value) (hs:a.eval s=v) (hx:a.eval x=u) {v':Value} {w':World}
  (hr:(Builtin.copy_ #[t,t'] o.type #[v,u]).run P w=.ok v' w') (h:wpList P ops Q rest (a.put o.dst v') w'):wpList P ops Q (o::rest) a w:=by
 refine wpList_plain ux fun K hK=>?_
 unfold Oper.wp execOp;simp only[ho,resolve,invoke,builtin,Sem.run_bind,Sem.run_pure,Result.andThen_ok,List.map_toArray,ym,yQ,hs,hx,hr];exact hK _ _ h
theorem mM {P:Program}{w:World}{ops:Array Oper}{o:Oper}{a:Act}{K:Act->World->Prop}{Q:Exit->Act->World->Prop}{E:Prop}(ux:o.guard=none)(s x:Operand)(t t':TypeId)
  (ho:o.op=.call { callee:=.builtin .copy,args:=#[s,x],argTypes:=#[t,t'] }) (v u:Value) (hs:a.eval s=v) (hx:a.eval x=u) {v':Value} {w':World}
  (hr:(Builtin.copy_ #[t,t'] o.type #[v,u]).run P w=.ok v' w') (h:K (a.put o.dst v') w'):if Region.wanted o (yielded ops a.tmps)=true then Oper.wp P o a w K Q else E:=by
 have hw:Region.wanted o (yielded ops a.tmps)=true:=by simp[Region.wanted,ux]
 rw[if_pos hw];unfold Oper.wp execOp;simp only[ho,resolve,invoke,builtin,Sem.run_bind,Sem.run_pure,Result.andThen_ok,List.map_toArray,ym,yQ,hs,hx,hr];exact h
def lay (L:List Value)(o:Nat)(X:List Value):List Value:=L.take o++X++L.drop (o+X.length)
theorem UK {L X:List Value}{o:Nat}(h:o+X.length<=L.length):(lay L o X).length=L.length:=by
 simp only[lay,yj,yz,yJ];omega
theorem sP (L X:List Value)(o j:Nat)(h:o+X.length<=L.length):(lay L o X)[j]?=if o<=j/\j<o+X.length then X[j-o]? else L[j]?:=by
 have ht:(L.take o).length=o:=by rw[yz];omega
 unfold lay;rcases Nat.lt_or_ge j o with h1|h1
 ·rw[if_neg (by omega),yx,yT (by omega),yK,if_pos h1]
 ·rcases Nat.lt_or_ge j (o + X.length) with h2 | h2
  ·rw[if_pos ⟨h1,h2⟩,yT (by rw[yj];omega),yP (by omega),ht]
  ·rw[if_neg (by omega),yP (by rw[yj];omega),yj,ht,yI];congr 1;omega
def sR:Value->Option Nat
 |.slice (some a) _ _=>some a.block
 |_=>none
theorem IQ {w:World}{a:Addr}{u:Value}(h:w.cell? a=some u):∃c ty fz,w.heap[a.block]?=some (.cells c ty fz)/\0<c.size:=by
 unfold World.cell? at h;split at h
 ·rename_i c ty fz hc;split at h
  ·cases h
  ·have:=(Array.getElem?_eq_some_iff.1 h).1;exact⟨c,ty,fz,hc,by omega⟩
 ·cases h
theorem RS {P:Program}(w:World)(tS tR e:TypeId)(ht:P.underlying tS=some (.slice e))(size:Nat)(hz:∀w,(Go.sizeOf e).run P w=.ok size w)
  (a b:Addr) (la ca lb cb:Nat) (ua:a.block≠b.block) (u:Value) (ha:w.cell? a=some u) (cur:Array Value) (ty:TypeId) (hb:w.heap[b.block]?=some (.cells cur ty (0,0))) (mh:cur.size≠0) :
  (Extern.SlicesOverlaps.overlaps #[tS,tS] #[tR] #[.slice (some a) la ca,.slice (some b) lb cb]).run P w=.ok (.bool false) w:=by
 obtain⟨ca',ta,fz,hca,gc⟩:=IQ ha;have dy:w.shape? a.block=some (ta,ca'.size):=by simp[World.shape?,hca]
 have iy:w.shape? b.block=some (ty,cur.size):=by simp[World.shape?,hb]
 have hfb:w.frozen? b=false:=by simp[World.frozen?,hb]
 have hfe:w.frozen? { block:=b.block,off:=cur.size }=false:=by simp[World.frozen?,hb]
 have ot:(a.block != b.block)=true:=by simpa using ua
 have hnb':(a.block == b.block)=false:=by simpa using ua
 change Sem.run P (α:=Value) (do
  let some t:=(#[tS,tS]:Array TypeId)[0]? | stuck "slices.overlaps: no parameter types"
  let .slice elem <- underlying t | stuck "slices.overlaps: slice type expected"
  let size <- sizeOf elem
  match(some a:Option Addr),(some b:Option Addr)with
  |some a,some b =>
   if la=0\/lb=0\/size=0 then pure (Value.bool false)
   else if a.block != b.block&&(<- frozen a)&&(<- frozen b)then unsupported .addressObserved
   else do
    if a.block != b.block then do
     noView a;noView b
     if <- mayBeOne a b then return Value.bool ((<- choose (.extern "sameAddr.stringBytes" 2)) == 1)
    pure (Value.bool (a.block == b.block&&a.off<b.off+lb*size&&b.off<a.off+la*size))
  |_,_=>pure (Value.bool false)) w=_
 by_cases h0:la=0\/lb=0\/size=0
 ·simp[run_underlying ht,hz,h0]
 ·obtain⟨k,hk⟩:∃k,ca'.size=k+1:=⟨ca'.size-1,by omega⟩;obtain⟨m,hm⟩:∃m,cur.size=m+1:=⟨cur.size-1,by omega⟩;rw[hk]at dy;rw[hm]at iy hfe;cases hfa:w.frozen? a<;>cases hfk:w.frozen? { block:=a.block,off:=k+1 }<;>
   simp[run_underlying ht,hz,h0,ot,hnb',frozen,noView,viewAt,mayBeOne,stringish,shape,Sem.run,dy,iy,hfb,hfe,hfa,hfk]
theorem M3 {P:Program}(w:World)(t e e0 ty:TypeId)(z:Value)(ht:P.underlying t=some (.slice e))(hz:(zeroValue e).run P w=.ok z w)(h1:∀u∈z.cells.toList,u.oneCell'=true)
  (g off n c:Nat) (cur:Array Value) (hg:w.heap[g]?=some (.cells cur e0 (0,0))) (bc:off+n*z.cells.size<=cur.size) :
  ∃w' sa,(Builtin.clear_ #[t] ty #[.slice (some ⟨g,off,none⟩) n c]).run P w=.ok (.tuple #[]) w'/\w'.heap[g]?=some (.cells sa e0 (0,0))/\sa.size=cur.size/\sa.toList.take off=cur.toList.take off/\SD (fun b=>b=g) w w':=by
 cases n with
 |zero =>
  refine⟨w,cur,?_,hg,rfl,rfl,SD.refl _ w⟩;simp[Builtin.clear_,run_underlying ht]
 |succ n =>
  have hzc:∀u∈(Builtin.zeroCells z.cells (n+1)).toList,u.oneCell'=true:=by
   intro u hu;simp only[Builtin.zeroCells,Array.toList_map,yD,Array.toList_range,List.mem_range]at hu;obtain⟨j,hj,rfl⟩:=hu;have gc:0<z.cells.size:=by
    rcases yZ z.cells.size with h|h
    ·rw[h]at hj;simp at hj
    ·exact h
   have ba:=Nat.mod_lt j gc;rw[getElem!_pos z.cells _ ba];exact h1 _ (by simp)
  have zc:(Builtin.zeroCells z.cells (n+1)).toList.length=(n+1)*z.cells.size:=by simp[size_zeroCells]
  have sb:=run_storeCells_at P g off e0 (Builtin.zeroCells z.cells (n+1)).toList 0 cur w hg (by rw[zc];simpa using bc) hzc;simp only[yV]at sb;obtain⟨nw,hnw⟩:∃nw,nw=(cur.toList.take off++(Builtin.zeroCells z.cells (n+1)).toList++cur.toList.drop (off+(Builtin.zeroCells z.cells (n+1)).toList.length)).toArray:=⟨_,rfl⟩;rw[<- hnw]at sb;refine⟨w.setRow g nw,nw,?_,setRow_heap w g cur _ e0 _ hg,?_,?_,?_⟩
  ·simp[Builtin.clear_,run_underlying ht,hz,sb]
  ·rw[hnw];simp only[yY,yj,yz,yJ,Y02,zc];omega
  ·rw[hnw,yx];exact List.take_left' (by simp;omega)
  ·exact⟨rfl,rfl,rfl,by simp,fun k hk hF=>setRow_other w g k _ hF⟩
end
section
open Go Go.RowKit
structure zO where
 cells:List Value
 len:cells.length=13
 one:∀u∈cells,u.oneCell'=true
def RJ (l:List zO):List Value:=l.flatMap zO.cells
theorem cG (l:List zO):(RJ l).length=l.length*13:=by
 induction l with
 |nil=>rfl
 |cons q l ih=>simp only[RJ,Y0a,yj,yG,q.len]at ih ⊢;rw[ih];omega
theorem kO (l r:List zO):RJ (l++r)=RJ l++RJ r:=by simp[RJ]
theorem gQ (q:zO)(r:List zO):RJ (q::r)=q.cells++RJ r:=by simp[RJ]
theorem bS (l:List zO)(k:Nat):(RJ l).take (k*13)=RJ (l.take k):=by
 induction l generalizing k with
 |nil=>simp[RJ]
 |cons q l ih =>
  cases k with
  |zero=>simp[RJ]
  |succ k =>
   have h4:=q.len;rw[gQ,List.take_succ_cons,gQ,List.take_append,h4,show(k+1)*13-13=k*13 from by omega,ih,Y0b (by rw[h4];omega)]
theorem lO (l:List zO)(k:Nat):(RJ l).drop (k*13)=RJ (l.drop k):=by
 induction l generalizing k with
 |nil=>simp[RJ]
 |cons q l ih =>
  cases k with
  |zero=>simp[RJ]
  |succ k =>
   have h4:=q.len;rw[gQ,List.drop_succ_cons,List.drop_append,h4,show(k+1)*13-13=k*13 from by omega,ih,yw (by rw[h4];omega),Y00]
theorem BY (l:List zO):∀u∈RJ l,u.oneCell'=true:=by
 intro u hu;simp only[RJ,yR]at hu;obtain⟨q,_,hq⟩:=hu;exact q.one u hq
theorem Mz:∀(n:Nat)(vs:List Value),vs.length=n*13->(∀u∈vs,u.oneCell'=true)->∃l:List zO,l.length=n/\RJ l=vs
 |0,vs,h,_=>⟨[],rfl,(Y04 (by omega)).symm⟩
 |n+1,vs,h,h1=>by
  obtain⟨l,hl,hc⟩:=Mz n (vs.drop 13) (by rw[yJ];omega) (fun u hu=>h1 u (List.mem_of_mem_drop hu));exact⟨⟨vs.take 13,by rw[yz];omega,fun u hu=>h1 u (Y0i hu)⟩::l,by simp[hl],by rw[gQ,hc];exact Y0c _ _⟩
def myZ:Value:=.agg #[.int .i64 0,.string ⟨#[]⟩,.int .i64 0,.bool false,.bool false,.int .i64 0,.bool false,.int .i64 0,.string ⟨#[]⟩,.int .i64 0,.slice none 0 0,.slice none 0 0,.slice none 0 0]
theorem Lf:Tryz.prog.underlying 66=some (.slice 50):=by kernel_rfl
theorem myi:(Tryz.prog.info? 50).map (fun i=>(i.zero,i.size,i.bytes))=some (some myZ,13,160):=by kernel_rfl
theorem mysz:(Tryz.prog.info? 50).map (·.size)=some 13:=by kernel_rfl
theorem myzv (w:World):(zeroValue 50).run Tryz.prog w=.ok myZ w:=by kernel_rfl
theorem myhi (A:Option Addr)(n c k:Nat)(hk:k<=c)(w:World):(Instr.slice 66 (.slice A n c) none (some (.int .i64 k)) none).run Tryz.prog w=.ok (.slice A k c) w:=by
 obtain⟨i,hi,fc,ze,ij⟩:=info_parts myi;exact Qj w _ _ i Lf hi A n c k hk
theorem Qw (A:Option Addr)(n c k:Nat)(hk:k<=n)(w:World):(Instr.slice 66 (.slice A n c) (some (.int .i64 k)) none none).run Tryz.prog w=.ok (.slice (if c=k then A else A.map (·.add (k*13))) (n-k) (c-k)) w:=by
 obtain⟨i,hi,fc,ze,ij⟩:=info_parts myi;exact Ej w _ _ i 13 Lf hi ze A n c k hk
theorem mylh (A:Option Addr)(n c k h:Nat)(hk:k<=h)(hh:h<=c)(w:World):(Instr.slice 66 (.slice A n c) (some (.int .i64 k)) (some (.int .i64 h)) none).run Tryz.prog w=.ok (.slice (if c=k then A else A.map (·.add (k*13))) (h-k) (c-k)) w:=by
 obtain⟨i,hi,fc,ze,ij⟩:=info_parts myi;exact Wj w _ _ i 13 Lf hi ze A n c k h hk hh
theorem mysiz (w:World):(Go.sizeOf 50).run Tryz.prog w=.ok 13 w:=by kernel_rfl
structure dP (w:World)(g off c N:Nat)(l:List zO):Prop where
 blk:∃cur ty,w.heap[g]?=some (.cells cur ty (0,0))/\cur.size=N/\off+c*13<=N/\(cur.toList.drop off).take (l.length*13)=RJ l
 len:l.length<=c
def myO (w:World)(v:Value)(l:List zO):Prop:=(v=.slice none 0 0/\l=[])\/∃g c N,v=.slice (some ⟨g,0,none⟩) l.length c/\dP w g 0 c N l
section
variable {w w':World} {g off c N:Nat} {l:List zO} {v:Value}
theorem dP.keep {F:Nat->Prop}(h:dP w g off c N l)(hk:SD F w w')(hF:¬F g):dP w' g off c N l:=by
 obtain⟨⟨cur,ty,h1,h2,h3⟩,h4⟩:=h;exact⟨⟨cur,ty,(hk.block g (sD h1) hF).trans h1,h2,h3⟩,h4⟩
theorem dP.lt (h:dP w g off c N l):g<w.heap.size:=by obtain⟨⟨cur,ty,h1,_⟩,_⟩:=h;exact sD h1
theorem dP.cells (h:dP w g off c N l)(j:Nat)(u:Value)(hu:(RJ l)[j]?=some u):w.cell? ⟨g,off+j,none⟩=some u:=by
 obtain⟨⟨cur,ty,h1,h2,tg,h3⟩,h4⟩:=h;rw[cell_of_row w g (off+j) cur _ (0,0) h1];rw[<- h3,yK]at hu;split at hu
 ·rw[yI]at hu;simpa using hu
 ·cases hu
theorem dP.drop (h:dP w g off c N l){k:Nat}(hk:k<=l.length):dP w g (if c=k then off else off+k*13) (c-k) N (l.drop k):=by
 obtain⟨⟨cur,ty,h1,h2,tg,h3⟩,h4⟩:=h;have h6:=lO l k;refine⟨⟨cur,ty,h1,h2,?_,?_⟩,by rw[yJ];omega⟩
 ·split<;>omega
 ·rw [yJ,<- h6,<- h3];split
  ·rename_i e;have:l.length=k:=by omega
   rw[this,Nat.sub_self,Nat.zero_mul,List.take_zero,yw (by rw[yz];omega)]
  ·rw[<- List.drop_drop,List.drop_take,Nat.sub_mul]
theorem dP.take (h:dP w g off c N l){k:Nat}(hk:k<=l.length):dP w g off c N (l.take k):=by
 obtain⟨⟨cur,ty,h1,h2,tg,h3⟩,h4⟩:=h;refine⟨⟨cur,ty,h1,h2,tg,?_⟩,by rw[yz];omega⟩;rw[<- bS,<- h3,List.take_take,yz,Nat.min_eq_left hk,Nat.min_eq_left (by omega)]
end
theorem dP.app {w:World}{g off c:Nat}{l r:List zO}{cur:Array Value}{ty:TypeId}(hg:w.heap[g]?=some (.cells cur ty (0,0)))(h2:off+c*13<=cur.size)(h3:(cur.toList.drop off).take (l.length*13)=RJ l)(ga:l.length+r.length<=c):
  dP (w.setRow g (cur.toList.take (off+l.length*13)++RJ r++cur.toList.drop (off+l.length*13+(RJ r).length)).toArray) g off c cur.size (l++r):=by
 have hr:=cG r;have ol:cur.toList.length=cur.size:=by simp
 refine⟨⟨_,_,setRow_heap w g cur _ _ _ hg,?_,h2,?_⟩,by rw[yj];exact ga⟩
 ·simp only[yY,yj,yz,yJ,Y02,hr];omega
 ·have ht:(cur.toList.take (off + l.length * 13)).length=off + l.length * 13:=by rw [yz]; omega
  have e1:(cur.toList.take (off+l.length*13)).drop off=RJ l:=by rw[List.drop_take,Y0g,h3]
  simp only;rw[yx,List.drop_append_of_le_length (by omega),e1,kO,yj,yL,<- cG l,<- hr,<- yx,<- yj];exact List.take_left
theorem dP.clear {w:World}{g off c N:Nat}{l:List zO}(h:dP w g off c N l)(ty:TypeId)(n m:Nat)(hn:l.length+n<=c):
  ∃w',(Builtin.clear_ #[66] ty #[.slice (some ⟨g,off+l.length*13,none⟩) n m]).run Tryz.prog w=.ok (.tuple #[]) w'/\dP w' g off c N l/\SD (fun b=>b=g) w w':=by
 obtain⟨⟨cur,t0,h1,h2,tg,h3⟩,h4⟩:=h;have eo:∀u∈myZ.cells.toList,u.oneCell'=true:=fun u hu=>ye.1 (show myZ.cells.toList.all (fun u=>u.oneCell')=true by rfl) u hu
 have fk:myZ.cells.size=13:=rfl;obtain⟨w',sa,r1,r2,r3,r4,r5⟩:=M3 (P:=Tryz.prog) w 66 50 t0 ty _ Lf (myzv w) eo g (off+l.length*13) n m cur h1 (by rw[fk];omega);refine⟨w',r1,⟨⟨sa,_,r2,by omega,tg,?_⟩,h4⟩,r5⟩;have e:∀L:List Value,(L.drop off).take (l.length*13)=(L.take (off+l.length*13)).drop off:=fun L=>by rw[List.drop_take,Y0g]
 rw[e,r4,<- e,h3]
theorem j6 (w:World)(ty t0:TypeId)(g off dLen dCap:Nat)(a:Addr)(sLen sCap:Nat)(L:List Value)(cs:List Value)
  (hg:w.heap[g]?=some (.cells L.toArray t0 (0,0))) (hn:cs.length=Nat.min sLen dLen*13) (mw:∀j v,cs[j]?=some v->w.cell? (a.add j)=some v) (li:off+cs.length<=L.length) (h1:∀v∈cs,v.oneCell'=true) :
  (Builtin.copy_ #[66,66] ty #[.slice (some ⟨g,off,none⟩) dLen dCap,.slice (some a) sLen sCap]).run Tryz.prog w=.ok (goInt (Nat.min sLen dLen:Nat)) (w.setRow g (lay L off cs).toArray):=by
 have:=Su (P:=Tryz.prog) w 66 66 ty 50 13 Lf mysz g off dLen dCap a sLen sCap L.toArray t0 cs hg hn mw (by simpa using li) h1;exact this
theorem dP.list {w:World}{g off c N:Nat}{l:List zO}(h:dP w g off c N l):∃(L:List Value)(ty:TypeId),w.heap[g]?=some (.cells L.toArray ty (0,0))/\L.length=N/\off+c*13<=L.length/\∀j,j<l.length*13->L[off+j]?=(RJ l)[j]?:=by
 obtain⟨⟨cur,ty,h1,h2,tg,h3⟩,h4⟩:=h;refine⟨cur.toList,ty,h1,by simpa using h2,by rw[Y02];omega,fun j hj=>?_⟩;rw[<- h3,yK,if_pos hj,yI]
theorem dP.IB {w:World}{g off c:Nat}{l:List zO}{L:List Value}{ty:TypeId}(h1:w.heap[g]?=some (.cells L.toArray ty (0,0)))(h2:off+c*13<=L.length)(h3:∀j,j<l.length*13->L[off+j]?=(RJ l)[j]?)(h4:l.length<=c):dP w g off c L.length l:=by
 refine⟨⟨_,_,h1,by simp,h2,?_⟩,h4⟩;apply List.ext_getElem?;intro j;rw[yK];split
 ·rename_i hj;rw[yI];exact h3 j hj
 ·rename_i hj;rw[Y08 (by rw[cG];omega)]
theorem Ai (l:List zO)(x:zO)(i j:Nat)(hi:i<=l.length):(RJ (l.take i++x::l.drop i))[j]?=if j<i*13 then(RJ l)[j]? else if j<i*13+13 then x.cells[j-i*13]? else(RJ l)[j-13]?:=by
 have ht:(RJ (l.take i)).length=i*13:=by rw[cG,yz,Nat.min_eq_left hi]
 have hx:=x.len;rw[kO,gQ];split
 ·rw[yT (by omega),<- bS,yK,if_pos (by omega)]
 ·split
  ·rw[yP (by omega),ht,yT (by omega)]
  ·rw[yP (by omega),ht,yP (by omega),hx,<- lO,yI];congr 1;omega
theorem dP.ins {w:World}{g off c:Nat}{l:List zO}{x:zO}{L:List Value}{i:Nat}{ty:TypeId}(hi:i<=l.length)(hL:off+c*13<=L.length)(hc:∀j,j<l.length*13->L[off+j]?=(RJ l)[j]?)(ga:l.length+1<=c)(hg:w.heap[g]?=some (.cells (lay (lay L (off+(i+1)*13) (RJ (l.drop i))) (off+i*13) x.cells).toArray ty (0,0))):
  dP w g off c L.length (l.take i++x::l.drop i):=by
 have hx:=x.len;have hd:(RJ (l.drop i)).length=(l.length-i)*13:=by rw[cG,yJ]
 have da:(l.take i++x::l.drop i).length=l.length+1:=by simp;omega
 have h1:off+(i+1)*13+(RJ (l.drop i)).length<=L.length:=by omega
 have xh:=UK h1;have h2:off+i*13+x.cells.length<=(lay L (off+(i+1)*13) (RJ (l.drop i))).length:=by rw[xh,hx];omega
 have ik:=UK h2;have:=dP.IB hg (c:=c) (off:=off) (l:=l.take i++x::l.drop i) (by rw[ik,xh];exact hL) (fun j hj=>?_) (by omega)
 ·rwa [ik,xh]at this
 rw[da]at hj;rw[Ai l x i j hi,sP _ _ _ _ h2,sP _ _ _ _ h1,hx,hd];by_cases c1:j<i*13
 ·rw[if_pos c1,if_neg (by omega),if_neg (by omega)];exact hc j (by omega)
 ·rw [if_neg c1];by_cases c2:j<i * 13 + 13
  ·rw[if_pos c2,if_pos (by omega)];congr 1;omega
  ·rw[if_neg c2,if_neg (by omega),if_pos (by omega),<- lO,yI];congr 1;omega
theorem dP.ins2 {w:World}{g c:Nat}{l:List zO}{x:zO}{L:List Value}{i:Nat}{ty:TypeId}(hi:i<=l.length)(hL:c*13<=L.length)(hc:∀j,j<i*13->L[j]?=(RJ l)[j]?)(ga:l.length+1<=c)(hg:w.heap[g]?=some (.cells (lay (lay L (i*13) x.cells) ((i+1)*13) (RJ (l.drop i))).toArray ty (0,0))):
  dP w g 0 c L.length (l.take i++x::l.drop i):=by
 have hx:=x.len;have hd:(RJ (l.drop i)).length=(l.length-i)*13:=by rw[cG,yJ]
 have da:(l.take i++x::l.drop i).length=l.length+1:=by simp;omega
 have h1:i*13+x.cells.length<=L.length:=by omega
 have xh:=UK h1;have h2:(i+1)*13+(RJ (l.drop i)).length<=(lay L (i*13) x.cells).length:=by rw[xh,hd];omega
 have ik:=UK h2;have:=dP.IB hg (c:=c) (off:=0) (l:=l.take i++x::l.drop i) (by rw[ik,xh];omega) (fun j hj=>?_) (by omega)
 ·rwa [ik,xh]at this
 rw[da]at hj;rw[yy,Ai l x i j hi,sP _ _ _ _ h2,sP _ _ _ _ h1,hx,hd];by_cases c1:j<i*13
 ·rw[if_pos c1,if_neg (by omega),if_neg (by omega)];exact hc j c1
 ·rw [if_neg c1];by_cases c2:j<i * 13 + 13
  ·rw[if_pos c2,if_neg (by omega),if_pos (by omega)]
  ·rw[if_neg c2,if_pos (by omega),<- lO,yI];congr 1;omega
end
section
open Go Go.RowKit
def myCut (g off N:Nat)(w:World)(l:List zO)(e:Ending)(w':World):Prop:=∃c,e=.returned (.slice (some ⟨g,off,none⟩) l.length c)/\dP w' g off c N l/\SD (fun b=>b=g) w w'
set_option maxHeartbeats 400000 in
theorem Wx (g off c N:Nat)(l:List zO)(n i:Nat)(w:World)(hn:l.length=n)(hi:i<n)(da:n<=1000)(h:dP w g off c N l):
  Calls Tryz.prog 63 #[.slice (some ⟨g,off,none⟩) n c,.int .i64 i,.int .i64 ((i:Int)+1)] w (myCut g off N w (l.eraseIdx i)):=by
 have cf:n<=c:=by have:=h.len;omega
 have ua:((i:Int) ==(i:Int)+1)=false:=by simp;omega
 obtain⟨⟨cur,t0,hg,hN,zc,hc3⟩,_⟩:=h.take (k:=i) (by omega);have gq:(l.take i).length=i:=by rw[yz];omega
 have ug:(l.drop (i+1)).length=n-(i+1):=by rw[yJ,hn]
 have hd:=h.drop (k:=i+1) (by omega);obtain⟨to,hto⟩:∃to:Nat,to=(if c=i+1 then off else off+(i+1)*13):=⟨_,rfl⟩;rw[<- hto]at hd;have htA:(if c=i+1 then some (⟨g,off,none⟩:Addr)else(some (⟨g,off,none⟩:Addr)).map (·.add ((i+1)*13)))=some ⟨g,to,none⟩:=by
  rw[hto];split<;>simp[Addr.add_lit]
 have rg:=myhi (some ⟨g,off,none⟩) n c i (by omega);have ro:=Qw (some ⟨g,off,none⟩) n c (i+1) (by omega);rw[htA]at ro;simp only[Int.natCast_add,Int.cast_ofNat_Int]at ro;obtain⟨inf,rf,fc,ze,ij⟩:=info_parts myi;have hr:=fun ty=>rL (P:=Tryz.prog) w.drew 66 ty 50 inf 13 Lf rf ze g off i c cur _ hg ⟨g,to,none⟩ (n-(i+1)) (c-(i+1)) (RJ (l.drop (i+1))) (by rw[cG,ug]) (fun j u hu=>by rw[Addr.add_lit];exact hd.cells j u hu) (BY _) (by omega) (by rw[cG,ug];omega)
 have hE:=dP.app (w:=w.drew) (c:=c) (off:=off) (l:=l.take i) (r:=l.drop (i+1)) hg (by omega) hc3 (by rw[gq,ug];omega);rw[gq,hN]at hE;obtain⟨w1,bi⟩:∃w1,w1=w.drew.setRow g (cur.toList.take (off+i*13)++RJ (l.drop (i+1))++cur.toList.drop (off+i*13+(RJ (l.drop (i+1))).length)).toArray:=⟨_,rfl⟩;have tc:SD (fun b=>b=g) w w1:=by rw[bi];exact((SD.refl (fun b=>b=g) w).drew).setRow (fun _=>rfl) _
 rw[<- bi]at hE;simp only[<- bi]at hr;clear bi hto hd hg hN zc hc3 htA;have HE:=KN hE;have HK:=KN tc;have HT:=KN gq;have HD:=KN ug;have HN:=KN hn;clear h hE tc gq ug hn
 go_enter Tryz.func63,Tryz.ntmps63
 go_wp2_with fail
 go_region_held3 (fun _=>True) (trivial) (refine bW rfl _ _ _ _ rfl _ _ rfl rfl (hr _) ?_)
 have tc:i+(n-(i+1))+1=n:=by omega
 have ec:(l.take i++l.drop (i+1)).length=i+(n-(i+1)):=by rw[yj,HT.out,HD.out]
 have fb:l.eraseIdx i=l.take i++l.drop (i+1):=List.eraseIdx_eq_take_drop_succ l i;generalize i+(n-(i+1))=k at *
 generalize l.take i++l.drop (i+1)=l' at *
 subst ec;have ut:=mylh (some ⟨g,off,none⟩) l'.length c l'.length n (by omega) (by omega);rw[if_neg (by omega),yB,Addr.add_lit]at ut;obtain⟨w2,hclr,oo,jv⟩:=HE.out.clear 0 (n-l'.length) (c-l'.length) (by omega);have HO2:=KN oo;have HEL:=KN fb;clear oo fb rg ro hr HE HT HD HN
 go_wp2_with fail
 go_ret
 rw[HEL.out];exact⟨c,rfl,HO2.out,HK.out.trans jv (fun _ _ h=>h)⟩
end
section
open Go Go.RowKit
def Si (w:World)(v:Value)(l:List zO)(e:Ending)(w':World):Prop:=∃g c N,e=.returned (.slice (some ⟨g,0,none⟩) l.length c)/\dP w' g 0 c N l/\SD (fun b=>sR v=some b) w w'/\(w.heap.size<=g\/sR v=some g/\∃cur ty,w.heap[g]?=some (.cells cur ty (0,0))/\cur.size=N)
def JR (w:World)(vb vo:Nat)(x:zO):Prop:=∀(j:Nat)(u:Value),x.cells[j]?=some u->w.cell? ⟨vb,vo+j,none⟩=some u
theorem JR.congr {w w':World}{vb vo:Nat}{x:zO}(h:JR w vb vo x)(he:w'.heap[vb]?=w.heap[vb]?):JR w' vb vo x:=fun j u hu=>by
 have:=h j u hu;unfold World.cell? at this ⊢;simp only[he];exact this
theorem JR.first {w:World}{vb vo:Nat}{x:zO}(h:JR w vb vo x):∃u,w.cell? ⟨vb,vo,none⟩=some u:=by
 have hl:=x.len;obtain⟨u,hu⟩:∃u,x.cells[0]?=some u:=⟨_,yf (by omega)⟩;exact⟨u,h 0 u hu⟩
theorem JR.lt {w:World}{vb vo:Nat}{x:zO}(h:JR w vb vo x):vb<w.heap.size:=by
 obtain⟨u,hu⟩:=h.first;obtain⟨c,ty,fz,hc,_⟩:=IQ hu;exact sD hc
theorem myapp1 (w:World)(ty:TypeId)(v:Value)(l:List zO)(x:zO)(vb vo mc:Nat)(h:myO w v l)(hx:JR w vb vo x)(da:l.length<=900):
  ∃v' w',(Builtin.append_ #[66,66] ty #[v,.slice (some ⟨vb,vo,none⟩) 1 mc]).run Tryz.prog w=.ok v' w'/\Si w v (l++[x]) (.returned v') w':=by
 obtain⟨inf,rf,fc,ze,ij⟩:=info_parts myi;have zb:∀j u,(RJ [x])[j]?=some u->w.cell? ((⟨vb,vo,none⟩:Addr).add j)=some u:=fun j u hu=>by
  rw[Addr.add_lit];exact hx j u (by simpa [RJ]using hu)
 rcases h with⟨rfl,rfl⟩|⟨g,c,N,rfl,hE⟩
 ·obtain⟨cap,sa,g1,g2,g3,g4,hr⟩:=fI (P:=Tryz.prog) w 66 ty 50 inf _ 13 160 Lf rf fc ze ij rfl none 0 0 [] rfl (fun h0=>absurd h0 (by omega)) (fun _=>⟨rfl,rfl⟩) ⟨vb,vo,none⟩ 1 mc (RJ [x]) (cG _) zb (by omega) (yl _) (by omega) (by omega);refine⟨_,_,hr,w.heap.size,cap,sa.size,rfl,⟨⟨sa,_,heap_alloc_new w.drew _,rfl,by omega,?_⟩,g1⟩,SD.of_below (HS ((Below.refl _ _).alloc (yl _) _)) _,.inl (yl _)⟩;rw[Y05];exact g4
 ·have hc:=hE.len;by_cases ga:l.length + 1<=c
  ·obtain⟨⟨cur,t0,h1,hN,h2,h3⟩,h4⟩:=hE;have hr:=rL (P:=Tryz.prog) w 66 ty 50 inf 13 Lf rf ze g 0 l.length c cur _ h1 ⟨vb,vo,none⟩ 1 mc (RJ [x]) (cG _) zb (BY _) ga (by rw[cG];simp;omega);have hE:=dP.app (c:=c) (off:=0) (l:=l) (r:=[x]) h1 (by omega) h3 ga;rw[hN]at hE;exact⟨_,_,hr,g,c,N,by rw[yj];rfl,hE,(SD.refl (fun b=>sR (.slice (some ⟨g,0,none⟩) l.length c)=some b) w).setRow (fun _=>rfl) _,.inr ⟨rfl,cur,t0,h1,hN⟩⟩
  ·obtain⟨cap,sa,g1,g2,g3,g4,hr⟩:=fI (P:=Tryz.prog) w 66 ty 50 inf _ 13 160 Lf rf fc ze ij rfl (some ⟨g,0,none⟩) l.length c (RJ l) (cG l) (fun h0=>⟨_,rfl,fun j u hu=>by rw[Addr.add_lit];exact hE.cells j u hu⟩) (fun hA=>nomatch hA) ⟨vb,vo,none⟩ 1 mc (RJ [x]) (cG _) zb (by omega) hc (by omega) (by omega);refine⟨_,_,hr,w.heap.size,cap,sa.size,by rw[yj];rfl,⟨⟨sa,_,heap_alloc_new w.drew _,rfl,by omega,?_⟩,by rw[yj];exact g1⟩,SD.of_below (HS ((Below.refl _ _).alloc (yl _) _)) _,.inl (yl _)⟩;rw[Y05,yj,kO];exact g4
theorem myO.shape {w:World}{v:Value}{l:List zO}(h:myO w v l):∃A c,v=.slice A l.length c/\l.length<=c/\(A=none->c=0):=by
 rcases h with⟨rfl,rfl⟩|⟨g,c,N,rfl,h⟩
 ·exact⟨none,0,rfl,yl _,fun _=>rfl⟩
 ·exact⟨_,c,rfl,h.len,fun h=>by cases h⟩
set_option maxHeartbeats 1000000 in
theorem Rx (A:Option Addr)(n c vb vo mc:Nat)(w:World)(hc:n<=c)(da:n<=900){v':Value}{w':World}(hr:(Builtin.append_ #[66,66] 66 #[.slice A n c,.slice (some ⟨vb,vo,none⟩) 1 mc]).run Tryz.prog w=.ok v' w'):
  Calls Tryz.prog 62 #[.slice A n c,.int .i64 n,.slice (some ⟨vb,vo,none⟩) 1 mc] w fun e w2=>e=.returned v'/\w2=w':=by
 have rg:=Qw A n c n (yl _);generalize hA1:(if c=n then A else A.map (·.add (n*13)))=A1 at rg;clear hA1
 go_enter Tryz.func62,Tryz.ntmps62
 go_wp2_with (at_builtin;refine EL _ rfl _ _ _ _ rfl _ _ rfl rfl hr ?_)
 go_ret
 exact⟨rfl,rfl⟩
theorem myend (v:Value)(l:List zO)(x:zO)(n vb vo mc:Nat)(w:World)(hn:l.length=n)(h:myO w v l)(hx:JR w vb vo x)(da:n<=900):
  Calls Tryz.prog 62 #[v,.int .i64 n,.slice (some ⟨vb,vo,none⟩) 1 mc] w (Si w v (l++[x])):=by
 obtain⟨v',w',hr,h1⟩:=myapp1 w 66 v l x vb vo mc h hx (by omega);obtain⟨A,c,hv,hc,wm⟩:=h.shape;rw[hn]at hv hc;subst hv;refine(Rx A n c vb vo mc w hc da hr).mono ?_;rintro e w2 ⟨rfl,rfl⟩;exact h1
theorem myend0 (A:Option Addr)(x:zO)(vb vo mc:Nat)(w:World)(hx:JR w vb vo x):
  Calls Tryz.prog 62 #[.slice A 0 0,.int .i64 0,.slice (some ⟨vb,vo,none⟩) 1 mc] w fun e w'=>∃g c N,e=.returned (.slice (some ⟨g,0,none⟩) 1 c)/\dP w' g 0 c N [x]/\SD (fun _=>False) w w'/\w.heap.size<=g:=by
 obtain⟨inf,rf,fc,ze,ij⟩:=info_parts myi;have zb:∀j u,(RJ [x])[j]?=some u->w.cell? ((⟨vb,vo,none⟩:Addr).add j)=some u:=fun j u hu=>by
  rw[Addr.add_lit];exact hx j u (by simpa [RJ]using hu)
 obtain⟨cap,sa,g1,g2,g3,g4,hr⟩:=fI (P:=Tryz.prog) w 66 66 50 inf _ 13 160 Lf rf fc ze ij rfl A 0 0 [] rfl (fun h0=>absurd h0 (by omega)) (fun _=>⟨rfl,rfl⟩) ⟨vb,vo,none⟩ 1 mc (RJ [x]) (cG _) zb (by omega) (yl _) (by omega) (by omega);refine(Rx A 0 0 vb vo mc w (yl _) (by omega) hr).mono ?_;rintro e w2 ⟨rfl,rfl⟩;refine⟨w.heap.size,cap,sa.size,rfl,⟨⟨sa,_,heap_alloc_new w.drew _,rfl,by omega,?_⟩,g1⟩,SD.of_below (HS ((Below.refl _ _).alloc (yl _) _)) _,yl _⟩;rw[Y05];exact g4
set_option maxHeartbeats 1000000 in
theorem myshift (g c N vb vo mc:Nat)(l:List zO)(x:zO)(n i:Nat)(w:World)(hn:l.length=n)(hi:i<n)(da:n<=1000)(h:dP w g 0 c N l)(ga:n+1<=c)(hx:JR w vb vo x)(ua:vb≠g):
  Calls Tryz.prog 62 #[.slice (some ⟨g,0,none⟩) n c,.int .i64 i,.slice (some ⟨vb,vo,none⟩) 1 mc] w fun e w'=>e=.returned (.slice (some ⟨g,0,none⟩) (n+1) c)/\dP w' g 0 c N (l.take i++x::l.drop i)/\SD (fun b=>b=g) w w':=by
 have fv:=h.lt;have tl:=h.drop (k:=i) (by omega);obtain⟨L,t0,rq,hLN,hL2,hL3⟩:=h.list;obtain⟨u0,hu0⟩:=hx.first;have hov:∀lb cb,(callFunc 91 #[.slice (some ⟨vb,vo,none⟩) 1 mc,.slice (some ⟨g,(i+1)*13,none⟩) lb cb]).run Tryz.prog w=.ok (.value (.bool false)) w:=fun lb cb=>by
  rw[run_callFunc_extern (P:=Tryz.prog) (e:=Extern.SlicesOverlaps.overlaps #[66,66] #[4]) Tryz.func91 (by kernel_rfl) (by kernel_rfl) (by kernel_rfl) (by kernel_rfl),
   RS w 66 4 50 Lf 13 mysiz ⟨vb,vo,none⟩ ⟨g,(i+1)*13,none⟩ 1 mc lb cb ua u0 hu0 L.toArray t0 rq (by rw[yY];omega)]
  rfl
 have ij:¬((i:Int)=(n:Int)):=by omega
 have mixed:Tryz.prog.follows .mixedOrders=true:=by kernel_rfl
 have ug:(l.drop i).length=n-i:=by rw[yJ,hn]
 have bi:IntKind.i64.wrap ((i:Int)+1)=(i:Int)+1:=IntWalk.i64_in _ (by omega);have fq:IntKind.i64.wrap ((n:Int)+1)=(n:Int)+1:=IntWalk.i64_in _ (by omega);have hA:∀k,k<c->(if c=k then some (⟨g,0,none⟩:Addr)else(some (⟨g,0,none⟩:Addr)).map (·.add (k*13)))=some ⟨g,k*13,none⟩:=fun k hk=>by rw[if_neg (by omega)];simp[Addr.add_lit]
 have rg:=Qw (some ⟨g,0,none⟩) n c i (by omega);have ro:=myhi (some ⟨g,0,none⟩) n c (n+1) (by omega);have ut:=Qw (some ⟨g,0,none⟩) (n+1) c (i+1) (by omega);have hs4:=Qw (some ⟨g,0,none⟩) (n+1) c i (by omega);rw[hA i (by omega)]at rg hs4;rw[hA (i+1) (by omega)]at ut;rw[Nat.add_sub_add_right]at ut;simp only[Int.natCast_add,Int.cast_ofNat_Int]at ro ut;have ki:∀ty dc sc,(Builtin.copy_ #[66,66] ty #[.slice (some ⟨g,(i+1)*13,none⟩) (n-i) dc,.slice (some ⟨g,i*13,none⟩) (n+1-i) sc]).run Tryz.prog w.drew=.ok (goInt (Nat.min (n+1-i) (n-i):Nat)) (w.drew.setRow g (lay L ((i+1)*13) (RJ (l.drop i))).toArray):=fun ty dc sc =>
  j6 w.drew ty t0 g ((i+1)*13) (n-i) dc ⟨g,i*13,none⟩ (n+1-i) sc L (RJ (l.drop i)) rq (by rw[cG,ug];congr 1;simp only[Nat.min_def];split<;>omega)
   (fun j v hj=>by
    have:=h.cells (i*13+j) v (by rw[<- lO,yI]at hj;exact hj);rw[Addr.add_lit]
    rwa [yy]at this) (by rw[cG,ug];omega) (BY _)
 have bq:=x.len;have h1l:(i+1)*13+(RJ (l.drop i)).length<=L.length:=by rw[cG,ug];omega
 obtain⟨L1,nf⟩:∃L1,L1=lay L ((i+1)*13) (RJ (l.drop i)):=⟨_,rfl⟩;have hL1l:L1.length=L.length:=by rw[nf];exact UK h1l
 rw[<- nf]at ki;obtain⟨W1,tk⟩:∃W1,W1=w.drew.setRow g L1.toArray:=⟨_,rfl⟩;have bh:W1.heap[g]?=some (.cells L1.toArray t0 (0,0)):=by rw[tk];exact setRow_heap w.drew g _ _ _ _ rq
 have su:JR W1 vb vo x:=hx.congr (by rw[tk,setRow_other _ _ _ _ ua];rfl);have tc:SD (fun b=>b=g) w W1:=by rw[tk];exact((SD.refl (fun b=>b=g) w).drew).setRow (fun _=>rfl) _
 have jn:∀ty dc,(Builtin.copy_ #[66,66] ty #[.slice (some ⟨g,i*13,none⟩) (n+1-i) dc,.slice (some ⟨vb,vo,none⟩) 1 mc]).run Tryz.prog W1=.ok (goInt (Nat.min 1 (n+1-i):Nat)) (W1.setRow g (lay L1 (i*13) x.cells).toArray):=fun ty dc =>
  j6 W1 ty t0 g (i*13) (n+1-i) dc ⟨vb,vo,none⟩ 1 mc L1 x.cells bh (by rw[bq];simp only[Nat.min_def];split<;>omega) (fun j v hj=>by rw[Addr.add_lit];exact su j v hj) (by omega) x.one
 rw[<- tk]at ki;have hE:dP (W1.setRow g (lay L1 (i*13) x.cells).toArray) g 0 c L.length (l.take i++x::l.drop i):=dP.ins (c:=c) (off:=0) (l:=l) (i:=i) (L:=L) (by omega) hL2 hL3 (by omega) (by rw[yy,yy,<- nf];exact setRow_heap W1 g _ _ _ _ bh);rw[hLN]at hE;have HE:=KN hE;have HK:=KN tc;clear hE tc h rq hL2 hL3 hLN bh su tk nf hx tl hu0
 go_enter Tryz.func62,Tryz.ntmps62
 go_wp2_with (simp only[hov])
 go_region_law_o (refine mM rfl _ _ 66 66 rfl _ _ (by simp[Act.eval,Act.put]) (by simp[Act.eval,Act.put]) (ki _ _ _) ?_)
 go_wp2_with (at_builtin;refine AK _ rfl _ _ 66 66 rfl _ _ rfl rfl (jn _ _) ?_)
 go_ret
 exact⟨rfl,HE.out,HK.out.setRow (fun _=>rfl) _⟩
theorem myu3:Tryz.prog.underlying 3=some (.int .i64):=by kernel_rfl
set_option maxHeartbeats 1000000 in
theorem mygrow (g c N vb vo mc:Nat)(l:List zO)(x:zO)(n i:Nat)(w:World)(hn:l.length=n)(hi:i<n)(da:n<=900)(h:dP w g 0 c N l)(ga:¬n+1<=c)(hx:JR w vb vo x):
  Calls Tryz.prog 62 #[.slice (some ⟨g,0,none⟩) n c,.int .i64 i,.slice (some ⟨vb,vo,none⟩) 1 mc] w (Si w (.slice (some ⟨g,0,none⟩) n c) (l.take i++x::l.drop i)):=by
 have cf:n<=c:=by have:=h.len;omega
 have fv:=h.lt;have hvl:=hx.lt;obtain⟨inf,rf,fc,ze,ij⟩:=info_parts myi;have hz2':¬((i:Int)=(n:Int)):=by omega
 have mixed:Tryz.prog.follows .mixedOrders=true:=by kernel_rfl
 have ug:(l.drop i).length=n-i:=by rw[yJ,hn]
 have gq:(l.take i).length=i:=by rw[yz];omega
 have bi:IntKind.i64.wrap ((i:Int)+1)=(i:Int)+1:=IntWalk.i64_in _ (by omega);have fq:IntKind.i64.wrap ((n:Int)+1)=(n:Int)+1:=IntWalk.i64_in _ (by omega);have hw3:IntKind.i64.wrap ((n:Int)+1-(i:Int))=((n+1-i:Nat):Int):=by rw[IntWalk.i64_in _ (by omega)];omega
 have rg:=Qw (some ⟨g,0,none⟩) n c i (by omega);rw[if_neg (by omega),yB,Addr.add_lit,yy]at rg;have ro:=myhi (some ⟨g,0,none⟩) n c i (by omega);have tl:=h.take (k:=i) (by omega);have hfo:=run_firstCells_some (P:=Tryz.prog) w.drew inf.size i ⟨g,0,none⟩ i c (RJ (l.take i)) (by rw[cG,gq,ze]) (fun j u hu=>by rw[Addr.add_lit];exact tl.cells j u hu);have h48:Builtin.nextslicecap (i+(n+1-i)) c*inf.bytes<=281474976710656:=by
  have h1:Builtin.nextslicecap (i+(n+1-i)) c<=2*(i+(n+1-i)):=nextslicecap_le (by omega);rw[ij];omega
 have bv:=fun ty=>Lib.run_append_grow_zeros (P:=Tryz.prog) w 66 3 ty 50 inf _ .i64 .i64 Lf myu3 rf fc (some ⟨g,0,none⟩) i c (RJ (l.take i)) hfo (n+1-i) (by omega) (by omega) (by omega) (by omega) (by rw[ij];omega) h48
 have e1:i+(n+1-i)=n+1:=by omega
 rw[e1]at bv h48;have hcg:=grownCap_ge w (n+1) c 50;have wk:=grownCap_le_maxLen w (n+1) c 50 (by have:maxLen=9223372036854775807:=rfl;omega);generalize grownCap w (n+1) c 50=cap at bv hcg wk;obtain⟨L,hL⟩:∃L:List Value,((RJ (l.take i)).toArray++Builtin.zeroCells myZ.cells (n+1-i)++Builtin.zeroCells myZ.cells (cap-(n+1)))=L.toArray:=⟨_,rfl⟩;have hLl:L.length=cap*13:=by
  have:=congrArg Array.size hL;simp only[Array.size_append,size_zeroCells,yY,cG,gq]at this;have h5:myZ.cells.size=13:=rfl;rw[h5]at this;omega
 have hLc:∀j,j<i*13->L[j]?=(RJ l)[j]?:=fun j hj=>by
  have h1:L[j]?=(L.toArray)[j]?:=by simp
  rw[h1,<- hL,Array.append_assoc,Array.getElem?_append_left (by simp[cG,gq];omega)];simp only[List.getElem?_toArray];rw[<- bS,yK,if_pos hj]
 rw[hL]at bv;clear hL;have bq:=x.len;have hsG:∀k,k<cap->∀W,(Instr.slice 66 (.slice (some ⟨w.heap.size,0,none⟩) (n+1) cap) (some (.int .i64 (k:Int))) none none).run Tryz.prog W=(if k<=n+1 then .ok (.slice (some ⟨w.heap.size,k*13,none⟩) (n+1-k) (cap-k)) W else(Instr.slice 66 (.slice (some ⟨w.heap.size,0,none⟩) (n+1) cap) (some (.int .i64 (k:Int))) none none).run Tryz.prog W):=fun k hk W=>by
  split
  ·rename_i h;have:=Qw (some ⟨w.heap.size,0,none⟩) (n+1) cap k h W;rw[if_neg (by omega),yB,Addr.add_lit,yy]at this;exact this
  ·rfl
 have ut:=fun W=>(hsG i (by omega) W).trans (by rw[if_pos (by omega)])
 have hs4:=fun W=>(hsG (i+1) (by omega) W).trans (by rw[if_pos (by omega)])
 simp only[Nat.add_sub_add_right,Int.natCast_add,Int.cast_ofNat_Int]at hs4;clear hsG;obtain⟨W0,uy⟩:∃W0,W0=w.drew.alloc (.cells L.toArray 50):=⟨_,rfl⟩;have tq:W0.heap[w.heap.size]?=some (.cells L.toArray 50 (0,0)):=by rw[uy];exact heap_alloc_new w.drew _
 have df:Below w.heap.size w W0:=by rw[uy];exact HS ((Below.refl _ _).alloc (yl _) _)
 rw[<- uy]at bv;have ru:JR W0 vb vo x:=hx.congr (df.block vb hvl);have ki:∀ty dc,(Builtin.copy_ #[66,66] ty #[.slice (some ⟨w.heap.size,i*13,none⟩) (n+1-i) dc,.slice (some ⟨vb,vo,none⟩) 1 mc]).run Tryz.prog W0=.ok (goInt (Nat.min 1 (n+1-i):Nat)) (W0.setRow w.heap.size (lay L (i*13) x.cells).toArray):=fun ty dc =>
  j6 W0 ty _ w.heap.size (i*13) (n+1-i) dc ⟨vb,vo,none⟩ 1 mc L x.cells tq (by rw[bq];simp only[Nat.min_def];split<;>omega) (fun j v hj=>by rw[Addr.add_lit];exact ru j v hj) (by omega) x.one
 have h1l:i*13+x.cells.length<=L.length:=by omega
 obtain⟨L1,nf⟩:∃L1,L1=lay L (i*13) x.cells:=⟨_,rfl⟩;have hL1l:L1.length=L.length:=by rw[nf];exact UK h1l
 obtain⟨W1,tk⟩:∃W1,W1=W0.setRow w.heap.size L1.toArray:=⟨_,rfl⟩;rw[<- nf,<- tk]at ki;have bh:W1.heap[w.heap.size]?=some (.cells L1.toArray 50 (0,0)):=by rw[tk];exact setRow_heap W0 w.heap.size _ _ _ _ tq
 have tc:Below w.heap.size w W1:=by rw[tk];exact df.trans ⟨rfl,rfl,rfl,by simp,fun k hk=>setRow_other W0 w.heap.size k _ (by omega)⟩
 have hE1:=(h.drop (k:=i) (by omega)).keep (SD.of_below tc (fun _=>False)) (fun h=>h);rw[if_neg (by omega),yy]at hE1;have jn:∀ty dc sc,(Builtin.copy_ #[66,66] ty #[.slice (some ⟨w.heap.size,(i+1)*13,none⟩) (n-i) dc,.slice (some ⟨g,i*13,none⟩) (n-i) sc]).run Tryz.prog W1.drew=.ok (goInt (Nat.min (n-i) (n-i):Nat)) (W1.drew.setRow w.heap.size (lay L1 ((i+1)*13) (RJ (l.drop i))).toArray):=fun ty dc sc =>
  j6 W1.drew ty _ w.heap.size ((i+1)*13) (n-i) dc ⟨g,i*13,none⟩ (n-i) sc L1 (RJ (l.drop i)) bh (by rw[cG,ug];congr 1;simp only[Nat.min_def];split<;>omega)
   (fun j v hj=>by rw[Addr.add_lit];exact hE1.cells j v hj) (by rw[cG,ug];omega) (BY _)
 obtain⟨W2,wy⟩:∃W2,W2=W1.drew.setRow w.heap.size (lay L1 ((i+1)*13) (RJ (l.drop i))).toArray:=⟨_,rfl⟩;have hE:dP W2 w.heap.size 0 cap L.length (l.take i++x::l.drop i):=dP.ins2 (c:=cap) (l:=l) (i:=i) (L:=L) (by omega) (by omega) hLc (by omega) (by rw[wy,<- nf];exact setRow_heap W1.drew w.heap.size _ _ _ _ bh);have jv:Below w.heap.size w W2:=by rw[wy];exact tc.trans ⟨rfl,rfl,rfl,by simp,fun k hk=>setRow_other W1.drew w.heap.size k _ (by have:=tc.size;omega)⟩
 rw[<- wy]at jn;have ub:(l.take i++x::l.drop i).length=n+1:=by simp;omega
 have HE:=KN hE;have HK:=KN jv;have HL:=KN ub;clear hE jv tc df hE1 h tl hfo tq ru bh uy tk wy nf hx ub hLc
 go_enter Tryz.func62,Tryz.ntmps62
 go_wp2_with (first|(at_builtin;refine EL _ rfl _ _ _ _ rfl _ _ rfl rfl (bv _) ?_)|(at_builtin;refine AK _ rfl _ _ 66 66 rfl _ _ rfl rfl (ki _ _) ?_))
 go_region_law_o (refine mM rfl _ _ 66 66 rfl _ _ (by simp[Act.eval,Act.put]) (by simp[Act.eval,Act.put]) (jn _ _ _) ?_)
 go_wp2_with fail
 go_ret
 exact⟨w.heap.size,cap,_,congrArg (fun k=>Ending.returned (Value.slice (some ⟨w.heap.size,0,none⟩) k cap)) HL.out.symm,HE.out,SD.of_below HK.out _,.inl (yl _)⟩
theorem Ox (v:Value)(l:List zO)(x:zO)(i vb vo mc:Nat)(w:World)(hi:i<=l.length)(h:myO w v l)(hx:JR w vb vo x)(ua:sR v≠some vb)(da:l.length<=900):
  Calls Tryz.prog 62 #[v,.int .i64 i,.slice (some ⟨vb,vo,none⟩) 1 mc] w (Si w v (l.take i++x::l.drop i)):=by
 by_cases hn:i=l.length
 ·have:=myend v l x l.length vb vo mc w rfl h hx da;rw[hn,List.take_length,List.drop_length];exact this
 ·rcases h with ⟨rfl,rfl⟩ | ⟨g,c,N,rfl,hE⟩
  ·exact absurd (Nat.le_zero.1 hi) hn
  ·by_cases ga:l.length + 1<=c
   ·obtain⟨⟨cur,ty,h1,h2,_⟩,_⟩:=id hE;refine(myshift g c N vb vo mc l x l.length i w rfl (by omega) (by omega) hE ga hx (fun h=>ua (by rw[h];rfl))).mono ?_;rintro e w' ⟨rfl,h3,h4⟩;refine⟨g,c,N,?_,h3,h4.mono fun i _ h=>by subst h;rfl,.inr ⟨rfl,cur,ty,h1,h2⟩⟩;congr 2;simp;omega
   ·exact mygrow g c N vb vo mc l x l.length i w rfl (by omega) da hE ga hx
end
section
open Go Go.RowKit
variable {w w':World}
theorem SP {av:Av}:∀{xs:List AV}{us:List Value}(k:Nat),eE av w xs us->eE av w (xs.take k) (us.take k)
 | [],_,_,h=>by simp only[eE]at h;subst h;simp[eE]
 |x::r,_,0,h=>by simp[eE]
 |x::r,_,k+1,h=>by
  simp only[eE]at h;obtain⟨u,gb,rfl,h0,h1,h⟩:=h;exact⟨u,gb.take k,rfl,h0,h1,SP k h⟩
theorem PP {av:Av}:∀{xs:List AV}{us:List Value}(k:Nat),eE av w xs us->eE av w (xs.drop k) (us.drop k)
 | [],_,_,h=>by simp only[eE]at h;subst h;simp[eE]
 |x::r,_,0,h=>h
 |x::r,_,k+1,h=>by
  simp only[eE]at h;obtain⟨u,gb,rfl,h0,h1,h⟩:=h;exact PP k h
theorem KJ {z:Nat}:∀{l:List (List AV)},kD z l=true->l.flatten.length=l.length*z
 | [],_=>by simp
 |c::l,h=>by
  rw[wH,yg,decide_eq_true_eq]at h;rw[yA,yj,KJ h.2,h.1,yG,yL];omega
theorem fO {z:Nat}:∀{l:List (List AV)}(k:Nat),kD z l=true->(l.take k).flatten=l.flatten.take (k*z)
 | [],k,_=>by simp
 |c::l,0,_=>by simp
 |c::l,k+1,h=>by
  rw[wH,yg,decide_eq_true_eq]at h;have e:(k+1)*z=c.length+k*z:=by rw[h.1,yL];omega
  rw[List.take_succ_cons,yA,yA,fO k h.2,e,List.take_length_add_append]
theorem dO {z:Nat}:∀{l:List (List AV)}(k:Nat),kD z l=true->(l.drop k).flatten=l.flatten.drop (k*z)
 | [],k,_=>by simp
 |c::l,0,_=>by simp
 |c::l,k+1,h=>by
  rw[wH,yg,decide_eq_true_eq]at h;have e:(k+1)*z=c.length+k*z:=by rw[h.1,yL];omega
  rw[List.drop_succ_cons,yA,dO k h.2,e,List.drop_length_add_append]
theorem pQ {av:Av}{g0:Nat->Prop}{g:Nat}(hK:SD g0 w w')(ld:∀b,g0 b->∀o,av b o)(hg:w.heap.size<=g\/g0 g):QD av (fun b o=>av b o\/b=g) w w':=by
 refine⟨fun b o u hc hn=>?_⟩;have ba:b<w.heap.size:=by
  unfold World.cell? at hc;split at hc
  ·rename_i h;exact(Array.getElem?_eq_some_iff.1 h).1
  ·cases hc
 have hng:¬g0 b:=fun h=>hn (ld b h o)
 refine⟨?_,fun h=>?_⟩
 ·have:=hK.block b ba hng;unfold World.cell? at hc ⊢;simp only[this];exact hc
 ·rcases h with h | h
  ·exact hn h
  ·subst h;rcases hg with hg | hg
   ·omega
   ·exact hng hg
end
section
open Go Go.RowKit
theorem Mq {av:Av}{w:World}{v0:Value}{g0:Nat->Prop}{E:List zO}{l:List (List AV)}{x:List AV}{xe:zO}{k vb vo c:Nat}(hk:k<=E.length)(hO:myO w v0 E)(de:JR w vb vo xe)(hvb:¬av vb vo)(oc:eE av w x xe.cells)(hl:eE av w l.flatten (RJ E))(fb:kD 13 (x::l)=true)(da:l.length=E.length)(h9:l.length<=900)(hb:∀b,sR v0=some b->g0 b)(hg:∀b,g0 b->∀o,av b o):
  Calls Tryz.prog 62 #[v0,.int .i64 k,.slice (some ⟨vb,vo,none⟩) 1 c] w fun e w'=>∃v,e=.returned v/\I5 w g0 13 av w' (l.take k++x::l.drop k) v/\SD g0 w w':=by
 rw[wH,yg,decide_eq_true_eq]at fb;refine(Ox v0 E xe k vb vo c w hk hO de (fun h=>hvb (hg vb (hb vb h) vo)) (by omega)).mono ?_;rintro e w' ⟨g,c',N,rfl,⟨⟨sa,dj,e1,e2,e3,e4⟩,e5⟩,hK,ff⟩;have ud:SD g0 w w':=hK.mono (fun i _ h=>hb i h);have ub:(l.take k++x::l.drop k).length=(E.take k++xe::E.drop k).length:=by simp[da]
 have hz:kD 13 (l.take k++x::l.drop k)=true:=by rw[jL,wH,qM fb.2,sO fb.2,fb.1];rfl
 have held:=pQ ud hg (g:=g) (by rcases ff with h|⟨h,_⟩;exact .inl h;exact .inr (hb g h));refine⟨_,rfl,⟨g,c',sa,dj,by rw[ub],?_,e1,by rw[ub];exact e5,by omega,?_⟩,ud⟩
 ·rcases ff with h | ⟨h,cur,ty,h1,h2⟩
  ·exact .inl h
  ·exact .inr ⟨hb g h,cur,ty,h1,by omega⟩
 ·rw[Y05]at e4;rw[KJ hz,ub,e4,Y0l,yA,fO k fb.2,dO k fb.2,kO,gQ,<- bS,<- lO];exact eE.held held _ _ (fH (SP _ hl) (fH oc (PP _ hl)))
theorem Nq {av:Av}{w:World}{g0:Nat->Prop}{E:List zO}{l:List (List AV)}{k g c N:Nat}(hk:k<E.length)(hO:dP w g 0 c N E)(hl:eE av w l.flatten (RJ E))(fb:kD 13 l=true)(da:l.length=E.length)(h9:l.length<=900)(hb:∀b,g0 b↔b=g)(hg:∀o,av g o):
  Calls Tryz.prog 63 #[.slice (some ⟨g,0,none⟩) E.length c,.int .i64 k,.int .i64 ((k:Int)+1)] w fun e w'=>∃v,e=.returned v/\I5 w g0 13 av w' (l.take k++l.drop (k+1)) v/\SD g0 w w':=by
 obtain⟨⟨cur0,ky,c1,c2,_⟩,_⟩:=id hO;refine(Wx g 0 c N E E.length k w rfl hk (by omega) hO).mono ?_;rintro e w' ⟨c',rfl,⟨⟨sa,dj,e1,e2,e3,e4⟩,e5⟩,hK⟩;have ud:SD g0 w w':=hK.mono (fun i _ h=>(hb i).2 h);rw[List.eraseIdx_eq_take_drop_succ]at e4 e5 ⊢;have ub:(l.take k++l.drop (k+1)).length=(E.take k++E.drop (k+1)).length:=by simp[da]
 have hz:kD 13 (l.take k++l.drop (k+1))=true:=by rw[jL,qM fb,sO fb];rfl
 have held:=pQ ud (fun b h o=>by rw[(hb b).1 h];exact hg o) (g:=g) (.inr ((hb g).2 rfl));refine⟨_,rfl,⟨g,c',sa,dj,by rw[ub],.inr ⟨(hb g).2 rfl,cur0,ky,c1,by omega⟩,e1,by rw[ub];exact e5,by omega,?_⟩,ud⟩;rw[Y05]at e4;rw[KJ hz,ub,e4,Y0l,fO k fb,dO (k+1) fb,kO,<- bS,<- lO];exact eE.held held _ _ (fH (SP _ hl) (PP _ hl))
theorem Di {av:Av}{w:World}{b:Bool}{l:List (List AV)}{v0:Value}{g0:Nat->Prop}(hg:U5 13 av w b l v0 g0)(fb:kD 13 l=true)(h9:l.length<=900):
  (l=[]/\(∃A,v0=.slice A 0 0)/\∀g,¬g0 g)\/(b=false/\∃(E:List zO)(g c N:Nat),E.length=l.length/\v0=.slice (some ⟨g,0,none⟩) E.length c/\(∀b,g0 b↔b=g)/\(∀o,av g o)/\eE av w l.flatten (RJ E)/\dP w g 0 c N E):=by
 rcases hg with⟨h1,h2,_,h3⟩|⟨hb,g,c,cur,ty,hv,h0,hh,hc,hz,ld,hr⟩
 ·exact .inl ⟨h1,h2,h3⟩
 ·have ub:=QI hr;have hf:=KJ fb;obtain⟨E,hE,hC⟩:=Mz l.length (cur.toList.take l.flatten.length) (by rw[<- ub,hf]) (AP hr);refine .inr ⟨hb,E,g,c,cur.size,hE,by rw[hE];exact hv,h0,ld,by rw[hC];exact hr,⟨⟨cur,ty,hh,rfl,by omega,?_⟩,by rw[hE];exact hc⟩⟩;rw[Y05,hC,hE,hf]
theorem myins0 {av:Av}{w:World}{g0:Nat->Prop}{x:List AV}{xe:zO}{vb vo c:Nat}(A:Option Addr)(de:JR w vb vo xe)(oc:eE av w x xe.cells)(fb:kD 13 [x]=true)(hg:∀b,¬g0 b):
  Calls Tryz.prog 62 #[.slice A 0 0,.int .i64 0,.slice (some ⟨vb,vo,none⟩) 1 c] w fun e w'=>∃v,e=.returned v/\I5 w g0 13 av w' [x] v/\SD g0 w w':=by
 refine(myend0 A xe vb vo c w de).mono ?_;rintro e w' ⟨g,c',N,rfl,⟨⟨sa,dj,e1,e2,e3,e4⟩,e5⟩,hK,ff⟩;have ud:SD g0 w w':=hK.mono (fun i _ h=>h.elim);have held:=pQ (av:=av) ud (fun b h=>absurd h (hg b)) (g:=g) (.inl ff);refine⟨_,rfl,⟨g,c',sa,dj,rfl,.inl ff,e1,e5,by simp only[List.length_singleton]at e3 e5 ⊢;omega,?_⟩,ud⟩;rw[Y05]at e4;rw[KJ fb];have lu:sa.toList.take ([x].length*13)=RJ [xe]:=e4;rw[lu,List.flatten_singleton];have wq:RJ [xe]=xe.cells:=by simp[RJ]
 rw[wq];exact eE.held held _ _ oc
theorem Ux {O:XH}{b:Bool}{l:List (List AV)}{x:List AV}{i:Int}(h0:0<=i)(h1:i<=l.length)(h9:l.length<=900)(fb:kD 13 (x::l)=true):
  MD Tryz.prog O 62 [.undef,.sl b l,.int .i64 i,.sl false [x]] (some (.int .i64 13)) (.sl false (l.take i.toNat++x::l.drop i.toNat),none):=by
 unfold MD;refine(?_:cK _ _ _ _ _ _);refine⟨enters_of Tryz.func62 (by kernel_rfl) rfl,?_⟩;intro av w v0 vs g0 ld za hg;simp only[jJ]at za;obtain⟨u1,us1,rfl,ir,u2,us2,rfl,mq,rfl⟩:=za;rw[OD]at ir;subst ir;rw[FG]at mq;simp only[ZG]at mq;obtain⟨A,c,rfl,hc,_,_,hs⟩:=mq;obtain⟨vb,vo,rfl,ja⟩:=(hs trivial).2 (by simp);rw[XG]at ja;simp only[yA,List.flatten_nil,yF]at ja;obtain⟨xs,oc,bq⟩:=LL ja;have zq:=fb;rw[wH,yg,decide_eq_true_eq]at zq;have hxl:xs.length=13:=by rw[<- QI oc];exact zq.1
 have de:JR w vb vo ⟨xs,hxl,AP oc⟩:=fun j u hu=>(bq j u hu).1
 have hvb:¬av vb vo:=by
  have:=(bq 0 _ (yf (by omega))).2
  rwa [yV]at this
 have hi:i=(i.toNat:Int):=by omega
 rcases Di hg zq.2 h9 with⟨rfl,⟨A0,rfl⟩,lq⟩|⟨rfl,E,g,cg,N,hE,rfl,lq,gr,hr,hB⟩
 ·have pg:i=0:=by simp at h1; omega
  subst pg;exact myins0 A0 de oc fb lq
 ·have:=Mq (v0:=.slice (some ⟨g,0,none⟩) E.length cg) (g0:=g0) (E:=E) (k:=i.toNat) (c:=c) (by omega) (.inr ⟨g,cg,N,rfl,hB⟩) de hvb oc hr fb hE.symm h9 (fun b h=>by simp[sR]at h;exact(lq b).2 h.symm) (fun b h o=>by rw[(lq b).1 h];exact gr o);rw[<- hi]at this;exact this
theorem Qx {O:XH}{l:List (List AV)}{i:Int}(h0:0<=i)(h1:i+1<=l.length)(h9:l.length<=900)(fb:kD 13 l=true):
  MD Tryz.prog O 63 [.undef,.sl false l,.int .i64 i,.int .i64 (i+1)] (some (.int .i64 13)) (.sl false (l.take i.toNat++l.drop (i+1).toNat),none):=by
 unfold MD;refine(?_:cK _ _ _ _ _ _);refine⟨enters_of Tryz.func63 (by kernel_rfl) rfl,?_⟩;intro av w v0 vs g0 ld za hg;simp only[jJ]at za;obtain⟨u1,us1,rfl,ir,u2,us2,rfl,mq,rfl⟩:=za;rw[OD]at ir mq;subst ir;subst mq;have hi:i=(i.toNat:Int):=by omega
 rcases Di hg fb h9 with⟨rfl,_⟩|⟨_,E,g,cg,N,hE,rfl,lq,gr,hr,hB⟩
 ·simp at h1;omega
 ·have:=Nq (k:=i.toNat) (by omega) hB hr fb hE.symm h9 lq gr;rw[<- hi]at this;rw[show(i+1).toNat=i.toNat+1 from by omega];exact this
end
section
open Go Go.RowKit
structure TO where
 cells:List Value
 len:cells.length=2
 one:∀u∈cells,u.oneCell'=true
def TJ (l:List TO):List Value:=l.flatMap TO.cells
theorem bG (l:List TO):(TJ l).length=l.length*2:=by
 induction l with
 |nil=>rfl
 |cons q l ih=>simp only[TJ,Y0a,yj,yG,q.len]at ih ⊢;rw[ih];omega
theorem EO (l r:List TO):TJ (l++r)=TJ l++TJ r:=by simp[TJ]
theorem WQ (q:TO)(r:List TO):TJ (q::r)=q.cells++TJ r:=by simp[TJ]
theorem DS (l:List TO)(k:Nat):(TJ l).take (k*2)=TJ (l.take k):=by
 induction l generalizing k with
 |nil=>simp[TJ]
 |cons q l ih =>
  cases k with
  |zero=>simp[TJ]
  |succ k =>
   have h4:=q.len;rw[WQ,List.take_succ_cons,WQ,List.take_append,h4,show(k+1)*2-2=k*2 from by omega,ih,Y0b (by rw[h4];omega)]
theorem RO (l:List TO)(k:Nat):(TJ l).drop (k*2)=TJ (l.drop k):=by
 induction l generalizing k with
 |nil=>simp[TJ]
 |cons q l ih =>
  cases k with
  |zero=>simp[TJ]
  |succ k =>
   have h4:=q.len;rw[WQ,List.drop_succ_cons,List.drop_append,h4,show(k+1)*2-2=k*2 from by omega,ih,yw (by rw[h4];omega),Y00]
theorem eZ (l:List TO):∀u∈TJ l,u.oneCell'=true:=by
 intro u hu;simp only[TJ,yR]at hu;obtain⟨q,_,hq⟩:=hu;exact q.one u hq
theorem Qv:∀(n:Nat)(vs:List Value),vs.length=n*2->(∀u∈vs,u.oneCell'=true)->∃l:List TO,l.length=n/\TJ l=vs
 |0,vs,h,_=>⟨[],rfl,(Y04 (by omega)).symm⟩
 |n+1,vs,h,h1=>by
  obtain⟨l,hl,hc⟩:=Qv n (vs.drop 2) (by rw[yJ];omega) (fun u hu=>h1 u (List.mem_of_mem_drop hu));exact⟨⟨vs.take 2,by rw[yz];omega,fun u hu=>h1 u (Y0i hu)⟩::l,by simp[hl],by rw[WQ,hc];exact Y0c _ _⟩
def syZ:Value:=.agg #[.int .i64 0,.string ⟨#[]⟩]
theorem Zf:Tryz.prog.underlying 65=some (.slice 52):=by kernel_rfl
theorem syi:(Tryz.prog.info? 52).map (fun i=>(i.zero,i.size,i.bytes))=some (some syZ,2,24):=by kernel_rfl
theorem sysz:(Tryz.prog.info? 52).map (·.size)=some 2:=by kernel_rfl
theorem syzv (w:World):(zeroValue 52).run Tryz.prog w=.ok syZ w:=by kernel_rfl
theorem syhi (A:Option Addr)(n c k:Nat)(hk:k<=c)(w:World):(Instr.slice 65 (.slice A n c) none (some (.int .i64 k)) none).run Tryz.prog w=.ok (.slice A k c) w:=by
 obtain⟨i,hi,fc,ze,ij⟩:=info_parts syi;exact Qj w _ _ i Zf hi A n c k hk
theorem Lw (A:Option Addr)(n c k:Nat)(hk:k<=n)(w:World):(Instr.slice 65 (.slice A n c) (some (.int .i64 k)) none none).run Tryz.prog w=.ok (.slice (if c=k then A else A.map (·.add (k*2))) (n-k) (c-k)) w:=by
 obtain⟨i,hi,fc,ze,ij⟩:=info_parts syi;exact Ej w _ _ i 2 Zf hi ze A n c k hk
theorem sylh (A:Option Addr)(n c k h:Nat)(hk:k<=h)(hh:h<=c)(w:World):(Instr.slice 65 (.slice A n c) (some (.int .i64 k)) (some (.int .i64 h)) none).run Tryz.prog w=.ok (.slice (if c=k then A else A.map (·.add (k*2))) (h-k) (c-k)) w:=by
 obtain⟨i,hi,fc,ze,ij⟩:=info_parts syi;exact Wj w _ _ i 2 Zf hi ze A n c k h hk hh
theorem sysiz (w:World):(Go.sizeOf 52).run Tryz.prog w=.ok 2 w:=by kernel_rfl
structure lP (w:World)(g off c N:Nat)(l:List TO):Prop where
 blk:∃cur ty,w.heap[g]?=some (.cells cur ty (0,0))/\cur.size=N/\off+c*2<=N/\(cur.toList.drop off).take (l.length*2)=TJ l
 len:l.length<=c
def syO (w:World)(v:Value)(l:List TO):Prop:=(v=.slice none 0 0/\l=[])\/∃g c N,v=.slice (some ⟨g,0,none⟩) l.length c/\lP w g 0 c N l
section
variable {w w':World} {g off c N:Nat} {l:List TO} {v:Value}
theorem lP.keep {F:Nat->Prop}(h:lP w g off c N l)(hk:SD F w w')(hF:¬F g):lP w' g off c N l:=by
 obtain⟨⟨cur,ty,h1,h2,h3⟩,h4⟩:=h;exact⟨⟨cur,ty,(hk.block g (sD h1) hF).trans h1,h2,h3⟩,h4⟩
theorem lP.lt (h:lP w g off c N l):g<w.heap.size:=by obtain⟨⟨cur,ty,h1,_⟩,_⟩:=h;exact sD h1
theorem lP.cells (h:lP w g off c N l)(j:Nat)(u:Value)(hu:(TJ l)[j]?=some u):w.cell? ⟨g,off+j,none⟩=some u:=by
 obtain⟨⟨cur,ty,h1,h2,tg,h3⟩,h4⟩:=h;rw[cell_of_row w g (off+j) cur _ (0,0) h1];rw[<- h3,yK]at hu;split at hu
 ·rw[yI]at hu;simpa using hu
 ·cases hu
theorem lP.drop (h:lP w g off c N l){k:Nat}(hk:k<=l.length):lP w g (if c=k then off else off+k*2) (c-k) N (l.drop k):=by
 obtain⟨⟨cur,ty,h1,h2,tg,h3⟩,h4⟩:=h;have h6:=RO l k;refine⟨⟨cur,ty,h1,h2,?_,?_⟩,by rw[yJ];omega⟩
 ·split<;>omega
 ·rw [yJ,<- h6,<- h3];split
  ·rename_i e;have:l.length=k:=by omega
   rw[this,Nat.sub_self,Nat.zero_mul,List.take_zero,yw (by rw[yz];omega)]
  ·rw[<- List.drop_drop,List.drop_take,Nat.sub_mul]
theorem lP.take (h:lP w g off c N l){k:Nat}(hk:k<=l.length):lP w g off c N (l.take k):=by
 obtain⟨⟨cur,ty,h1,h2,tg,h3⟩,h4⟩:=h;refine⟨⟨cur,ty,h1,h2,tg,?_⟩,by rw[yz];omega⟩;rw[<- DS,<- h3,List.take_take,yz,Nat.min_eq_left hk,Nat.min_eq_left (by omega)]
end
theorem lP.app {w:World}{g off c:Nat}{l r:List TO}{cur:Array Value}{ty:TypeId}(hg:w.heap[g]?=some (.cells cur ty (0,0)))(h2:off+c*2<=cur.size)(h3:(cur.toList.drop off).take (l.length*2)=TJ l)(ga:l.length+r.length<=c):
  lP (w.setRow g (cur.toList.take (off+l.length*2)++TJ r++cur.toList.drop (off+l.length*2+(TJ r).length)).toArray) g off c cur.size (l++r):=by
 have hr:=bG r;have ol:cur.toList.length=cur.size:=by simp
 refine⟨⟨_,_,setRow_heap w g cur _ _ _ hg,?_,h2,?_⟩,by rw[yj];exact ga⟩
 ·simp only[yY,yj,yz,yJ,Y02,hr];omega
 ·have ht:(cur.toList.take (off + l.length * 2)).length=off + l.length * 2:=by rw [yz]; omega
  have e1:(cur.toList.take (off+l.length*2)).drop off=TJ l:=by rw[List.drop_take,Y0g,h3]
  simp only;rw[yx,List.drop_append_of_le_length (by omega),e1,EO,yj,yL,<- bG l,<- hr,<- yx,<- yj];exact List.take_left
theorem lP.clear {w:World}{g off c N:Nat}{l:List TO}(h:lP w g off c N l)(ty:TypeId)(n m:Nat)(hn:l.length+n<=c):
  ∃w',(Builtin.clear_ #[65] ty #[.slice (some ⟨g,off+l.length*2,none⟩) n m]).run Tryz.prog w=.ok (.tuple #[]) w'/\lP w' g off c N l/\SD (fun b=>b=g) w w':=by
 obtain⟨⟨cur,t0,h1,h2,tg,h3⟩,h4⟩:=h;have eo:∀u∈syZ.cells.toList,u.oneCell'=true:=fun u hu=>ye.1 (show syZ.cells.toList.all (fun u=>u.oneCell')=true by rfl) u hu
 have fk:syZ.cells.size=2:=rfl;obtain⟨w',sa,r1,r2,r3,r4,r5⟩:=M3 (P:=Tryz.prog) w 65 52 t0 ty _ Zf (syzv w) eo g (off+l.length*2) n m cur h1 (by rw[fk];omega);refine⟨w',r1,⟨⟨sa,_,r2,by omega,tg,?_⟩,h4⟩,r5⟩;have e:∀L:List Value,(L.drop off).take (l.length*2)=(L.take (off+l.length*2)).drop off:=fun L=>by rw[List.drop_take,Y0g]
 rw[e,r4,<- e,h3]
theorem J6 (w:World)(ty t0:TypeId)(g off dLen dCap:Nat)(a:Addr)(sLen sCap:Nat)(L:List Value)(cs:List Value)
  (hg:w.heap[g]?=some (.cells L.toArray t0 (0,0))) (hn:cs.length=Nat.min sLen dLen*2) (mw:∀j v,cs[j]?=some v->w.cell? (a.add j)=some v) (li:off+cs.length<=L.length) (h1:∀v∈cs,v.oneCell'=true) :
  (Builtin.copy_ #[65,65] ty #[.slice (some ⟨g,off,none⟩) dLen dCap,.slice (some a) sLen sCap]).run Tryz.prog w=.ok (goInt (Nat.min sLen dLen:Nat)) (w.setRow g (lay L off cs).toArray):=by
 have:=Su (P:=Tryz.prog) w 65 65 ty 52 2 Zf sysz g off dLen dCap a sLen sCap L.toArray t0 cs hg hn mw (by simpa using li) h1;exact this
theorem lP.list {w:World}{g off c N:Nat}{l:List TO}(h:lP w g off c N l):∃(L:List Value)(ty:TypeId),w.heap[g]?=some (.cells L.toArray ty (0,0))/\L.length=N/\off+c*2<=L.length/\∀j,j<l.length*2->L[off+j]?=(TJ l)[j]?:=by
 obtain⟨⟨cur,ty,h1,h2,tg,h3⟩,h4⟩:=h;refine⟨cur.toList,ty,h1,by simpa using h2,by rw[Y02];omega,fun j hj=>?_⟩;rw[<- h3,yK,if_pos hj,yI]
theorem lP.IB {w:World}{g off c:Nat}{l:List TO}{L:List Value}{ty:TypeId}(h1:w.heap[g]?=some (.cells L.toArray ty (0,0)))(h2:off+c*2<=L.length)(h3:∀j,j<l.length*2->L[off+j]?=(TJ l)[j]?)(h4:l.length<=c):lP w g off c L.length l:=by
 refine⟨⟨_,_,h1,by simp,h2,?_⟩,h4⟩;apply List.ext_getElem?;intro j;rw[yK];split
 ·rename_i hj;rw[yI];exact h3 j hj
 ·rename_i hj;rw[Y08 (by rw[bG];omega)]
theorem Uo (l:List TO)(x:TO)(i j:Nat)(hi:i<=l.length):(TJ (l.take i++x::l.drop i))[j]?=if j<i*2 then(TJ l)[j]? else if j<i*2+2 then x.cells[j-i*2]? else(TJ l)[j-2]?:=by
 have ht:(TJ (l.take i)).length=i*2:=by rw[bG,yz,Nat.min_eq_left hi]
 have hx:=x.len;rw[EO,WQ];split
 ·rw[yT (by omega),<- DS,yK,if_pos (by omega)]
 ·split
  ·rw[yP (by omega),ht,yT (by omega)]
  ·rw[yP (by omega),ht,yP (by omega),hx,<- RO,yI];congr 1;omega
theorem lP.ins {w:World}{g off c:Nat}{l:List TO}{x:TO}{L:List Value}{i:Nat}{ty:TypeId}(hi:i<=l.length)(hL:off+c*2<=L.length)(hc:∀j,j<l.length*2->L[off+j]?=(TJ l)[j]?)(ga:l.length+1<=c)(hg:w.heap[g]?=some (.cells (lay (lay L (off+(i+1)*2) (TJ (l.drop i))) (off+i*2) x.cells).toArray ty (0,0))):
  lP w g off c L.length (l.take i++x::l.drop i):=by
 have hx:=x.len;have hd:(TJ (l.drop i)).length=(l.length-i)*2:=by rw[bG,yJ]
 have da:(l.take i++x::l.drop i).length=l.length+1:=by simp;omega
 have h1:off+(i+1)*2+(TJ (l.drop i)).length<=L.length:=by omega
 have xh:=UK h1;have h2:off+i*2+x.cells.length<=(lay L (off+(i+1)*2) (TJ (l.drop i))).length:=by rw[xh,hx];omega
 have ik:=UK h2;have:=lP.IB hg (c:=c) (off:=off) (l:=l.take i++x::l.drop i) (by rw[ik,xh];exact hL) (fun j hj=>?_) (by omega)
 ·rwa [ik,xh]at this
 rw[da]at hj;rw[Uo l x i j hi,sP _ _ _ _ h2,sP _ _ _ _ h1,hx,hd];by_cases c1:j<i*2
 ·rw[if_pos c1,if_neg (by omega),if_neg (by omega)];exact hc j (by omega)
 ·rw [if_neg c1];by_cases c2:j<i * 2 + 2
  ·rw[if_pos c2,if_pos (by omega)];congr 1;omega
  ·rw[if_neg c2,if_neg (by omega),if_pos (by omega),<- RO,yI];congr 1;omega
theorem lP.ins2 {w:World}{g c:Nat}{l:List TO}{x:TO}{L:List Value}{i:Nat}{ty:TypeId}(hi:i<=l.length)(hL:c*2<=L.length)(hc:∀j,j<i*2->L[j]?=(TJ l)[j]?)(ga:l.length+1<=c)(hg:w.heap[g]?=some (.cells (lay (lay L (i*2) x.cells) ((i+1)*2) (TJ (l.drop i))).toArray ty (0,0))):
  lP w g 0 c L.length (l.take i++x::l.drop i):=by
 have hx:=x.len;have hd:(TJ (l.drop i)).length=(l.length-i)*2:=by rw[bG,yJ]
 have da:(l.take i++x::l.drop i).length=l.length+1:=by simp;omega
 have h1:i*2+x.cells.length<=L.length:=by omega
 have xh:=UK h1;have h2:(i+1)*2+(TJ (l.drop i)).length<=(lay L (i*2) x.cells).length:=by rw[xh,hd];omega
 have ik:=UK h2;have:=lP.IB hg (c:=c) (off:=0) (l:=l.take i++x::l.drop i) (by rw[ik,xh];omega) (fun j hj=>?_) (by omega)
 ·rwa [ik,xh]at this
 rw[da]at hj;rw[yy,Uo l x i j hi,sP _ _ _ _ h2,sP _ _ _ _ h1,hx,hd];by_cases c1:j<i*2
 ·rw[if_pos c1,if_neg (by omega),if_neg (by omega)];exact hc j c1
 ·rw [if_neg c1];by_cases c2:j<i * 2 + 2
  ·rw[if_pos c2,if_neg (by omega),if_pos (by omega)]
  ·rw[if_neg c2,if_pos (by omega),<- RO,yI];congr 1;omega
end
section
open Go Go.RowKit
def syCut (g off N:Nat)(w:World)(l:List TO)(e:Ending)(w':World):Prop:=∃c,e=.returned (.slice (some ⟨g,off,none⟩) l.length c)/\lP w' g off c N l/\SD (fun b=>b=g) w w'
set_option maxHeartbeats 400000 in
theorem Ev (g off c N:Nat)(l:List TO)(n i:Nat)(w:World)(hn:l.length=n)(hi:i<n)(da:n<=1000)(h:lP w g off c N l):
  Calls Tryz.prog 66 #[.slice (some ⟨g,off,none⟩) n c,.int .i64 i,.int .i64 ((i:Int)+1)] w (syCut g off N w (l.eraseIdx i)):=by
 have cf:n<=c:=by have:=h.len;omega
 have ua:((i:Int) ==(i:Int)+1)=false:=by simp;omega
 obtain⟨⟨cur,t0,hg,hN,zc,hc3⟩,_⟩:=h.take (k:=i) (by omega);have gq:(l.take i).length=i:=by rw[yz];omega
 have ug:(l.drop (i+1)).length=n-(i+1):=by rw[yJ,hn]
 have hd:=h.drop (k:=i+1) (by omega);obtain⟨to,hto⟩:∃to:Nat,to=(if c=i+1 then off else off+(i+1)*2):=⟨_,rfl⟩;rw[<- hto]at hd;have htA:(if c=i+1 then some (⟨g,off,none⟩:Addr)else(some (⟨g,off,none⟩:Addr)).map (·.add ((i+1)*2)))=some ⟨g,to,none⟩:=by
  rw[hto];split<;>simp[Addr.add_lit]
 have rg:=syhi (some ⟨g,off,none⟩) n c i (by omega);have ro:=Lw (some ⟨g,off,none⟩) n c (i+1) (by omega);rw[htA]at ro;simp only[Int.natCast_add,Int.cast_ofNat_Int]at ro;obtain⟨inf,rf,fc,ze,ij⟩:=info_parts syi;have hr:=fun ty=>rL (P:=Tryz.prog) w.drew 65 ty 52 inf 2 Zf rf ze g off i c cur _ hg ⟨g,to,none⟩ (n-(i+1)) (c-(i+1)) (TJ (l.drop (i+1))) (by rw[bG,ug]) (fun j u hu=>by rw[Addr.add_lit];exact hd.cells j u hu) (eZ _) (by omega) (by rw[bG,ug];omega)
 have hE:=lP.app (w:=w.drew) (c:=c) (off:=off) (l:=l.take i) (r:=l.drop (i+1)) hg (by omega) hc3 (by rw[gq,ug];omega);rw[gq,hN]at hE;obtain⟨w1,bi⟩:∃w1,w1=w.drew.setRow g (cur.toList.take (off+i*2)++TJ (l.drop (i+1))++cur.toList.drop (off+i*2+(TJ (l.drop (i+1))).length)).toArray:=⟨_,rfl⟩;have tc:SD (fun b=>b=g) w w1:=by rw[bi];exact((SD.refl (fun b=>b=g) w).drew).setRow (fun _=>rfl) _
 rw[<- bi]at hE;simp only[<- bi]at hr;clear bi hto hd hg hN zc hc3 htA;have HE:=KN hE;have HK:=KN tc;have HT:=KN gq;have HD:=KN ug;have HN:=KN hn;clear h hE tc gq ug hn
 go_enter Tryz.func66,Tryz.ntmps66
 go_wp2_with fail
 go_region_held3 (fun _=>True) (trivial) (refine bW rfl _ _ _ _ rfl _ _ rfl rfl (hr _) ?_)
 have tc:i+(n-(i+1))+1=n:=by omega
 have ec:(l.take i++l.drop (i+1)).length=i+(n-(i+1)):=by rw[yj,HT.out,HD.out]
 have fb:l.eraseIdx i=l.take i++l.drop (i+1):=List.eraseIdx_eq_take_drop_succ l i;generalize i+(n-(i+1))=k at *
 generalize l.take i++l.drop (i+1)=l' at *
 subst ec;have ut:=sylh (some ⟨g,off,none⟩) l'.length c l'.length n (by omega) (by omega);rw[if_neg (by omega),yB,Addr.add_lit]at ut;obtain⟨w2,hclr,oo,jv⟩:=HE.out.clear 0 (n-l'.length) (c-l'.length) (by omega);have HO2:=KN oo;have HEL:=KN fb;clear oo fb rg ro hr HE HT HD HN
 go_wp2_with fail
 go_ret
 rw[HEL.out];exact⟨c,rfl,HO2.out,HK.out.trans jv (fun _ _ h=>h)⟩
end
section
open Go Go.RowKit
def Io (w:World)(v:Value)(l:List TO)(e:Ending)(w':World):Prop:=∃g c N,e=.returned (.slice (some ⟨g,0,none⟩) l.length c)/\lP w' g 0 c N l/\SD (fun b=>sR v=some b) w w'/\(w.heap.size<=g\/sR v=some g/\∃cur ty,w.heap[g]?=some (.cells cur ty (0,0))/\cur.size=N)
def CR (w:World)(vb vo:Nat)(x:TO):Prop:=∀(j:Nat)(u:Value),x.cells[j]?=some u->w.cell? ⟨vb,vo+j,none⟩=some u
theorem CR.congr {w w':World}{vb vo:Nat}{x:TO}(h:CR w vb vo x)(he:w'.heap[vb]?=w.heap[vb]?):CR w' vb vo x:=fun j u hu=>by
 have:=h j u hu;unfold World.cell? at this ⊢;simp only[he];exact this
theorem CR.first {w:World}{vb vo:Nat}{x:TO}(h:CR w vb vo x):∃u,w.cell? ⟨vb,vo,none⟩=some u:=by
 have hl:=x.len;obtain⟨u,hu⟩:∃u,x.cells[0]?=some u:=⟨_,yf (by omega)⟩;exact⟨u,h 0 u hu⟩
theorem CR.lt {w:World}{vb vo:Nat}{x:TO}(h:CR w vb vo x):vb<w.heap.size:=by
 obtain⟨u,hu⟩:=h.first;obtain⟨c,ty,fz,hc,_⟩:=IQ hu;exact sD hc
theorem syapp1 (w:World)(ty:TypeId)(v:Value)(l:List TO)(x:TO)(vb vo mc:Nat)(h:syO w v l)(hx:CR w vb vo x)(da:l.length<=900):
  ∃v' w',(Builtin.append_ #[65,65] ty #[v,.slice (some ⟨vb,vo,none⟩) 1 mc]).run Tryz.prog w=.ok v' w'/\Io w v (l++[x]) (.returned v') w':=by
 obtain⟨inf,rf,fc,ze,ij⟩:=info_parts syi;have zb:∀j u,(TJ [x])[j]?=some u->w.cell? ((⟨vb,vo,none⟩:Addr).add j)=some u:=fun j u hu=>by
  rw[Addr.add_lit];exact hx j u (by simpa [TJ]using hu)
 rcases h with⟨rfl,rfl⟩|⟨g,c,N,rfl,hE⟩
 ·obtain⟨cap,sa,g1,g2,g3,g4,hr⟩:=fI (P:=Tryz.prog) w 65 ty 52 inf _ 2 24 Zf rf fc ze ij rfl none 0 0 [] rfl (fun h0=>absurd h0 (by omega)) (fun _=>⟨rfl,rfl⟩) ⟨vb,vo,none⟩ 1 mc (TJ [x]) (bG _) zb (by omega) (yl _) (by omega) (by omega);refine⟨_,_,hr,w.heap.size,cap,sa.size,rfl,⟨⟨sa,_,heap_alloc_new w.drew _,rfl,by omega,?_⟩,g1⟩,SD.of_below (HS ((Below.refl _ _).alloc (yl _) _)) _,.inl (yl _)⟩;rw[Y05];exact g4
 ·have hc:=hE.len;by_cases ga:l.length + 1<=c
  ·obtain⟨⟨cur,t0,h1,hN,h2,h3⟩,h4⟩:=hE;have hr:=rL (P:=Tryz.prog) w 65 ty 52 inf 2 Zf rf ze g 0 l.length c cur _ h1 ⟨vb,vo,none⟩ 1 mc (TJ [x]) (bG _) zb (eZ _) ga (by rw[bG];simp;omega);have hE:=lP.app (c:=c) (off:=0) (l:=l) (r:=[x]) h1 (by omega) h3 ga;rw[hN]at hE;exact⟨_,_,hr,g,c,N,by rw[yj];rfl,hE,(SD.refl (fun b=>sR (.slice (some ⟨g,0,none⟩) l.length c)=some b) w).setRow (fun _=>rfl) _,.inr ⟨rfl,cur,t0,h1,hN⟩⟩
  ·obtain⟨cap,sa,g1,g2,g3,g4,hr⟩:=fI (P:=Tryz.prog) w 65 ty 52 inf _ 2 24 Zf rf fc ze ij rfl (some ⟨g,0,none⟩) l.length c (TJ l) (bG l) (fun h0=>⟨_,rfl,fun j u hu=>by rw[Addr.add_lit];exact hE.cells j u hu⟩) (fun hA=>nomatch hA) ⟨vb,vo,none⟩ 1 mc (TJ [x]) (bG _) zb (by omega) hc (by omega) (by omega);refine⟨_,_,hr,w.heap.size,cap,sa.size,by rw[yj];rfl,⟨⟨sa,_,heap_alloc_new w.drew _,rfl,by omega,?_⟩,by rw[yj];exact g1⟩,SD.of_below (HS ((Below.refl _ _).alloc (yl _) _)) _,.inl (yl _)⟩;rw[Y05,yj,EO];exact g4
theorem syO.shape {w:World}{v:Value}{l:List TO}(h:syO w v l):∃A c,v=.slice A l.length c/\l.length<=c/\(A=none->c=0):=by
 rcases h with⟨rfl,rfl⟩|⟨g,c,N,rfl,h⟩
 ·exact⟨none,0,rfl,yl _,fun _=>rfl⟩
 ·exact⟨_,c,rfl,h.len,fun h=>by cases h⟩
set_option maxHeartbeats 1000000 in
theorem Rv (A:Option Addr)(n c vb vo mc:Nat)(w:World)(hc:n<=c)(da:n<=900){v':Value}{w':World}(hr:(Builtin.append_ #[65,65] 65 #[.slice A n c,.slice (some ⟨vb,vo,none⟩) 1 mc]).run Tryz.prog w=.ok v' w'):
  Calls Tryz.prog 65 #[.slice A n c,.int .i64 n,.slice (some ⟨vb,vo,none⟩) 1 mc] w fun e w2=>e=.returned v'/\w2=w':=by
 have rg:=Lw A n c n (yl _);generalize hA1:(if c=n then A else A.map (·.add (n*2)))=A1 at rg;clear hA1
 go_enter Tryz.func65,Tryz.ntmps65
 go_wp2_with (at_builtin;refine EL _ rfl _ _ _ _ rfl _ _ rfl rfl hr ?_)
 go_ret
 exact⟨rfl,rfl⟩
theorem syend (v:Value)(l:List TO)(x:TO)(n vb vo mc:Nat)(w:World)(hn:l.length=n)(h:syO w v l)(hx:CR w vb vo x)(da:n<=900):
  Calls Tryz.prog 65 #[v,.int .i64 n,.slice (some ⟨vb,vo,none⟩) 1 mc] w (Io w v (l++[x])):=by
 obtain⟨v',w',hr,h1⟩:=syapp1 w 65 v l x vb vo mc h hx (by omega);obtain⟨A,c,hv,hc,wm⟩:=h.shape;rw[hn]at hv hc;subst hv;refine(Rv A n c vb vo mc w hc da hr).mono ?_;rintro e w2 ⟨rfl,rfl⟩;exact h1
theorem syend0 (A:Option Addr)(x:TO)(vb vo mc:Nat)(w:World)(hx:CR w vb vo x):
  Calls Tryz.prog 65 #[.slice A 0 0,.int .i64 0,.slice (some ⟨vb,vo,none⟩) 1 mc] w fun e w'=>∃g c N,e=.returned (.slice (some ⟨g,0,none⟩) 1 c)/\lP w' g 0 c N [x]/\SD (fun _=>False) w w'/\w.heap.size<=g:=by
 obtain⟨inf,rf,fc,ze,ij⟩:=info_parts syi;have zb:∀j u,(TJ [x])[j]?=some u->w.cell? ((⟨vb,vo,none⟩:Addr).add j)=some u:=fun j u hu=>by
  rw[Addr.add_lit];exact hx j u (by simpa [TJ]using hu)
 obtain⟨cap,sa,g1,g2,g3,g4,hr⟩:=fI (P:=Tryz.prog) w 65 65 52 inf _ 2 24 Zf rf fc ze ij rfl A 0 0 [] rfl (fun h0=>absurd h0 (by omega)) (fun _=>⟨rfl,rfl⟩) ⟨vb,vo,none⟩ 1 mc (TJ [x]) (bG _) zb (by omega) (yl _) (by omega) (by omega);refine(Rv A 0 0 vb vo mc w (yl _) (by omega) hr).mono ?_;rintro e w2 ⟨rfl,rfl⟩;refine⟨w.heap.size,cap,sa.size,rfl,⟨⟨sa,_,heap_alloc_new w.drew _,rfl,by omega,?_⟩,g1⟩,SD.of_below (HS ((Below.refl _ _).alloc (yl _) _)) _,yl _⟩;rw[Y05];exact g4
set_option maxHeartbeats 1000000 in
theorem syshift (g c N vb vo mc:Nat)(l:List TO)(x:TO)(n i:Nat)(w:World)(hn:l.length=n)(hi:i<n)(da:n<=1000)(h:lP w g 0 c N l)(ga:n+1<=c)(hx:CR w vb vo x)(ua:vb≠g):
  Calls Tryz.prog 65 #[.slice (some ⟨g,0,none⟩) n c,.int .i64 i,.slice (some ⟨vb,vo,none⟩) 1 mc] w fun e w'=>e=.returned (.slice (some ⟨g,0,none⟩) (n+1) c)/\lP w' g 0 c N (l.take i++x::l.drop i)/\SD (fun b=>b=g) w w':=by
 have fv:=h.lt;have tl:=h.drop (k:=i) (by omega);obtain⟨L,t0,rq,hLN,hL2,hL3⟩:=h.list;obtain⟨u0,hu0⟩:=hx.first;have hov:∀lb cb,(callFunc 93 #[.slice (some ⟨vb,vo,none⟩) 1 mc,.slice (some ⟨g,(i+1)*2,none⟩) lb cb]).run Tryz.prog w=.ok (.value (.bool false)) w:=fun lb cb=>by
  rw[run_callFunc_extern (P:=Tryz.prog) (e:=Extern.SlicesOverlaps.overlaps #[65,65] #[4]) Tryz.func93 (by kernel_rfl) (by kernel_rfl) (by kernel_rfl) (by kernel_rfl),
   RS w 65 4 52 Zf 2 sysiz ⟨vb,vo,none⟩ ⟨g,(i+1)*2,none⟩ 1 mc lb cb ua u0 hu0 L.toArray t0 rq (by rw[yY];omega)]
  rfl
 have ij:¬((i:Int)=(n:Int)):=by omega
 have mixed:Tryz.prog.follows .mixedOrders=true:=by kernel_rfl
 have ug:(l.drop i).length=n-i:=by rw[yJ,hn]
 have bi:IntKind.i64.wrap ((i:Int)+1)=(i:Int)+1:=IntWalk.i64_in _ (by omega);have fq:IntKind.i64.wrap ((n:Int)+1)=(n:Int)+1:=IntWalk.i64_in _ (by omega);have hA:∀k,k<c->(if c=k then some (⟨g,0,none⟩:Addr)else(some (⟨g,0,none⟩:Addr)).map (·.add (k*2)))=some ⟨g,k*2,none⟩:=fun k hk=>by rw[if_neg (by omega)];simp[Addr.add_lit]
 have rg:=Lw (some ⟨g,0,none⟩) n c i (by omega);have ro:=syhi (some ⟨g,0,none⟩) n c (n+1) (by omega);have ut:=Lw (some ⟨g,0,none⟩) (n+1) c (i+1) (by omega);have hs4:=Lw (some ⟨g,0,none⟩) (n+1) c i (by omega);rw[hA i (by omega)]at rg hs4;rw[hA (i+1) (by omega)]at ut;rw[Nat.add_sub_add_right]at ut;simp only[Int.natCast_add,Int.cast_ofNat_Int]at ro ut;have ki:∀ty dc sc,(Builtin.copy_ #[65,65] ty #[.slice (some ⟨g,(i+1)*2,none⟩) (n-i) dc,.slice (some ⟨g,i*2,none⟩) (n+1-i) sc]).run Tryz.prog w.drew=.ok (goInt (Nat.min (n+1-i) (n-i):Nat)) (w.drew.setRow g (lay L ((i+1)*2) (TJ (l.drop i))).toArray):=fun ty dc sc =>
  J6 w.drew ty t0 g ((i+1)*2) (n-i) dc ⟨g,i*2,none⟩ (n+1-i) sc L (TJ (l.drop i)) rq (by rw[bG,ug];congr 1;simp only[Nat.min_def];split<;>omega)
   (fun j v hj=>by
    have:=h.cells (i*2+j) v (by rw[<- RO,yI]at hj;exact hj);rw[Addr.add_lit]
    rwa [yy]at this) (by rw[bG,ug];omega) (eZ _)
 have bq:=x.len;have h1l:(i+1)*2+(TJ (l.drop i)).length<=L.length:=by rw[bG,ug];omega
 obtain⟨L1,nf⟩:∃L1,L1=lay L ((i+1)*2) (TJ (l.drop i)):=⟨_,rfl⟩;have hL1l:L1.length=L.length:=by rw[nf];exact UK h1l
 rw[<- nf]at ki;obtain⟨W1,tk⟩:∃W1,W1=w.drew.setRow g L1.toArray:=⟨_,rfl⟩;have bh:W1.heap[g]?=some (.cells L1.toArray t0 (0,0)):=by rw[tk];exact setRow_heap w.drew g _ _ _ _ rq
 have su:CR W1 vb vo x:=hx.congr (by rw[tk,setRow_other _ _ _ _ ua];rfl);have tc:SD (fun b=>b=g) w W1:=by rw[tk];exact((SD.refl (fun b=>b=g) w).drew).setRow (fun _=>rfl) _
 have jn:∀ty dc,(Builtin.copy_ #[65,65] ty #[.slice (some ⟨g,i*2,none⟩) (n+1-i) dc,.slice (some ⟨vb,vo,none⟩) 1 mc]).run Tryz.prog W1=.ok (goInt (Nat.min 1 (n+1-i):Nat)) (W1.setRow g (lay L1 (i*2) x.cells).toArray):=fun ty dc =>
  J6 W1 ty t0 g (i*2) (n+1-i) dc ⟨vb,vo,none⟩ 1 mc L1 x.cells bh (by rw[bq];simp only[Nat.min_def];split<;>omega) (fun j v hj=>by rw[Addr.add_lit];exact su j v hj) (by omega) x.one
 rw[<- tk]at ki;have hE:lP (W1.setRow g (lay L1 (i*2) x.cells).toArray) g 0 c L.length (l.take i++x::l.drop i):=lP.ins (c:=c) (off:=0) (l:=l) (i:=i) (L:=L) (by omega) hL2 hL3 (by omega) (by rw[yy,yy,<- nf];exact setRow_heap W1 g _ _ _ _ bh);rw[hLN]at hE;have HE:=KN hE;have HK:=KN tc;clear hE tc h rq hL2 hL3 hLN bh su tk nf hx tl hu0
 go_enter Tryz.func65,Tryz.ntmps65
 go_wp2_with (simp only[hov])
 go_region_law_o (refine mM rfl _ _ 65 65 rfl _ _ (by simp[Act.eval,Act.put]) (by simp[Act.eval,Act.put]) (ki _ _ _) ?_)
 go_wp2_with (at_builtin;refine AK _ rfl _ _ 65 65 rfl _ _ rfl rfl (jn _ _) ?_)
 go_ret
 exact⟨rfl,HE.out,HK.out.setRow (fun _=>rfl) _⟩
theorem syu3:Tryz.prog.underlying 3=some (.int .i64):=by kernel_rfl
set_option maxHeartbeats 1000000 in
theorem sygrow (g c N vb vo mc:Nat)(l:List TO)(x:TO)(n i:Nat)(w:World)(hn:l.length=n)(hi:i<n)(da:n<=900)(h:lP w g 0 c N l)(ga:¬n+1<=c)(hx:CR w vb vo x):
  Calls Tryz.prog 65 #[.slice (some ⟨g,0,none⟩) n c,.int .i64 i,.slice (some ⟨vb,vo,none⟩) 1 mc] w (Io w (.slice (some ⟨g,0,none⟩) n c) (l.take i++x::l.drop i)):=by
 have cf:n<=c:=by have:=h.len;omega
 have fv:=h.lt;have hvl:=hx.lt;obtain⟨inf,rf,fc,ze,ij⟩:=info_parts syi;have hz2':¬((i:Int)=(n:Int)):=by omega
 have mixed:Tryz.prog.follows .mixedOrders=true:=by kernel_rfl
 have ug:(l.drop i).length=n-i:=by rw[yJ,hn]
 have gq:(l.take i).length=i:=by rw[yz];omega
 have bi:IntKind.i64.wrap ((i:Int)+1)=(i:Int)+1:=IntWalk.i64_in _ (by omega);have fq:IntKind.i64.wrap ((n:Int)+1)=(n:Int)+1:=IntWalk.i64_in _ (by omega);have hw3:IntKind.i64.wrap ((n:Int)+1-(i:Int))=((n+1-i:Nat):Int):=by rw[IntWalk.i64_in _ (by omega)];omega
 have rg:=Lw (some ⟨g,0,none⟩) n c i (by omega);rw[if_neg (by omega),yB,Addr.add_lit,yy]at rg;have ro:=syhi (some ⟨g,0,none⟩) n c i (by omega);have tl:=h.take (k:=i) (by omega);have hfo:=run_firstCells_some (P:=Tryz.prog) w.drew inf.size i ⟨g,0,none⟩ i c (TJ (l.take i)) (by rw[bG,gq,ze]) (fun j u hu=>by rw[Addr.add_lit];exact tl.cells j u hu);have h48:Builtin.nextslicecap (i+(n+1-i)) c*inf.bytes<=281474976710656:=by
  have h1:Builtin.nextslicecap (i+(n+1-i)) c<=2*(i+(n+1-i)):=nextslicecap_le (by omega);rw[ij];omega
 have bv:=fun ty=>Lib.run_append_grow_zeros (P:=Tryz.prog) w 65 3 ty 52 inf _ .i64 .i64 Zf syu3 rf fc (some ⟨g,0,none⟩) i c (TJ (l.take i)) hfo (n+1-i) (by omega) (by omega) (by omega) (by omega) (by rw[ij];omega) h48
 have e1:i+(n+1-i)=n+1:=by omega
 rw[e1]at bv h48;have hcg:=grownCap_ge w (n+1) c 52;have wk:=grownCap_le_maxLen w (n+1) c 52 (by have:maxLen=9223372036854775807:=rfl;omega);generalize grownCap w (n+1) c 52=cap at bv hcg wk;obtain⟨L,hL⟩:∃L:List Value,((TJ (l.take i)).toArray++Builtin.zeroCells syZ.cells (n+1-i)++Builtin.zeroCells syZ.cells (cap-(n+1)))=L.toArray:=⟨_,rfl⟩;have hLl:L.length=cap*2:=by
  have:=congrArg Array.size hL;simp only[Array.size_append,size_zeroCells,yY,bG,gq]at this;have h5:syZ.cells.size=2:=rfl;rw[h5]at this;omega
 have hLc:∀j,j<i*2->L[j]?=(TJ l)[j]?:=fun j hj=>by
  have h1:L[j]?=(L.toArray)[j]?:=by simp
  rw[h1,<- hL,Array.append_assoc,Array.getElem?_append_left (by simp[bG,gq];omega)];simp only[List.getElem?_toArray];rw[<- DS,yK,if_pos hj]
 rw[hL]at bv;clear hL;have bq:=x.len;have hsG:∀k,k<cap->∀W,(Instr.slice 65 (.slice (some ⟨w.heap.size,0,none⟩) (n+1) cap) (some (.int .i64 (k:Int))) none none).run Tryz.prog W=(if k<=n+1 then .ok (.slice (some ⟨w.heap.size,k*2,none⟩) (n+1-k) (cap-k)) W else(Instr.slice 65 (.slice (some ⟨w.heap.size,0,none⟩) (n+1) cap) (some (.int .i64 (k:Int))) none none).run Tryz.prog W):=fun k hk W=>by
  split
  ·rename_i h;have:=Lw (some ⟨w.heap.size,0,none⟩) (n+1) cap k h W;rw[if_neg (by omega),yB,Addr.add_lit,yy]at this;exact this
  ·rfl
 have ut:=fun W=>(hsG i (by omega) W).trans (by rw[if_pos (by omega)])
 have hs4:=fun W=>(hsG (i+1) (by omega) W).trans (by rw[if_pos (by omega)])
 simp only[Nat.add_sub_add_right,Int.natCast_add,Int.cast_ofNat_Int]at hs4;clear hsG;obtain⟨W0,uy⟩:∃W0,W0=w.drew.alloc (.cells L.toArray 52):=⟨_,rfl⟩;have tq:W0.heap[w.heap.size]?=some (.cells L.toArray 52 (0,0)):=by rw[uy];exact heap_alloc_new w.drew _
 have df:Below w.heap.size w W0:=by rw[uy];exact HS ((Below.refl _ _).alloc (yl _) _)
 rw[<- uy]at bv;have ru:CR W0 vb vo x:=hx.congr (df.block vb hvl);have ki:∀ty dc,(Builtin.copy_ #[65,65] ty #[.slice (some ⟨w.heap.size,i*2,none⟩) (n+1-i) dc,.slice (some ⟨vb,vo,none⟩) 1 mc]).run Tryz.prog W0=.ok (goInt (Nat.min 1 (n+1-i):Nat)) (W0.setRow w.heap.size (lay L (i*2) x.cells).toArray):=fun ty dc =>
  J6 W0 ty _ w.heap.size (i*2) (n+1-i) dc ⟨vb,vo,none⟩ 1 mc L x.cells tq (by rw[bq];simp only[Nat.min_def];split<;>omega) (fun j v hj=>by rw[Addr.add_lit];exact ru j v hj) (by omega) x.one
 have h1l:i*2+x.cells.length<=L.length:=by omega
 obtain⟨L1,nf⟩:∃L1,L1=lay L (i*2) x.cells:=⟨_,rfl⟩;have hL1l:L1.length=L.length:=by rw[nf];exact UK h1l
 obtain⟨W1,tk⟩:∃W1,W1=W0.setRow w.heap.size L1.toArray:=⟨_,rfl⟩;rw[<- nf,<- tk]at ki;have bh:W1.heap[w.heap.size]?=some (.cells L1.toArray 52 (0,0)):=by rw[tk];exact setRow_heap W0 w.heap.size _ _ _ _ tq
 have tc:Below w.heap.size w W1:=by rw[tk];exact df.trans ⟨rfl,rfl,rfl,by simp,fun k hk=>setRow_other W0 w.heap.size k _ (by omega)⟩
 have hE1:=(h.drop (k:=i) (by omega)).keep (SD.of_below tc (fun _=>False)) (fun h=>h);rw[if_neg (by omega),yy]at hE1;have jn:∀ty dc sc,(Builtin.copy_ #[65,65] ty #[.slice (some ⟨w.heap.size,(i+1)*2,none⟩) (n-i) dc,.slice (some ⟨g,i*2,none⟩) (n-i) sc]).run Tryz.prog W1.drew=.ok (goInt (Nat.min (n-i) (n-i):Nat)) (W1.drew.setRow w.heap.size (lay L1 ((i+1)*2) (TJ (l.drop i))).toArray):=fun ty dc sc =>
  J6 W1.drew ty _ w.heap.size ((i+1)*2) (n-i) dc ⟨g,i*2,none⟩ (n-i) sc L1 (TJ (l.drop i)) bh (by rw[bG,ug];congr 1;simp only[Nat.min_def];split<;>omega)
   (fun j v hj=>by rw[Addr.add_lit];exact hE1.cells j v hj) (by rw[bG,ug];omega) (eZ _)
 obtain⟨W2,wy⟩:∃W2,W2=W1.drew.setRow w.heap.size (lay L1 ((i+1)*2) (TJ (l.drop i))).toArray:=⟨_,rfl⟩;have hE:lP W2 w.heap.size 0 cap L.length (l.take i++x::l.drop i):=lP.ins2 (c:=cap) (l:=l) (i:=i) (L:=L) (by omega) (by omega) hLc (by omega) (by rw[wy,<- nf];exact setRow_heap W1.drew w.heap.size _ _ _ _ bh);have jv:Below w.heap.size w W2:=by rw[wy];exact tc.trans ⟨rfl,rfl,rfl,by simp,fun k hk=>setRow_other W1.drew w.heap.size k _ (by have:=tc.size;omega)⟩
 rw[<- wy]at jn;have ub:(l.take i++x::l.drop i).length=n+1:=by simp;omega
 have HE:=KN hE;have HK:=KN jv;have HL:=KN ub;clear hE jv tc df hE1 h tl hfo tq ru bh uy tk wy nf hx ub hLc
 go_enter Tryz.func65,Tryz.ntmps65
 go_wp2_with (first|(at_builtin;refine EL _ rfl _ _ _ _ rfl _ _ rfl rfl (bv _) ?_)|(at_builtin;refine AK _ rfl _ _ 65 65 rfl _ _ rfl rfl (ki _ _) ?_))
 go_region_law_o (refine mM rfl _ _ 65 65 rfl _ _ (by simp[Act.eval,Act.put]) (by simp[Act.eval,Act.put]) (jn _ _ _) ?_)
 go_wp2_with fail
 go_ret
 exact⟨w.heap.size,cap,_,congrArg (fun k=>Ending.returned (Value.slice (some ⟨w.heap.size,0,none⟩) k cap)) HL.out.symm,HE.out,SD.of_below HK.out _,.inl (yl _)⟩
theorem Uv (v:Value)(l:List TO)(x:TO)(i vb vo mc:Nat)(w:World)(hi:i<=l.length)(h:syO w v l)(hx:CR w vb vo x)(ua:sR v≠some vb)(da:l.length<=900):
  Calls Tryz.prog 65 #[v,.int .i64 i,.slice (some ⟨vb,vo,none⟩) 1 mc] w (Io w v (l.take i++x::l.drop i)):=by
 by_cases hn:i=l.length
 ·have:=syend v l x l.length vb vo mc w rfl h hx da;rw[hn,List.take_length,List.drop_length];exact this
 ·rcases h with ⟨rfl,rfl⟩ | ⟨g,c,N,rfl,hE⟩
  ·exact absurd (Nat.le_zero.1 hi) hn
  ·by_cases ga:l.length + 1<=c
   ·obtain⟨⟨cur,ty,h1,h2,_⟩,_⟩:=id hE;refine(syshift g c N vb vo mc l x l.length i w rfl (by omega) (by omega) hE ga hx (fun h=>ua (by rw[h];rfl))).mono ?_;rintro e w' ⟨rfl,h3,h4⟩;refine⟨g,c,N,?_,h3,h4.mono fun i _ h=>by subst h;rfl,.inr ⟨rfl,cur,ty,h1,h2⟩⟩;congr 2;simp;omega
   ·exact sygrow g c N vb vo mc l x l.length i w rfl (by omega) da hE ga hx
end
section
open Go Go.RowKit
theorem Kw {av:Av}{w:World}{v0:Value}{g0:Nat->Prop}{E:List TO}{l:List (List AV)}{x:List AV}{xe:TO}{k vb vo c:Nat}(hk:k<=E.length)(hO:syO w v0 E)(de:CR w vb vo xe)(hvb:¬av vb vo)(oc:eE av w x xe.cells)(hl:eE av w l.flatten (TJ E))(fb:kD 2 (x::l)=true)(da:l.length=E.length)(h9:l.length<=900)(hb:∀b,sR v0=some b->g0 b)(hg:∀b,g0 b->∀o,av b o):
  Calls Tryz.prog 65 #[v0,.int .i64 k,.slice (some ⟨vb,vo,none⟩) 1 c] w fun e w'=>∃v,e=.returned v/\I5 w g0 2 av w' (l.take k++x::l.drop k) v/\SD g0 w w':=by
 rw[wH,yg,decide_eq_true_eq]at fb;refine(Uv v0 E xe k vb vo c w hk hO de (fun h=>hvb (hg vb (hb vb h) vo)) (by omega)).mono ?_;rintro e w' ⟨g,c',N,rfl,⟨⟨sa,dj,e1,e2,e3,e4⟩,e5⟩,hK,ff⟩;have ud:SD g0 w w':=hK.mono (fun i _ h=>hb i h);have ub:(l.take k++x::l.drop k).length=(E.take k++xe::E.drop k).length:=by simp[da]
 have hz:kD 2 (l.take k++x::l.drop k)=true:=by rw[jL,wH,qM fb.2,sO fb.2,fb.1];rfl
 have held:=pQ ud hg (g:=g) (by rcases ff with h|⟨h,_⟩;exact .inl h;exact .inr (hb g h));refine⟨_,rfl,⟨g,c',sa,dj,by rw[ub],?_,e1,by rw[ub];exact e5,by omega,?_⟩,ud⟩
 ·rcases ff with h | ⟨h,cur,ty,h1,h2⟩
  ·exact .inl h
  ·exact .inr ⟨hb g h,cur,ty,h1,by omega⟩
 ·rw[Y05]at e4;rw[KJ hz,ub,e4,Y0l,yA,fO k fb.2,dO k fb.2,EO,WQ,<- DS,<- RO];exact eE.held held _ _ (fH (SP _ hl) (fH oc (PP _ hl)))
theorem Jw {av:Av}{w:World}{g0:Nat->Prop}{E:List TO}{l:List (List AV)}{k g c N:Nat}(hk:k<E.length)(hO:lP w g 0 c N E)(hl:eE av w l.flatten (TJ E))(fb:kD 2 l=true)(da:l.length=E.length)(h9:l.length<=900)(hb:∀b,g0 b↔b=g)(hg:∀o,av g o):
  Calls Tryz.prog 66 #[.slice (some ⟨g,0,none⟩) E.length c,.int .i64 k,.int .i64 ((k:Int)+1)] w fun e w'=>∃v,e=.returned v/\I5 w g0 2 av w' (l.take k++l.drop (k+1)) v/\SD g0 w w':=by
 obtain⟨⟨cur0,ky,c1,c2,_⟩,_⟩:=id hO;refine(Ev g 0 c N E E.length k w rfl hk (by omega) hO).mono ?_;rintro e w' ⟨c',rfl,⟨⟨sa,dj,e1,e2,e3,e4⟩,e5⟩,hK⟩;have ud:SD g0 w w':=hK.mono (fun i _ h=>(hb i).2 h);rw[List.eraseIdx_eq_take_drop_succ]at e4 e5 ⊢;have ub:(l.take k++l.drop (k+1)).length=(E.take k++E.drop (k+1)).length:=by simp[da]
 have hz:kD 2 (l.take k++l.drop (k+1))=true:=by rw[jL,qM fb,sO fb];rfl
 have held:=pQ ud (fun b h o=>by rw[(hb b).1 h];exact hg o) (g:=g) (.inr ((hb g).2 rfl));refine⟨_,rfl,⟨g,c',sa,dj,by rw[ub],.inr ⟨(hb g).2 rfl,cur0,ky,c1,by omega⟩,e1,by rw[ub];exact e5,by omega,?_⟩,ud⟩;rw[Y05]at e4;rw[KJ hz,ub,e4,Y0l,fO k fb,dO (k+1) fb,EO,<- DS,<- RO];exact eE.held held _ _ (fH (SP _ hl) (PP _ hl))
theorem Oo {av:Av}{w:World}{b:Bool}{l:List (List AV)}{v0:Value}{g0:Nat->Prop}(hg:U5 2 av w b l v0 g0)(fb:kD 2 l=true)(h9:l.length<=900):
  (l=[]/\(∃A,v0=.slice A 0 0)/\∀g,¬g0 g)\/(b=false/\∃(E:List TO)(g c N:Nat),E.length=l.length/\v0=.slice (some ⟨g,0,none⟩) E.length c/\(∀b,g0 b↔b=g)/\(∀o,av g o)/\eE av w l.flatten (TJ E)/\lP w g 0 c N E):=by
 rcases hg with⟨h1,h2,_,h3⟩|⟨hb,g,c,cur,ty,hv,h0,hh,hc,hz,ld,hr⟩
 ·exact .inl ⟨h1,h2,h3⟩
 ·have ub:=QI hr;have hf:=KJ fb;obtain⟨E,hE,hC⟩:=Qv l.length (cur.toList.take l.flatten.length) (by rw[<- ub,hf]) (AP hr);refine .inr ⟨hb,E,g,c,cur.size,hE,by rw[hE];exact hv,h0,ld,by rw[hC];exact hr,⟨⟨cur,ty,hh,rfl,by omega,?_⟩,by rw[hE];exact hc⟩⟩;rw[Y05,hC,hE,hf]
theorem syins0 {av:Av}{w:World}{g0:Nat->Prop}{x:List AV}{xe:TO}{vb vo c:Nat}(A:Option Addr)(de:CR w vb vo xe)(oc:eE av w x xe.cells)(fb:kD 2 [x]=true)(hg:∀b,¬g0 b):
  Calls Tryz.prog 65 #[.slice A 0 0,.int .i64 0,.slice (some ⟨vb,vo,none⟩) 1 c] w fun e w'=>∃v,e=.returned v/\I5 w g0 2 av w' [x] v/\SD g0 w w':=by
 refine(syend0 A xe vb vo c w de).mono ?_;rintro e w' ⟨g,c',N,rfl,⟨⟨sa,dj,e1,e2,e3,e4⟩,e5⟩,hK,ff⟩;have ud:SD g0 w w':=hK.mono (fun i _ h=>h.elim);have held:=pQ (av:=av) ud (fun b h=>absurd h (hg b)) (g:=g) (.inl ff);refine⟨_,rfl,⟨g,c',sa,dj,rfl,.inl ff,e1,e5,by simp only[List.length_singleton]at e3 e5 ⊢;omega,?_⟩,ud⟩;rw[Y05]at e4;rw[KJ fb];have lu:sa.toList.take ([x].length*2)=TJ [xe]:=e4;rw[lu,List.flatten_singleton];have wq:TJ [xe]=xe.cells:=by simp[TJ]
 rw[wq];exact eE.held held _ _ oc
theorem Tv {O:XH}{b:Bool}{l:List (List AV)}{x:List AV}{i:Int}(h0:0<=i)(h1:i<=l.length)(h9:l.length<=900)(fb:kD 2 (x::l)=true):
  MD Tryz.prog O 65 [.undef,.sl b l,.int .i64 i,.sl false [x]] (some (.int .i64 2)) (.sl false (l.take i.toNat++x::l.drop i.toNat),none):=by
 unfold MD;refine(?_:cK _ _ _ _ _ _);refine⟨enters_of Tryz.func65 (by kernel_rfl) rfl,?_⟩;intro av w v0 vs g0 ld za hg;simp only[jJ]at za;obtain⟨u1,us1,rfl,ir,u2,us2,rfl,mq,rfl⟩:=za;rw[OD]at ir;subst ir;rw[FG]at mq;simp only[ZG]at mq;obtain⟨A,c,rfl,hc,_,_,hs⟩:=mq;obtain⟨vb,vo,rfl,ja⟩:=(hs trivial).2 (by simp);rw[XG]at ja;simp only[yA,List.flatten_nil,yF]at ja;obtain⟨xs,oc,bq⟩:=LL ja;have zq:=fb;rw[wH,yg,decide_eq_true_eq]at zq;have hxl:xs.length=2:=by rw[<- QI oc];exact zq.1
 have de:CR w vb vo ⟨xs,hxl,AP oc⟩:=fun j u hu=>(bq j u hu).1
 have hvb:¬av vb vo:=by
  have:=(bq 0 _ (yf (by omega))).2
  rwa [yV]at this
 have hi:i=(i.toNat:Int):=by omega
 rcases Oo hg zq.2 h9 with⟨rfl,⟨A0,rfl⟩,lq⟩|⟨rfl,E,g,cg,N,hE,rfl,lq,gr,hr,hB⟩
 ·have pg:i=0:=by simp at h1; omega
  subst pg;exact syins0 A0 de oc fb lq
 ·have:=Kw (v0:=.slice (some ⟨g,0,none⟩) E.length cg) (g0:=g0) (E:=E) (k:=i.toNat) (c:=c) (by omega) (.inr ⟨g,cg,N,rfl,hB⟩) de hvb oc hr fb hE.symm h9 (fun b h=>by simp[sR]at h;exact(lq b).2 h.symm) (fun b h o=>by rw[(lq b).1 h];exact gr o);rw[<- hi]at this;exact this
theorem Wv {O:XH}{l:List (List AV)}{i:Int}(h0:0<=i)(h1:i+1<=l.length)(h9:l.length<=900)(fb:kD 2 l=true):
  MD Tryz.prog O 66 [.undef,.sl false l,.int .i64 i,.int .i64 (i+1)] (some (.int .i64 2)) (.sl false (l.take i.toNat++l.drop (i+1).toNat),none):=by
 unfold MD;refine(?_:cK _ _ _ _ _ _);refine⟨enters_of Tryz.func66 (by kernel_rfl) rfl,?_⟩;intro av w v0 vs g0 ld za hg;simp only[jJ]at za;obtain⟨u1,us1,rfl,ir,u2,us2,rfl,mq,rfl⟩:=za;rw[OD]at ir mq;subst ir;subst mq;have hi:i=(i.toNat:Int):=by omega
 rcases Oo hg fb h9 with⟨rfl,_⟩|⟨_,E,g,cg,N,hE,rfl,lq,gr,hr,hB⟩
 ·simp at h1;omega
 ·have:=Jw (k:=i.toNat) (by omega) hB hr fb hE.symm h9 lq gr;rw[<- hi]at this;rw[show(i+1).toNat=i.toNat+1 from by omega];exact this
end
section
open Go Go.Shelf Go.RowKit
def r8:Go.Shelf.Ren:=⟨fun|171=>39|243=>72|246=>73|283=>103|284=>104|285=>105|286=>106|129=>133|317=>132|318=>134|319=>135|320=>136|337=>147|338=>148|n=>n,fun|3=>3|9=>9|2=>2|4=>4|171=>160|0=>0|53=>161|37=>131|5=>5|173=>164|212=>184|51=>185|20=>20|213=>186|46=>187|232=>207|233=>208|n=>n,fun|17=>0|18=>2|19=>3|n=>n⟩
theorem lays171:Lays.n171 Tryz.prog r8 where
 mixed:=by kernel_rfl
 f129:=Tryz.func133.trans (congrArg some (by kernel_rfl))
 f171:=Tryz.func39.trans (congrArg some (by kernel_rfl))
 f243:=Tryz.func72.trans (congrArg some (by kernel_rfl))
 f246:=Tryz.func73.trans (congrArg some (by kernel_rfl))
 f283:=Tryz.func103.trans (congrArg some (by kernel_rfl))
 f284:=Tryz.func104.trans (congrArg some (by kernel_rfl))
 f285:=Tryz.func105.trans (congrArg some (by kernel_rfl))
 f286:=Tryz.func106.trans (congrArg some (by kernel_rfl))
 f317:=Tryz.func132.trans (congrArg some (by kernel_rfl))
 f318:=Tryz.func134.trans (congrArg some (by kernel_rfl))
 f319:=Tryz.func135.trans (congrArg some (by kernel_rfl))
 f320:=Tryz.func136.trans (congrArg some (by kernel_rfl))
 f337:=Tryz.func147.trans (congrArg some (by kernel_rfl))
 f338:=Tryz.func148.trans (congrArg some (by kernel_rfl))
 t0:=Tryz.underlying0
 a0:=Tryz.isAgg0
 z0:=Tryz.sizeOf0
 v0:=Tryz.zeroValue0
 t2:=Tryz.underlying2
 a2:=Tryz.isAgg2
 z2:=Tryz.sizeOf2
 v2:=Tryz.zeroValue2
 t3:=Tryz.underlying3
 a3:=Tryz.isAgg3
 z3:=Tryz.sizeOf3
 v3:=Tryz.zeroValue3
 t4:=Tryz.underlying4
 a4:=Tryz.isAgg4
 z4:=Tryz.sizeOf4
 v4:=Tryz.zeroValue4
 t5:=Tryz.underlying5
 a5:=Tryz.isAgg5
 z5:=Tryz.sizeOf5
 v5:=Tryz.zeroValue5
 t9:=Tryz.underlying9
 a9:=Tryz.isAgg9
 z9:=Tryz.sizeOf9
 v9:=Tryz.zeroValue9
 t20:=Tryz.underlying20
 a20:=Tryz.isAgg20
 z20:=Tryz.sizeOf20
 v20:=Tryz.zeroValue20
 t37:=Tryz.underlying131
 a37:=Tryz.isAgg131
 z37:=Tryz.sizeOf131
 v37:=Tryz.zeroValue131
 t46:=Tryz.underlying187
 a46:=Tryz.isAgg187
 z46:=Tryz.sizeOf187
 v46:=Tryz.zeroValue187
 t51:=Tryz.underlying185
 a51:=Tryz.isAgg185
 z51:=Tryz.sizeOf185
 v51:=Tryz.zeroValue185
 t53:=Tryz.underlying161
 a53:=Tryz.isAgg161
 z53:=Tryz.sizeOf161
 v53:=Tryz.zeroValue161
 t171:=Tryz.underlying160
 a171:=Tryz.isAgg160
 z171:=Tryz.sizeOf160
 v171:=Tryz.zeroValue160
 t173:=Tryz.underlying164
 a173:=Tryz.isAgg164
 z173:=Tryz.sizeOf164
 v173:=Tryz.zeroValue164
 t212:=Tryz.underlying184
 a212:=Tryz.isAgg184
 z212:=Tryz.sizeOf184
 v212:=Tryz.zeroValue184
 t213:=Tryz.underlying186
 a213:=Tryz.isAgg186
 z213:=Tryz.sizeOf186
 t232:=Tryz.underlying207
 a232:=Tryz.isAgg207
 z232:=Tryz.sizeOf207
 v232:=Tryz.zeroValue207
 t233:=Tryz.underlying208
 a233:=Tryz.isAgg208
 z233:=Tryz.sizeOf208
 v233:=Tryz.zeroValue208
 g17:=by kernel_rfl
 g18:=by kernel_rfl
 g19:=by kernel_rfl
def fY:Go.Shelf.Ren:=⟨fun|156=>43|165=>75|166=>76|169=>77|240=>107|241=>108|276=>137|277=>138|n=>n,fun|31=>96|9=>9|3=>3|4=>4|0=>0|20=>20|72=>133|76=>137|70=>130|37=>131|75=>136|127=>166|164=>189|5=>5|80=>139|n=>n,fun|n=>n⟩
theorem Ui:Lays.n156 Tryz.prog fY where
 mixed:=by kernel_rfl
 f156:=Tryz.func43.trans (congrArg some (by kernel_rfl))
 f165:=Tryz.func75.trans (congrArg some (by kernel_rfl))
 f166:=Tryz.func76.trans (congrArg some (by kernel_rfl))
 f169:=Tryz.func77.trans (congrArg some (by kernel_rfl))
 f240:=Tryz.func107.trans (congrArg some (by kernel_rfl))
 f241:=Tryz.func108.trans (congrArg some (by kernel_rfl))
 f276:=Tryz.func137.trans (congrArg some (by kernel_rfl))
 f277:=Tryz.func138.trans (congrArg some (by kernel_rfl))
 t0:=Tryz.underlying0
 a0:=Tryz.isAgg0
 z0:=Tryz.sizeOf0
 v0:=Tryz.zeroValue0
 t3:=Tryz.underlying3
 a3:=Tryz.isAgg3
 z3:=Tryz.sizeOf3
 v3:=Tryz.zeroValue3
 t4:=Tryz.underlying4
 a4:=Tryz.isAgg4
 z4:=Tryz.sizeOf4
 v4:=Tryz.zeroValue4
 t9:=Tryz.underlying9
 a9:=Tryz.isAgg9
 z9:=Tryz.sizeOf9
 v9:=Tryz.zeroValue9
 t20:=Tryz.underlying20
 a20:=Tryz.isAgg20
 z20:=Tryz.sizeOf20
 v20:=Tryz.zeroValue20
 t31:=Tryz.underlying96
 a31:=Tryz.isAgg96
 z31:=Tryz.sizeOf96
 v31:=Tryz.zeroValue96
 t37:=Tryz.underlying131
 a37:=Tryz.isAgg131
 z37:=Tryz.sizeOf131
 v37:=Tryz.zeroValue131
 t70:=Tryz.underlying130
 a70:=Tryz.isAgg130
 z70:=Tryz.sizeOf130
 v70:=Tryz.zeroValue130
 t72:=Tryz.underlying133
 a72:=Tryz.isAgg133
 z72:=Tryz.sizeOf133
 v72:=Tryz.zeroValue133
 t75:=Tryz.underlying136
 a75:=Tryz.isAgg136
 z75:=Tryz.sizeOf136
 v75:=Tryz.zeroValue136
 t76:=Tryz.underlying137
 a76:=Tryz.isAgg137
 z76:=Tryz.sizeOf137
 v76:=Tryz.zeroValue137
 t127:=Tryz.underlying166
 a127:=Tryz.isAgg166
 z127:=Tryz.sizeOf166
 v127:=Tryz.zeroValue166
 t164:=Tryz.underlying189
 a164:=Tryz.isAgg189
 z164:=Tryz.sizeOf189
 v164:=Tryz.zeroValue189
theorem joinX:Builder.Extra Tryz.prog fY where
 sizeBuilder:=by kernel_rfl
 liesBuilder:=by kernel_rfl
 t5:=Tryz.underlying5
 a5:=Tryz.isAgg5
 z5:=Tryz.sizeOf5
 v5:=Tryz.zeroValue5
 infoByte:=by kernel_rfl
 cellsByte:=by kernel_rfl
 sizeByte:=by kernel_rfl
 neB5:=by decide
theorem Fq (i:Nat)(hi:i<100)(w:World):
  Calls Tryz.prog 39 #[.int .i64 i] w fun e w'=>e=.returned (.string ⟨(Lib.decDigits i).toArray⟩)/\w'=w:=Any.strconv_Itoa_small lays171 i hi w
theorem Ws (a:Option Addr)(c:Nat)(sep:ByteArray)(w:World):
  Calls Tryz.prog 43 #[.slice a 0 c,.string sep] w fun e w'=>e=.returned (.string ⟨#[]⟩)/\w'=w:=Any.strings_Join_none Ui joinX a c sep w
theorem Ml (bk o c:Nat)(xs:List ByteArray)(sep:ByteArray)(w:World)
  (hcells:∀(j:Nat) x,xs[j]?=some x->w.cell? ⟨bk,o+j,none⟩=some (.string x))
  (hbk:bk<w.heap.size) (hN:xs.length<=140737488355328) (cf:xs.length<=c)
  (da:(Lib.join (xs.map (·.data.toList)) sep.data.toList).length<=140737488355328) :
  Calls Tryz.prog 43 #[.slice (some ⟨bk,o,none⟩) xs.length c,.string sep] w fun e w'=>e=.returned (.string ⟨(Lib.join (xs.map (·.data.toList)) sep.data.toList).toArray⟩)/\Below w.heap.size w w':=Any.strings_Join Ui joinX bk o c xs sep w hcells hbk hN cf da
end
section
open Go Go.RowKit
theorem Hl (sep:List UInt8):∀xs:List (List UInt8),jnB sep xs=Lib.join xs sep
 | []=>rfl
 | [x]=>(Lib.join_one x sep).symm
 |x::y::r=>by
  show x++sep++jnB sep (y::r)=_;rw[Hl sep (y::r),Lib.join_cons,Lib.join_cons];simp[Lib.joinTail,yx]
theorem itoa_ok {O:XH}{n:Int}(h0:0<=n)(h1:n<100):MD Tryz.prog O 39 [.int .i64 n] none (.str ⟨(if n<10 then [UInt8.ofNat (48+n.toNat)]else [UInt8.ofNat (48+n.toNat / 10),UInt8.ofNat (48+n.toNat%10)]).toArray⟩,none):=by
 refine(MD.of rfl).2 ⟨enters_of Tryz.func39 (by kernel_rfl) rfl,?_⟩;intro av w vs ld za;simp only[jJ]at za;obtain⟨u,us,rfl,hu,rfl⟩:=za;rw[OD]at hu;subst hu;have:=Fq n.toNat (by omega) w;rw[show((n.toNat:Nat):Int)=n from by omega]at this;refine this.mono ?_;rintro e w' ⟨rfl,rfl⟩;refine⟨_,rfl,?_,Below.refl _ _⟩;simp only[ZG];congr 3;by_cases h:n<10
 ·rw[if_pos h,Lib.decDigits_one (by omega)]
 ·rw[if_neg h,Lib.decDigits_two (by omega) (by omega)]
theorem bY {av:Av}{w:World}:∀{l:List (List AV)}{xs:List (List UInt8)}{us:List Value},T2 l=some xs->eE av w l.flatten us->us=xs.map (fun x=>.string ⟨x.toArray⟩)/\l.length=xs.length
 | [],xs,us,h,hr=>by
  injection h with h;subst h;exact⟨hr,rfl⟩
 |c::r,xs,us,h,hr=>by
  unfold T2 at h;split at h
  ·rename_i e;cases e
  ·rename_i x r' e;injection e with e1 e2;subst e1;subst e2;obtain⟨ys,hy,h⟩:=yq.1 h;subst h;obtain⟨u,gb,rfl,hu,_,hr⟩:=hr;obtain⟨h1,h2⟩:=bY hy hr;subst h1;simp only[ZG]at hu;subst hu;exact⟨by simp,by simp[h2]⟩
  ·cases h
theorem join_ok {O:XH}{l:List (List AV)}{s:ByteArray}{xs:List (List UInt8)}(hx:T2 l=some xs)(hl:l.length<=1000)(h47:(jnB s.data.toList xs).length<=140737488355328):MD Tryz.prog O 43 [.sl false l,.str s] none (.str ⟨(jnB s.data.toList xs).toArray⟩,none):=by
 refine(MD.of rfl).2 ⟨enters_of Tryz.func43 (by kernel_rfl) rfl,?_⟩;intro av w vs ld za;simp only[jJ]at za;obtain⟨u1,us1,rfl,ir,u2,us2,rfl,mq,rfl⟩:=za;rw[NI]at mq;subst mq;rw[FG]at ir;simp only[ZG]at ir;obtain⟨A,c,rfl,hc,_,_,hs⟩:=ir;rw[Hl]at h47 ⊢;cases l with
 |nil =>
  injection hx with hx;subst hx;refine(Ws A c s w).mono ?_;rintro e w' ⟨rfl,rfl⟩;exact⟨_,rfl,rfl,Below.refl _ _⟩
 |cons d l =>
  obtain⟨bk,o,rfl,ja⟩:=(hs trivial).2 (by simp);rw[XG]at ja;obtain⟨us,hr,jc⟩:=LL ja;obtain⟨h1,h2⟩:=bY hx hr;subst h1;have hd:(xs.map (fun x=>(⟨x.toArray⟩:ByteArray))).map (·.data.toList)=xs:=by simp[Function.comp_def]
  have ge:∀(j:Nat) x,(xs.map (fun x=>(⟨x.toArray⟩:ByteArray)))[j]?=some x->w.cell? ⟨bk,o+j,none⟩=some (.string x):=fun j x hj=>by
   refine(jc j (.string x) ?_).1;rw[yk]at hj ⊢;obtain⟨y,hy,rfl⟩:=yq.1 hj;rw[hy];rfl
  have gc:0<xs.length:=by rw[<- h2];simp
  obtain⟨x0,I9⟩:∃x0,(xs.map (fun x=>(⟨x.toArray⟩:ByteArray)))[0]?=some x0:=⟨_,yf (by simpa using gc)⟩;have hbk:bk<w.heap.size:=by
   have h:=ge 0 x0 I9;obtain⟨cc,ty,fz,h,_⟩:=IQ h;exact sD h
  have:=Ml bk o c (xs.map fun x=>⟨x.toArray⟩) s w ge hbk (by simp;omega) (by simp;omega) (by rw[hd];exact h47);rw[hd,yc,<- h2]at this;refine this.mono ?_;rintro e w' ⟨rfl,hb⟩;exact⟨_,rfl,rfl,hb⟩
theorem insE_ok {z:Nat}{args:List AV}{r:RV}(h:Xa z args=some r):∃b l i x,args=[.undef,.sl b l,.int .i64 i,.sl false [x]]/\r=(.sl false (l.take i.toNat++x::l.drop i.toNat),none)/\0<=i/\i<=l.length/\l.length<=900/\kD z (x::l)=true:=by
 unfold Xa at h;split at h
 ·rename_i b l i x;split at h
  ·rename_i hc;injection h with h;exact⟨b,l,i,x,rfl,h.symm,hc.1,hc.2.1,hc.2.2.1,hc.2.2.2.1⟩
  ·cases h
 ·cases h
theorem delE_ok {z:Nat}{args:List AV}{r:RV}(h:Xp z args=some r):∃l i,args=[.undef,.sl false l,.int .i64 i,.int .i64 (i+1)]/\r=(.sl false (l.take i.toNat++l.drop (i+1).toNat),none)/\0<=i/\i+1<=l.length/\l.length<=900/\kD z l=true:=by
 unfold Xp at h;split at h
 ·rename_i l i j;split at h
  ·rename_i hc;injection h with h;obtain⟨h1,rfl,h3,h4,h5⟩:=hc;exact⟨l,i,rfl,h.symm,h1,h3,h4,h5⟩
  ·cases h
 ·cases h
theorem Ia {O:XH}(f:FuncId)(args:List AV)(S:Option AV)(r:RV)(h:uD f args S=some r):MD Tryz.prog O f args S r:=by
  unfold uD at h
  repeat' split at h
  all_goals first
    |(subst_vars;obtain⟨b,l,i,x,rfl,rfl,h0,h1,h2,h3⟩:=insE_ok h;first|exact Ux h0 h1 h2 h3|exact Tv h0 h1 h2 h3)
    |(subst_vars;obtain⟨l,i,rfl,rfl,h0,h1,h2,h3⟩:=delE_ok h;first|exact Qx h0 h1 h2 h3|exact Wv h0 h1 h2 h3)
    |exact AW f args S r h
    | (subst_vars
       unfold itoaE at h;split at h
       · split at h
         · rename_i hc
           injection h with h;subst h;exact itoa_ok hc.1 hc.2
         · cases h
       · cases h)
    | (subst_vars
       unfold jnE at h;split at h
       · obtain ⟨xs,hx,h⟩:=yh.1 h
         split at h
         · rename_i hc
           injection h with h;subst h;exact join_ok hx hc.1 hc.2
         · cases h
       · cases h)
    |cases h
end
section
open Go Go.RowKit
theorem d6:Tryz.prog.follows .mixedOrders=true:=by kernel_rfl
theorem bld_evo {f:FuncId}{args:List AV}{S:Option AV}{r:RV}(h:ZC f args S=some r):uD f args S=some r:=by
  have h':=h;unfold ZC at h
  first
  |(cases h;done)
  | (unfold uD
     split at h
     · rename_i e;subst e;exact h'
     · split at h
       · rename_i e;subst e;exact h'
       · cases h)
theorem RZ {f:Nat}{args:List AV}{S:Option AV}{r:RV}(h:sF MC ZC f args S=some r):sF MC uD f args S=some r:=Rk (fun _ _ _ _ h=>bld_evo h) h
theorem eQ {O:XH}{f:FuncId}(h1:sF MC ZC f [.undef,.sl true []] none=some (.sl true [],none))(h2:sF MC ZC f [.undef,.bl []] none=some (.sl false [],none)):MD Tryz.prog O f [.undef,.sl false []] none (.sl false [],none):=by
 have k1:=MD.own (O:=O) (args:=[.sl true []]) rfl (dV d6 A5 AW h1);have k2:=MD.own (O:=O) (args:=[.bl []]) rfl (dV d6 A5 AW h2);unfold MD;refine(?_:cK _ _ _ _ _ _);refine⟨k1.1,?_⟩;intro av w vs ld za;simp only[jJ]at za;obtain⟨u,us,rfl,hu,rfl⟩:=za;rw[FG]at hu;simp only[ZG]at hu;obtain⟨A,c,rfl,_,_,_,hs⟩:=hu;cases A with
 |none =>
  obtain rfl:c=0:=(hs trivial).1 rfl;refine(k1.2 av w [_] ld ⟨_,_,rfl,(FG).2 ?_,rfl⟩).mono ?_
  ·simp only[ZG];exact⟨none,0,rfl,by simp,by simp,fun _=>⟨rfl,rfl,rfl⟩,(fun h=>by cases h)⟩
  ·rintro e w' ⟨v,rfl,hv,hb⟩;refine⟨v,rfl,?_,hb⟩;rw[if_pos (by rfl)]at hv ⊢;refine⟨?_,hv.2⟩;replace hv:=hv.1;simp only[ZG]at hv ⊢;obtain⟨A',c',rfl,_,_,hn,_⟩:=hv;obtain⟨rfl,_,rfl⟩:=hn trivial;exact⟨none,0,rfl,by simp,by simp,(fun h=>by cases h),fun _=>⟨fun _=>rfl,fun h=>absurd h (by simp)⟩⟩
 |some a =>
  refine(k2.2 av w [_] ld ⟨_,_,rfl,?_,rfl⟩).mono ?_
  ·simp only[WD];exact⟨a,c,rfl,by simp,by simp,fun h=>absurd h (by simp)⟩
  ·rintro e w' ⟨v,rfl,hv,hb⟩;exact⟨v,rfl,hv,hb⟩
theorem Pu:sF MC ZC 54 [.undef,.sl true []] none=some (.sl true [],none):=by
 refine MF uE rfl rfl ?_;simp[uE,-J,-yb,-y9,y0,FM,NH,LY,tE,bJ]
theorem clo_ty2:sF MC ZC 54 [.undef,.bl []] none=some (.sl false [],none):=by
 refine MF uE rfl rfl ?_;have ga:∀b,pD b 0=true:=fun b=>by rw[XC];omega
 simp[uE,-J,-yb,-y9,y0,FM,NH,LY,tE,bJ,ga]
theorem Ou:sF MC ZC 55 [.undef,.sl true []] none=some (.sl true [],none):=by
 refine MF CD rfl rfl ?_;simp[CD,-J,-yb,-y9,y0,FM,NH,LY,tE,bJ]
theorem clo_sy2:sF MC ZC 55 [.undef,.bl []] none=some (.sl false [],none):=by
 refine MF CD rfl rfl ?_;have ga:∀b,pD b 0=true:=fun b=>by rw[XC];omega
 simp[CD,-J,-yb,-y9,y0,FM,NH,LY,tE,bJ,ga]
theorem Uu:sF MC ZC 56 [.undef,.sl true []] none=some (.sl true [],none):=by
 refine MF XD rfl rfl ?_;simp[XD,-J,-yb,-y9,y0,FM,NH,LY,tE,bJ]
theorem clo_me2:sF MC ZC 56 [.undef,.bl []] none=some (.sl false [],none):=by
 refine MF XD rfl rfl ?_;have ga:∀b,pD b 0=true:=fun b=>by rw[XC];omega
 simp[XD,-J,-yb,-y9,y0,FM,NH,LY,tE,bJ,ga]
theorem Au:sF MC ZC 57 [.undef,.sl true []] none=some (.sl true [],none):=by
 refine MF wE rfl rfl ?_;simp[wE,-J,-yb,-y9,y0,FM,NH,LY,tE,bJ]
theorem clo_va2:sF MC ZC 57 [.undef,.bl []] none=some (.sl false [],none):=by
 refine MF wE rfl rfl ?_;have ga:∀b,pD b 0=true:=fun b=>by rw[XC];omega
 simp[wE,-J,-yb,-y9,y0,FM,NH,LY,tE,bJ,ga]
theorem Iu:sF MC ZC 58 [.undef,.sl true []] none=some (.sl true [],none):=by
 refine MF kE rfl rfl ?_;simp[kE,-J,-yb,-y9,y0,FM,NH,LY,tE,bJ]
theorem clo_ra2:sF MC ZC 58 [.undef,.bl []] none=some (.sl false [],none):=by
 refine MF kE rfl rfl ?_;have ga:∀b,pD b 0=true:=fun b=>by rw[XC];omega
 simp[kE,-J,-yb,-y9,y0,FM,NH,LY,tE,bJ,ga]
def SV (f:FuncId):Bool:=f == 54||f == 55||f == 56||f == 57||f == 58
def rM:List AV->Option AV->Bool
 | [.undef,.sl false []],none=>true
 |_,_=>false
theorem Dq {args:List AV}{S:Option AV}(h:rM args S=true):args=[.undef,.sl false []]/\S=none:=by
 unfold rM at h;split at h
 ·exact⟨rfl,rfl⟩
 ·cases h
noncomputable def LD:sE:=fun f args S=>if(SV f&&rM args S)=true then some (.sl false [],none)else sF MC uD f args S
theorem evoX_ok {O:XH}(f:Nat)(args:List AV)(S:Option AV)(r:RV)(h:LD f args S=some r):MD Tryz.prog O f args S r:=by
 unfold LD at h;split at h
 ·rename_i hc;rw [yg] at hc;obtain ⟨hc,hn⟩:=hc;obtain ⟨rfl,rfl⟩:=Dq hn;injection h with h;subst h;simp only [SV,Bool.or_eq_true,beq_iff_eq] at hc;rcases hc with (((rfl | rfl) | rfl) | rfl) | rfl
  ·exact eQ Pu clo_ty2
  ·exact eQ Ou clo_sy2
  ·exact eQ Uu clo_me2
  ·exact eQ Au clo_va2
  ·exact eQ Iu clo_ra2
 ·exact dV d6 A5 Ia h
def aE:Nat->Option FD
 |26=>some lJ
 |25=>some HH
 |27=>some RE
 |60=>some bH
 |61=>some lH
 |64=>some zH
 |8=>some iG
 |22=>some JH
 |6=>some uK
 |9=>some GH
 |16=>some uL
 |3=>some gE
 |_=>none
theorem evoT_ok (f:Nat)(c:FD)(h:aE f=some c):gD Tryz.prog f c:=by
 unfold aE at h;split at h
 ·injection h with h;subst h;exact SR
 ·injection h with h;subst h;exact zQ
 ·injection h with h;subst h;exact lQ
 ·injection h with h;subst h;exact DR
 ·injection h with h;subst h;exact zN
 ·injection h with h;subst h;exact xN
 ·injection h with h;subst h;exact AR
 ·injection h with h;subst h;exact xQ
 ·injection h with h;subst h;exact nS
 ·injection h with h;subst h;exact kQ
 ·injection h with h;subst h;exact cO
 ·injection h with h;subst h;exact BK
 ·cases h
theorem Uk (f:Nat)(c:FD)(h:aE f=some c):c.code.sC=true:=by
 unfold aE at h;split at h<;>first|(cases h;done)|(injection h with h;subst h;kernel_rfl)
abbrev GR (f:Nat)(args:List AV)(v:AV):Prop:=sF aE LD f args none=some (v,none)
theorem ev_V {f:Nat}{args:List AV}{S:Option AV}{r:RV}(h:sF MC uD f args S=some r)(hT:aE f=none:=by rfl)(hc:SV f=false:=by rfl):sF aE LD f args S=some r:=SH hT (by unfold LD;rw[if_neg (by simp[hc])];exact h)
theorem fJ {f:Nat}{args:List AV}{v:AV}(h:BD f args v)(hT:aE f=none:=by rfl)(hc:SV f=false:=by rfl):GR f args v:=ev_V (RZ h) hT hc
theorem UH {b:C}{r:RV}(n:Nat)(I:Nat->LC->Prop)(E:Ex->LC->Prop)
  (step:∀i,i<=n->∀s k,I i s->(i<n->∀s',I (i+1) s'->HJ aE LD b s' k=some r)->(∀e s',E e s'->k e s'=some r)->HJ aE LD b s k=some r)
  (s:LC) (k:Ex->LC->Option RV) (h:I 0 s) (hk:∀e s',E e s'->k e s'=some r):HJ aE LD b s k=some r:=by
 have:∀m i,i+m=n->∀s,I i s->HJ aE LD b s k=some r:=by
  intro m
  induction m with
  |zero=>intro i hi s h;exact step i (by omega) s k h (fun ba=>absurd ba (by omega)) hk
  |succ m ih=>intro i hi s h;exact step i (by omega) s k h (fun _ s' h'=>ih (i+1) (by omega) s' h') hk
 exact this n 0 (by omega) s h
section
variable (nl:Bool) (l:List (List AV))
include nl l
theorem clo_ty (he:kD 10 l=true)(hn:nl=true->l=[])(hf:ND l=true)(hl:l.length*120<=140737488351232):sF aE LD 54 [.undef,.sl nl l] none=some (.sl nl l,none):=by
 cases l with
 |nil =>
  cases nl with
  |true=>exact SH rfl (by unfold LD;rw[if_neg (by simp[rM])];exact RZ Pu)
  |false=>exact SH rfl (by unfold LD;rw[if_pos (by rfl)])
 |cons x l =>
  cases nl with
  |true=>cases hn rfl
  |false =>
   refine SH rfl ?_;unfold LD;rw[if_neg (by simp[rM])];refine RZ ?_;refine MF uE rfl rfl ?_;have ga:pD 120 (l.length+1)=true:=by rw[XC];simp only[yG]at hl;omega
   have hr:=AE he hf;rw[yG]at hr;simp[uE,-J,-yb,-y9,y0,FM,NH,LY,tE,bJ,ga,he,hr]
theorem clo_sy (he:kD 2 l=true)(hn:nl=true->l=[])(hf:ND l=true)(hl:l.length*24<=140737488351232):sF aE LD 55 [.undef,.sl nl l] none=some (.sl nl l,none):=by
 cases l with
 |nil =>
  cases nl with
  |true=>exact SH rfl (by unfold LD;rw[if_neg (by simp[rM])];exact RZ Ou)
  |false=>exact SH rfl (by unfold LD;rw[if_pos (by rfl)])
 |cons x l =>
  cases nl with
  |true=>cases hn rfl
  |false =>
   refine SH rfl ?_;unfold LD;rw[if_neg (by simp[rM])];refine RZ ?_;refine MF CD rfl rfl ?_;have ga:pD 24 (l.length+1)=true:=by rw[XC];simp only[yG]at hl;omega
   have hr:=AE he hf;rw[yG]at hr;simp[CD,-J,-yb,-y9,y0,FM,NH,LY,tE,bJ,ga,he,hr]
theorem clo_me (he:kD 13 l=true)(hn:nl=true->l=[])(hf:ND l=true)(hl:l.length*160<=140737488351232):sF aE LD 56 [.undef,.sl nl l] none=some (.sl nl l,none):=by
 cases l with
 |nil =>
  cases nl with
  |true=>exact SH rfl (by unfold LD;rw[if_neg (by simp[rM])];exact RZ Uu)
  |false=>exact SH rfl (by unfold LD;rw[if_pos (by rfl)])
 |cons x l =>
  cases nl with
  |true=>cases hn rfl
  |false =>
   refine SH rfl ?_;unfold LD;rw[if_neg (by simp[rM])];refine RZ ?_;refine MF XD rfl rfl ?_;have ga:pD 160 (l.length+1)=true:=by rw[XC];simp only[yG]at hl;omega
   have hr:=AE he hf;rw[yG]at hr;simp[XD,-J,-yb,-y9,y0,FM,NH,LY,tE,bJ,ga,he,hr]
theorem Zh (he:kD 8 l=true)(hn:nl=true->l=[])(hf:ND l=true)(hl:l.length*120<=140737488351232):sF aE LD 57 [.undef,.sl nl l] none=some (.sl nl l,none):=by
 cases l with
 |nil =>
  cases nl with
  |true=>exact SH rfl (by unfold LD;rw[if_neg (by simp[rM])];exact RZ Au)
  |false=>exact SH rfl (by unfold LD;rw[if_pos (by rfl)])
 |cons x l =>
  cases nl with
  |true=>cases hn rfl
  |false =>
   refine SH rfl ?_;unfold LD;rw[if_neg (by simp[rM])];refine RZ ?_;refine MF wE rfl rfl ?_;have ga:pD 120 (l.length+1)=true:=by rw[XC];simp only[yG]at hl;omega
   have hr:=AE he hf;rw[yG]at hr;simp[wE,-J,-yb,-y9,y0,FM,NH,LY,tE,bJ,ga,he,hr]
theorem clo_ra (he:kD 2 l=true)(hn:nl=true->l=[])(hf:ND l=true)(hl:l.length*24<=140737488351232):sF aE LD 58 [.undef,.sl nl l] none=some (.sl nl l,none):=by
 cases l with
 |nil =>
  cases nl with
  |true=>exact SH rfl (by unfold LD;rw[if_neg (by simp[rM])];exact RZ Iu)
  |false=>exact SH rfl (by unfold LD;rw[if_pos (by rfl)])
 |cons x l =>
  cases nl with
  |true=>cases hn rfl
  |false =>
   refine SH rfl ?_;unfold LD;rw[if_neg (by simp[rM])];refine RZ ?_;refine MF kE rfl rfl ?_;have ga:pD 24 (l.length+1)=true:=by rw[XC];simp only[yG]at hl;omega
   have hr:=AE he hf;rw[yG]at hr;simp[kE,-J,-yb,-y9,y0,FM,NH,LY,tE,bJ,ga,he,hr]
end
end
mutual
/-- a value as it lies in memory: nil slices are empty; no list is longer than a slice may be -/
def Vl.lay:Vl->Prop
 |.mk _ _ _ _ _ kn ks xn xs rn rs=>(kn=true->ks=[])/\(xn=true->xs=[])/\(rn=true->rs=[])/\ks.length*120<=140737488351232/\xs.length*120<=140737488351232/\rs.length*24<=140737488351232/\Vl.lays ks/\Vl.lays xs
def Vl.lays:List Vl->Prop
 | []=>True
 |v::r=>Vl.lay v/\Vl.lays r
end
theorem Vl.CB:∀l:List Vl,Vl.lays l ↔ ∀v∈l,v.lay
 | []=>by simp[Vl.lays]
 |v::r=>by simp[Vl.lays,Vl.CB r]
theorem Vl.pC (v:Vl):v.lay↔(v.kn=true->v.keys=[])/\(v.xn=true->v.items=[])/\(v.rn=true->v.rest=[])/\v.keys.length*120<=140737488351232/\v.items.length*120<=140737488351232/\v.rest.length*24<=140737488351232/\(∀x∈v.keys,x.lay)/\∀x∈v.items,x.lay:=by
 cases v;rw[Vl.lay,Vl.CB,Vl.CB];rfl
theorem uQ (v:Vl):(WE v).all AV.tA=true:=by rw[EF];rfl
theorem wT (l:List Vl):ND (l.map WE)=true:=BH _ _ uQ
theorem i4 (l:List Eb):ND (l.map rN)=true:=BH _ _ fun _=>rfl
theorem i9 {l:List Vl}{i:Nat}{x:Vl}(h:l[i]?=some x):(l.map WE).set i (WE x)=l.map WE:=by
 obtain⟨hi,rfl⟩:=yn.1 h;refine List.ext_getElem? fun j=>?_
 rw[List.getElem?_set];split
 ·rename_i e;subst e;simp[hi]
 ·rfl
theorem jT {M:Nat->Nat->Option (List SC)}{t n:Nat}{R:List SC}(h:M t n=some R):DN M t n R=M:=by
 funext a b;rw[CC];split
 ·rename_i e;rw[e.1,e.2,h]
 ·rfl
section
variable {r:RV} {v:Vl} {R:List SC} {N:Nat} (s:LC) (e1:(s.env 1).v=.ptr 1 1 0) (e2:(s.env 2).v=.ptr 2 1 0)
include r v R N s e1 e2
theorem X9 (fu:(s.env 19).v=.int .i64 v.keys.length)(e20:(s.env 20).v=.int .i64 0)(hM1:s.mem 1 1=some R)
  (hRN:v.keys.length≠0->R[5]?=some ⟨.ref 7 N 8 0 v.keys.length v.keys.length,.no⟩/\s.mem 7 N=some (qD (v.keys.map WE))) (hl:v.keys.length*120<=140737488351232)
  (ih:∀x∈v.keys,GR 26 [.agg (WE x)] (.agg (WE x))) (k:Ex->LC->Option RV)
  (hk:∀s',(s'.env 1).v=.ptr 1 1 0->(s'.env 2).v=.ptr 2 1 0->s'.mem=s.mem->k (.exit 0) s'=some r):HJ aE LD iJ s k=some r:=by
 obtain⟨M,hM⟩:∃M,M=s.mem:=⟨_,rfl⟩;rw[<- hM]at hM1 hRN hk;have m:=hM.symm;refine UH v.keys.length (fun i s=>(s.env 1).v=.ptr 1 1 0/\(s.env 2).v=.ptr 2 1 0/\(s.env 19).v=.int .i64 v.keys.length/\(s.env 20).v=.int .i64 i/\s.mem=M)
  (fun e s=>e=.exit 0/\(s.env 1).v=.ptr 1 1 0/\(s.env 2).v=.ptr 2 1 0/\s.mem=M) (fun i hi s k h jh hk=>?_) _ _ ⟨e1,e2,fu,e20,m⟩ (fun e s h=>by obtain⟨rfl,h1,h2,h3⟩:=h;exact hk _ h1 h2 h3)
 obtain⟨env,mem,nx,obj,gh⟩:=s;obtain⟨e1,e2,fu,e20,m⟩:=h;dsimp only at e1 e2 fu e20 m;subst m;refine wD ?_;by_cases ba:i<v.keys.length
 ·obtain ⟨hR,hMN⟩:=hRN (by omega);have fa:(i:Int)<v.keys.length:=by omega
  have hw:=rE (i:=i);obtain⟨x,hx⟩:∃x,v.keys[i]?=some x:=⟨_,yf ba⟩;have g1:(v.keys.map WE)[i]?=some (WE x):=by rw[yk,hx];rfl
  have hc:=ih x (yr hx);have fb:=CS v.keys;have sv:=F1 fb g1;have sb:=OS fb (k:=i) (by simpa using ba) (O2 x) .no;rw[i9 hx]at sb;have pe:=uQ x;have jg:=jT hMN;simp only[GR]at hc;generalize ja:qD (v.keys.map WE)=row at *
  simp[iJ,-J,-yb,-y9,y0,-eD,-KC,FC,HC,JC,DC,e1,e2,fu,e20,ba,fa,hw,hM1,hR,hMN,FC,sv,pe,hc,sb,jg];exact jh ba _ ⟨by simp[e1],by simp[e2],by simp[fu],by simp,rfl⟩
 ·have fa:¬ (i:Int)<v.keys.length:=by omega
  simp[iJ,-J,-yb,-y9,y0,fu,e20,fa];exact hk _ _ ⟨rfl,by simp[e1],by simp[e2],rfl⟩
theorem W7 (e36:(s.env 36).v=.int .i64 v.items.length)(e37:(s.env 37).v=.int .i64 0)(hM1:s.mem 1 1=some R)
  (hRN:v.items.length≠0->R[6]?=some ⟨.ref 10 N 8 0 v.items.length v.items.length,.no⟩/\s.mem 10 N=some (qD (v.items.map WE))) (hl:v.items.length*120<=140737488351232)
  (ih:∀x∈v.items,GR 26 [.agg (WE x)] (.agg (WE x))) (k:Ex->LC->Option RV)
  (hk:∀s',(s'.env 1).v=.ptr 1 1 0->(s'.env 2).v=.ptr 2 1 0->s'.mem=s.mem->k (.exit 2) s'=some r):HJ aE LD uJ s k=some r:=by
 obtain⟨M,hM⟩:∃M,M=s.mem:=⟨_,rfl⟩;rw[<- hM]at hM1 hRN hk;have m:=hM.symm;refine UH v.items.length (fun i s=>(s.env 1).v=.ptr 1 1 0/\(s.env 2).v=.ptr 2 1 0/\(s.env 36).v=.int .i64 v.items.length/\(s.env 37).v=.int .i64 i/\s.mem=M)
  (fun e s=>e=.exit 2/\(s.env 1).v=.ptr 1 1 0/\(s.env 2).v=.ptr 2 1 0/\s.mem=M) (fun i hi s k h jh hk=>?_) _ _ ⟨e1,e2,e36,e37,m⟩ (fun e s h=>by obtain⟨rfl,h1,h2,h3⟩:=h;exact hk _ h1 h2 h3)
 obtain⟨env,mem,nx,obj,gh⟩:=s;obtain⟨e1,e2,e36,e37,m⟩:=h;dsimp only at e1 e2 e36 e37 m;subst m;refine wD ?_;by_cases ba:i<v.items.length
 ·obtain ⟨hR,hMN⟩:=hRN (by omega);have fa:(i:Int)<v.items.length:=by omega
  have hw:=rE (i:=i);obtain⟨x,hx⟩:∃x,v.items[i]?=some x:=⟨_,yf ba⟩;have g1:(v.items.map WE)[i]?=some (WE x):=by rw[yk,hx];rfl
  have hc:=ih x (yr hx);have fb:=CS v.items;have sv:=F1 fb g1;have sb:=OS fb (k:=i) (by simpa using ba) (O2 x) .no;rw[i9 hx]at sb;have pe:=uQ x;have jg:=jT hMN;simp only[GR]at hc;generalize ja:qD (v.items.map WE)=row at *
  simp[uJ,-J,-yb,-y9,y0,-eD,-KC,FC,HC,JC,DC,e1,e2,e36,e37,ba,fa,hw,hM1,hR,hMN,FC,sv,pe,hc,sb,jg];exact jh ba _ ⟨by simp[e1],by simp[e2],by simp[e36],by simp,rfl⟩
 ·have fa:¬ (i:Int)<v.items.length:=by omega
  simp[uJ,-J,-yb,-y9,y0,e36,e37,fa];exact hk _ _ ⟨rfl,by simp[e1],by simp[e2],rfl⟩
end
theorem jZ:∀(n:Nat)(v:Vl),SizeOf.sizeOf v<n->v.lay->GR 26 [.agg (WE v)] (.agg (WE v)):=by
 intro n
 induction n with
 |zero=>intro v h;omega
 |succ n ih =>
  intro v hn hv;rw[Vl.pC]at hv;obtain⟨k1,k2,k3,k4,k5,k6,k7,k8⟩:=hv;have ihk:∀x∈v.keys,GR 26 [.agg (WE x)] (.agg (WE x)):=fun x hx=>ih x (by have:=Vl.ZB v x hx;omega) (k7 x hx)
  have ihi:∀x∈v.items,GR 26 [.agg (WE x)] (.agg (WE x)):=fun x hx=>ih x (by have:=Vl.OB v x hx;omega) (k8 x hx)
  have c1:=Zh v.kn (v.keys.map WE) (CS _) (fun h=>by rw[k1 h];rfl) (wT _) (by simpa using k4);have c2:=Zh v.xn (v.items.map WE) (CS _) (fun h=>by rw[k2 h];rfl) (wT _) (by simpa using k5);have c3:=clo_ra v.rn (v.rest.map rN) (Ju _) (fun h=>by rw[k3 h];rfl) (i4 _) (by simpa using k6);have w1:=CS v.keys;have w2:=CS v.items;have w3:=Ju v.rest;have f1:=wT v.keys;have f2:=wT v.items;have f3:=i4 v.rest;have r1:=AE w1 f1;have r2:=AE w2 f2;have r3:=AE w3 f3;have t1:(v.keys.map WE).all (fun c=>c.all AV.tA)=true:=f1;have t2:(v.items.map WE).all (fun c=>c.all AV.tA)=true:=f2;have t3:(v.rest.map rN).all (fun c=>c.all AV.tA)=true:=f3;have z1:(v.keys.map WE).length=v.keys.length:=yc _;have z2:(v.items.map WE).length=v.items.length:=yc _;have z3:(v.rest.map rN).length=v.rest.length:=yc _;have y1:(v.keys.map WE=[])=(v.keys.length=0):=by simp
  have y2:(v.items.map WE=[])=(v.items.length=0):=by simp
  have y3:(v.rest.map rN=[])=(v.rest.length=0):=by simp
  have b1:v.keys.length≠0->v.kn=false:=fun h=>by cases hk:v.kn with|false=>rfl|true=>rw[k1 hk]at h;exact absurd rfl h
  have b2:v.items.length≠0->v.xn=false:=fun h=>by cases hk:v.xn with|false=>rfl|true=>rw[k2 hk]at h;exact absurd rfl h
  have b3:v.rest.length≠0->v.rn=false:=fun h=>by cases hk:v.rn with|false=>rfl|true=>rw[k3 hk]at h;exact absurd rfl h
  refine GJ lJ rfl rfl ?_;rw[EF];have q1:=fun(r:RV)(R:List SC)(N:Nat)=>@X9 r v R N
  have q2:=fun(r:RV)(R:List SC)(N:Nat)=>@W7 r v R N
  generalize v.keys.map WE=ks at *
  generalize v.items.map WE=xs at *
  generalize v.rest.map rN=rs at *
  by_cases h1:v.keys.length=0<;>by_cases h2:v.items.length=0<;>by_cases h3:v.rest.length=0
  all_goals
   try rw[b1 h1]at c1 ⊢
   try rw[b2 h2]at c2 ⊢
   try rw[b3 h3]at c3 ⊢
   simp[lJ,-J,-yb,-y9,y0,-eD,-KC,FC,HC,JC,DC,c1,c2,c3,w1,w2,w3,y1,y2,y3,z1,z2,z3,h1,h2,h3,FC,t1,t2,t3,-ye];refine q1 _ _ 2 _ (by simp) (by simp) (by simp[h1]) (by simp) (by rfl) (fun h=>?_) k4 ihk _ (fun s' a1 a2 a3=>?_)
   ·first|exact absurd h1 h|(refine⟨rfl,?_⟩;simp[CC])
   obtain⟨env,mem,nx,obj,gh⟩:=s';dsimp only at a1 a2 a3;subst a3;simp[-J,-yb,-y9,y0,-eD,-KC,FC,HC,JC,DC,a1,a2,CC,z1,z2,z3,h1,h2,h3,FC];refine q2 _ _ 2 _ (by simp[a1]) (by simp[a2]) (by simp[h2]) (by simp) (by rfl) (fun h=>?_) k5 ihi _ (fun s' a1 a2 a3=>?_)
   ·first|exact absurd h2 h|(refine⟨rfl,?_⟩;simp[CC])
   obtain⟨env,mem,nx,obj,gh⟩:=s';dsimp only at a1 a2 a3;subst a3;rw[z1]at r1;rw[z2]at r2;rw[z3]at r3
   try have d1:=y1.mpr h1
   try have d2:=y2.mpr h2
   try have d3:=y3.mpr h3
   try subst d1
   try subst d2
   try subst d3
   simp[-J,-yb,-y9,y0,-eD,-KC,FC,HC,JC,DC,a1,a2,CC,z1,z2,z3,h1,h2,h3,HC,DC,FC,r1,r2,r3]


end Go.Proofs.YtpmklcpajcfpjaaGreatDoor
