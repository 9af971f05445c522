/- A part of the proof. -/
import Derived.Test.YtbhbeakhognieaaGreatDoorWc
import Derived.Laws.CopyRow
import Derived.Lib.AppendZerosOnto
import Derived.Deep.RegionWith
import Derived.Deep.RegionHeld3
import Derived.BigQuiet
import Derived.Lib.Overlaps
import Derived.Laws.Externs
import Derived.Shelf.Strconv.Itoa3
import Derived.Shelf.Strings.OnBuilder
import Derived.Test.YtbhbeakhognieaaGreatDoorProg
set_option linter.all false
set_option maxRecDepth 100000
set_option maxHeartbeats 8000000
open Option renaming bind_some → J, bind_eq_some_iff → y7, map_eq_some_iff → yf, map_some → yp
open List renaming range_succ → y0, map_map → y5, all_eq_true → y8, length_map → y9, length_append → yb, getElem?_eq_getElem → yg, getElem?_map → yh, drop_eq_nil_of_le → yj, drop_eq_getElem_cons → yk, append_assoc → yl, length_take → ym, getElem?_eq_some_iff → yq, length_drop → yr, append_nil → yt, map_cons → yu, getElem?_drop → yw, getElem_mem → yx, flatten_cons → yy, getElem?_take → yz, length_cons → yD, size_toArray → yF, mem_append → yI, getElem?_append_right → yJ, getElem?_append_left → yL, eq_nil_of_length_eq_zero → yN, take_append_drop → yR, take_append_getElem → yS
open Int renaming toNat_lt → y6
open Bool renaming and_eq_true → yc
open Nat renaming le_refl → ye, zero_add → yn, eq_zero_or_pos → yH, mul_le_mul_right → yO
open Array renaming length_toList → yG
namespace Go.Proofs.YtbhbeakhognieaaGreatDoor
open Go
structure p8 where
 id:Int
 data:ByteArray
 deriving DecidableEq
inductive Vl where
 | mk (kind:Int) (b:Bool) (i:Int) (s:ByteArray) (id:Int) (kn:Bool) (keys:List Vl) (xn:Bool) (items:List Vl) (rn:Bool) (rest:List p8)
namespace Vl
def kind:Vl->Int | .mk k _ _ _ _ _ _ _ _ _ _=>k
def b:Vl->Bool | .mk _ b _ _ _ _ _ _ _ _ _=>b
def i:Vl->Int | .mk _ _ i _ _ _ _ _ _ _ _=>i
def s:Vl->ByteArray | .mk _ _ _ s _ _ _ _ _ _ _=>s
def id:Vl->Int | .mk _ _ _ _ d _ _ _ _ _ _=>d
def kn:Vl->Bool | .mk _ _ _ _ _ k _ _ _ _ _=>k
def keys:Vl->List Vl | .mk _ _ _ _ _ _ l _ _ _ _=>l
def xn:Vl->Bool | .mk _ _ _ _ _ _ _ x _ _ _=>x
def items:Vl->List Vl | .mk _ _ _ _ _ _ _ _ l _ _=>l
def rn:Vl->Bool | .mk _ _ _ _ _ _ _ _ _ r _=>r
def rest:Vl->List p8 | .mk _ _ _ _ _ _ _ _ _ _ l=>l
theorem keys_lt (v x:Vl) (h:x∈v.keys):SizeOf.sizeOf x<SizeOf.sizeOf v:=by
 cases v;have:=List.sizeOf_lt_of_mem h;simp only [keys] at this;simp only [mk.sizeOf_spec];omega
theorem items_lt (v x:Vl) (h:x∈v.items):SizeOf.sizeOf x<SizeOf.sizeOf v:=by
 cases v;have:=List.sizeOf_lt_of_mem h;simp only [items] at this;simp only [mk.sizeOf_spec];omega
end Vl
def zG (r:p8):List AV:=[.int .i64 r.id,.str r.data]
mutual
def eB:Vl->List AV
 | .mk k b i s d kn ks xn xs rn rs=>[.int .i64 k,.bool b,.int .i64 i,.str s,.int .i64 d,.sl kn (zX ks),.sl xn (zX xs),.sl rn (rs.map zG)]
def zX:List Vl->List (List AV)
 | []=>[]
 | v :: r=>eB v :: zX r
end
theorem cS:∀ l:List Vl,zX l=l.map eB
 | []=>by rw [zX]; rfl
 | v :: r=>by rw [zX,cS r]; rfl
theorem dB (v:Vl):eB v=[.int .i64 v.kind,.bool v.b,.int .i64 v.i,.str v.s,.int .i64 v.id,.sl v.kn (v.keys.map eB),.sl v.xn (v.items.map eB),.sl v.rn (v.rest.map zG)]:=by
 cases v;rw [eB,cS,cS];rfl
mutual
/-- lengths that occur -/
def Vl.ok:Vl->Prop
 | .mk _ _ _ s _ _ ks _ xs _ rs=>ks.length<=9223372036854775807/\xs.length<=9223372036854775807/\rs.length<=9223372036854775807/\s.size<=9223372036854775807/\Vl.oks ks/\Vl.oks xs
def Vl.oks:List Vl->Prop
 | []=>True
 | v :: r=>Vl.ok v/\Vl.oks r
end
theorem Vl.oks_iff:∀ l:List Vl,Vl.oks l ↔ ∀ v∈l,v.ok
 | []=>by simp [Vl.oks]
 | v :: r=>by simp [Vl.oks,Vl.oks_iff r]
theorem Vl.ok_def (v:Vl):v.ok ↔ v.keys.length<=9223372036854775807/\v.items.length<=9223372036854775807/\v.rest.length<=9223372036854775807/\v.s.size<=9223372036854775807/\(∀ x∈v.keys,x.ok)/\∀ x∈v.items,x.ok:=by
 cases v;rw [Vl.ok,Vl.oks_iff,Vl.oks_iff];rfl
def Vl.zero:Vl:=.mk 0 false 0 ⟨#[]⟩ 0 true [] true [] true []
structure AM where
 id:Int
 name:ByteArray
 deriving DecidableEq
def FA (x:AM):List AV:=[.int .i64 x.id,.str x.name]
structure EE where
 id:Int
 name:ByteArray
 ty:Int
 crit:Bool
 has:Bool
 dflt:Vl
def WA (m:EE):List AV:=[.int .i64 m.id,.str m.name,.int .i64 m.ty,.bool m.crit,.bool m.has,.int .i64 m.dflt.kind,.bool m.dflt.b,.int .i64 m.dflt.i,.str m.dflt.s,.int .i64 m.dflt.id,.sl m.dflt.kn (m.dflt.keys.map eB),.sl m.dflt.xn (m.dflt.items.map eB),.sl m.dflt.rn (m.dflt.rest.map zG)]
structure XA where
 kind:Int
 name:ByteArray
 low:Int
 high:Int
 max:Int
 sn:Bool
 syms:List AM
 mn:Bool
 mems:List EE
 key:Int
 elem:Int
 opn:Bool
def qA (t:XA):List AV:=[.int .i64 t.kind,.str t.name,.int .i64 t.low,.int .i64 t.high,.int .i64 t.max,.sl t.sn (t.syms.map FA),.sl t.mn (t.mems.map WA),.int .i64 t.key,.int .i64 t.elem,.bool t.opn]
structure ZV where
 nl:Bool
 types:List XA
def tG (s:ZV):List AV:=[.sl s.nl (s.types.map qA)]
def EE.ok (m:EE):Prop:=m.dflt.ok/\m.name.size<=9223372036854775807
def XA.ok (t:XA):Prop:=t.syms.length<=9223372036854775807/\t.mems.length<=9223372036854775807/\∀ m∈t.mems,m.ok
def ZV.ok (s:ZV):Prop:=s.types.length<=9223372036854775807/\∀ t∈s.types,t.ok
theorem mB {i:Nat} (h:i<9223372036854775807:=by omega):IntKind.i64.wrap ((i:Int) + 1)=((i + 1:Nat):Int):=by
 rw [IntWalk.i64_in _ (by omega)]; rfl
theorem JV (v:Vl):(eB v).length=8:=by rw [dB]; rfl
theorem ON (l:List Vl):OA 8 (l.map eB)=true:=UD _ _ _ JV
theorem P5 (l:List p8):OA 2 (l.map zG)=true:=UD _ _ _ fun _=>rfl
theorem cA {f:Nat} {c:RA} {args:List AV} {r:RV} (hT:lA f=some c) (hl:args.length=c.np) (h:c.code.run (WF lA zA) (SO lA zA) (uA.init args none) (xU c none)=some r) (hm:sE args=false:=by rfl):WF lA zA f args none=some r:=TK c hT hl h hm
abbrev wB (f:Nat) (args:List AV) (v:AV):Prop:=WF lA zA f args none=some (v,none)
def DO (x:Int):Bool:=decide (x=95)||(decide (97<=x)&&decide (x<=122))||(decide (65<=x)&&decide (x<=90))
def RU (x:Int):Bool:=decide (48<=x)&&decide (x<=57)
def zE (s:ByteArray):Nat->Nat->Bool
 | 0,_=>true
 | n + 1,i=>(match s[i]? with | some u=>DO u.toNat||RU u.toNat | none=>false)&&zE s n (i + 1)
def CE (s:ByteArray):Bool:=decide (s.size≠0)&&decide (s.size<=24)&&(match s[0]? with | some u=>DO u.toNat | none=>false)&&zE s s.size 0
theorem uX (x:Int):wB 140 [.int .u8 x] (.bool (DO x)):=by
 refine cA (c:=fF) rfl rfl ?_;unfold DO;by_cases h1:x=95 <;> by_cases h2:97<=x <;> by_cases h3:65<=x <;> by_cases h4:x<=122 <;> by_cases h5:x<=90 <;> simp [fF,-J,ZA,y0,h1,h2,h3,h4,h5]
theorem P9 (x:Int):wB 141 [.int .u8 x] (.bool (RU x)):=by
 refine cA (c:=FF) rfl rfl ?_;unfold RU;by_cases h1:48<=x <;> simp [FF,-J,ZA,y0,h1]
theorem QV (x:Int):wB 150 [.int .u8 x] (.bool (DO x)):=by
 refine cA (c:=nG) rfl rfl ?_;unfold DO;by_cases h1:x=95 <;> by_cases h2:97<=x <;> by_cases h3:65<=x <;> by_cases h4:x<=122 <;> by_cases h5:x<=90 <;> simp [nG,-J,ZA,y0,h1,h2,h3,h4,h5]
theorem A7 (x:Int):wB 151 [.int .u8 x] (.bool (RU x)):=by
 refine cA (c:=zH) rfl rfl ?_;unfold RU;by_cases h1:48<=x <;> simp [zH,-J,ZA,y0,h1]
theorem UN {s:ByteArray} {i:Nat} (h:i<s.size):∃ u,s[i]?=some u:=⟨s[i],getElem?_pos s i h⟩
theorem name_lp (s:ByteArray) (hs:s.size<=24) (r:RV) (k:Ex->uA->Option RV) (hk:∀ s',zE s s.size 0=true->k (.exit 0) s'=some r) (hr:∀ s':uA,zE s s.size 0=false->(s'.env 2).v=.bool false->k .ret s'=some r) :
  ∀ (n i:Nat),i + n=s.size->zE s n i=zE s s.size 0->∀ s':uA,(s'.env 0).v=.str s->(s'.env 18).v=.int .i64 s.size->(s'.env 19).v=.int .i64 i->CF lA zA wD s' k=some r:=by
 intro n
 induction n with
 | zero =>
  intro i hi hf s' e0 xu cm;have ia:¬ ((i:Int)<s.size):=by omega
  refine aA ?_;simp [wD,-J,ZA,y0,e0,xu,cm,ia];exact hk _ (by rw [<- hf]; rfl)
 | succ n ih =>
  intro i hi hf s' e0 xu cm;have ia:(i:Int)<s.size:=by omega
  obtain ⟨u,hu⟩:=UN (s:=s) (i:=i) (by omega);have hw:=mB (i:=i);have h1:=uX u.toNat;have h2:=P9 u.toNat;simp only [zE,hu] at hf;refine aA ?_;cases b1:DO u.toNat with
  | true =>
   simp only [b1] at h1 hf;simp [wD,-J,ZA,y0,e0,xu,cm,ia,hu,h1,hw];refine ih (i + 1) (by omega) (by simpa using hf) _ ?_ ?_ ?_ <;> simp [*]
  | false =>
   cases b2:RU u.toNat with
   | true =>
    simp only [b1,b2] at h1 h2 hf;simp [wD,-J,ZA,y0,e0,xu,cm,ia,hu,h1,h2,hw];refine ih (i + 1) (by omega) (by simpa using hf) _ ?_ ?_ ?_ <;> simp [*]
   | false =>
    simp only [b1,b2] at h1 h2 hf;simp [wD,-J,ZA,y0,e0,xu,cm,ia,hu,h1,h2,hw];refine hr _ (by simpa using hf.symm) ?_;simp
theorem q6 (s:ByteArray):wB 101 [.str s] (.bool (CE s)):=by
 refine cA (c:=zD) rfl rfl ?_;unfold CE;by_cases h0:s=⟨#[]⟩
 ·subst h0;simp [zD,-J,ZA,y0];exact fun h=>absurd rfl h
 ·have hz:s.size≠0:=fun h=>h0 (by
   obtain ⟨d⟩:=s;have h:d.size=0:=h;rw [Array.eq_empty_of_size_eq_zero h])
  by_cases h1:s.size<=24
  ·have ol:¬ ((24:Int)<s.size):=by omega
   obtain ⟨u,hu⟩:=UN (s:=s) (i:=0) (by omega);have h2:=uX u.toNat;cases b1:DO u.toNat with
   | false =>
    simp only [b1] at h2;simp [zD,-J,ZA,y0,h0,ol,hu,h2,b1]
   | true =>
    simp only [b1] at h2;simp [zD,-J,ZA,y0,h0,ol,hu,h2,b1,hz,h1];refine name_lp s h1 _ _ (fun s' hf=>?main) (fun s' hf h2=>?main2) s.size 0 (by simp) rfl _ ?_ ?_ ?_
    case main=>simp [-J,ZA,y0,hf]
    case main2=>simp [-J,ZA,y0,hf,h2]
    all_goals simp
  ·have ol:(24:Int)<s.size:=by omega
   simp [zD,-J,ZA,y0,h0,ol,h1]
theorem rname_lp (s:ByteArray) (hs:s.size<=24) (r:RV) (k:Ex->uA->Option RV) (hk:∀ s',zE s s.size 0=true->k (.exit 0) s'=some r) (hr:∀ s':uA,zE s s.size 0=false->(s'.env 2).v=.bool false->k .ret s'=some r) :
  ∀ (n i:Nat),i + n=s.size->zE s n i=zE s s.size 0->∀ s':uA,(s'.env 0).v=.str s->(s'.env 3).v=.int .i64 i->CF lA zA eD s' k=some r:=by
 intro n
 induction n with
 | zero =>
  intro i hi hf s' e0 e3;have ia:¬ ((i:Int)<s.size):=by omega
  refine aA ?_;simp [eD,-J,ZA,y0,e0,e3,ia];exact hk _ (by rw [<- hf]; rfl)
 | succ n ih =>
  intro i hi hf s' e0 e3;have ia:(i:Int)<s.size:=by omega
  obtain ⟨u,hu⟩:=UN (s:=s) (i:=i) (by omega);have hw:=mB (i:=i);have h1:=QV u.toNat;have h2:=A7 u.toNat;simp only [zE,hu] at hf;refine aA ?_;cases b1:DO u.toNat with
  | true =>
   simp only [b1] at h1 hf;simp [eD,-J,ZA,y0,e0,e3,ia,hu,h1,hw];refine ih (i + 1) (by omega) (by simpa using hf) _ ?_ ?_ <;> simp [*]
  | false =>
   cases b2:RU u.toNat with
   | true =>
    simp only [b1,b2] at h1 h2 hf;simp [eD,-J,ZA,y0,e0,e3,ia,hu,h1,h2,hw];refine ih (i + 1) (by omega) (by simpa using hf) _ ?_ ?_ <;> simp [*]
   | false =>
    simp only [b1,b2] at h1 h2 hf;simp [eD,-J,ZA,y0,e0,e3,ia,hu,h1,h2,hw];refine hr _ (by simpa using hf.symm) ?_;simp
theorem WV (s:ByteArray):wB 114 [.str s] (.bool (CE s)):=by
 refine cA (c:=xD) rfl rfl ?_;unfold CE;by_cases h0:s=⟨#[]⟩
 ·subst h0;simp [xD,-J,ZA,y0];exact fun h=>absurd rfl h
 ·have hz:s.size≠0:=fun h=>h0 (by
   obtain ⟨d⟩:=s;have h:d.size=0:=h;rw [Array.eq_empty_of_size_eq_zero h])
  by_cases h1:s.size<=24
  ·have ol:¬ ((24:Int)<s.size):=by omega
   obtain ⟨u,hu⟩:=UN (s:=s) (i:=0) (by omega);have h2:=QV u.toNat;cases b1:DO u.toNat with
   | false =>
    simp only [b1] at h2;simp [xD,-J,ZA,y0,h0,ol,hu,h2,b1]
   | true =>
    simp only [b1] at h2;simp [xD,-J,ZA,y0,h0,ol,hu,h2,b1,hz,h1];refine rname_lp s h1 _ _ (fun s' hf=>?main) (fun s' hf h2=>?main2) s.size 0 (by simp) rfl _ ?_ ?_
    case main=>simp [-J,ZA,y0,hf]
    case main2=>simp [-J,ZA,y0,hf,h2]
    all_goals simp
  ·have ol:(24:Int)<s.size:=by omega
   simp [xD,-J,ZA,y0,h0,ol,h1]
mutual
def Vl.same:Vl->Vl->Bool
 | .mk k b i s d _ ks _ xs _ rs,.mk k' b' i' s' d' _ ks' _ ir _ rs'=>decide (k=k')&&(b == b')&&decide (i=i')&&decide (s=s')&&decide (d=d')&&decide (rs=rs')&&Vl.sames ks ks'&&Vl.sames xs ir
def Vl.sames:List Vl->List Vl->Bool
 | [],[]=>true
 | v :: r,v' :: r'=>Vl.same v v'&&Vl.sames r r'
 | [],_ :: _=>false
 | _ :: _,[]=>false
end
theorem Vl.same_def (v w:Vl):v.same w=(decide (v.kind=w.kind)&&(v.b == w.b)&&decide (v.i=w.i)&&decide (v.s=w.s)&&decide (v.id=w.id)&&decide (v.rest=w.rest)&&Vl.sames v.keys w.keys&&Vl.sames v.items w.items):=by
 cases v; cases w; rw [Vl.same]; rfl
theorem Vl.sames_len:∀ l m:List Vl,l.length≠m.length->Vl.sames l m=false
 | [],[],h=>absurd rfl h
 | [],_ :: _,_=>by rw [Vl.sames]
 | _ :: _,[],_=>by rw [Vl.sames]
 | v :: r,w :: r',h=>by rw [Vl.sames,Vl.sames_len r r' (by simpa using h)]; simp
theorem raws_lp (rs qs:List p8) (hl:rs.length<=9223372036854775807) (he:rs.length=qs.length) (b1 b2:Bool) (r:RV) (k:Ex->uA->Option RV) (hk:∀ s',rs=qs->k (.exit 0) s'=some r) (hr:∀ s':uA,rs≠qs->(s'.env 4).v=.bool false->k .ret s'=some r) :
  ∀ (n i:Nat),i + n=rs.length->(rs.drop i=qs.drop i ↔ rs=qs)->∀ s':uA,(s'.env 0).v=.sl b1 (rs.map zG)->(s'.env 1).v=.sl b2 (qs.map zG)->(s'.env 12).v=.int .i64 rs.length->(s'.env 13).v=.int .i64 i->CF lA zA zB s' k=some r:=by
 intro n
 induction n with
 | zero =>
  intro i hi hf s' e0 e1 lm cj;have ia:¬ ((i:Int)<rs.length):=by omega
  refine aA ?_;simp [zB,-J,ZA,y0,lm,cj,ia];exact hk _ (hf.1 (by rw [yj (by omega),yj (by omega)]))
 | succ n ih =>
  intro i hi hf s' e0 e1 lm cj;have ia:(i:Int)<rs.length:=by omega
  have lg:i<rs.length:=by omega
  have ud:i<qs.length:=by omega
  have hw:=mB (i:=i);have g1:(rs.map zG)[i]?=some (zG rs[i]):=by simp [lg]
  have g2:(qs.map zG)[i]?=some (zG qs[i]):=by simp [ud]
  rw [yk lg,yk ud] at hf;simp only [List.cons.injEq] at hf;generalize rs[i]=x at *
  generalize qs[i]=y at *
  obtain ⟨xi,xd⟩:=x;obtain ⟨yi,yd⟩:=y;simp only [zG] at g1 g2;simp only [p8.mk.injEq] at hf;refine aA ?_;by_cases h1:xi=yi
  ·by_cases h2:xd=yd
   ·subst h1 h2;simp [zB,-J,ZA,y0,e0,e1,lm,cj,ia,g1,g2,BH,hw];refine ih (i + 1) (by omega) (by simpa using hf) _ ?_ ?_ ?_ ?_ <;> simp [*]
   ·subst h1;simp [zB,-J,ZA,y0,e0,e1,lm,cj,ia,g1,g2,BH,h2];exact hr _ (fun h=>h2 (hf.2 h).1.2) (by simp)
  ·simp [zB,-J,ZA,y0,e0,e1,lm,cj,ia,g1,g2,BH,h1];exact hr _ (fun h=>h1 (hf.2 h).1.1) (by simp)
theorem s6 (rs qs:List p8) (hl:rs.length<=9223372036854775807) (b1 b2:Bool):wB 154 [.sl b1 (rs.map zG),.sl b2 (qs.map zG)] (.bool (decide (rs=qs))):=by
 refine cA (c:=EC) rfl rfl ?_;by_cases he:rs.length=qs.length
 ·have kf:(rs.length:Int)=qs.length:=by omega
  simp [EC,-J,ZA,y0,he];refine raws_lp rs qs hl he b1 b2 _ _ (fun s' hf=>?main) (fun s' hf h4=>?main2) rs.length 0 (by simp) (by simp) _ ?_ ?_ ?_ ?_
  case main=>simp [-J,ZA,y0,hf]
  case main2=>simp [-J,ZA,y0,hf,h4]
  all_goals simp [he]
 ·have kf:¬ (rs.length:Int)=qs.length:=by omega
  have jb:rs≠qs:=fun h=>he (by rw [h])
  simp [EC,-J,ZA,y0,kf,jb]
theorem eqf_lp (F:Nat) (l m:List Vl) (hl:l.length<=9223372036854775807) (he:l.length=m.length) (hF:∀ x∈l,∀ y∈m,wB F [.agg (eB x),.agg (eB y)] (.bool (x.same y))) (b1 b2:Bool) (r:RV) (k:Ex->uA->Option RV) (hk:∀ s',Vl.sames l m=true->k (.exit 0) s'=some r) (hr:∀ s':uA,Vl.sames l m=false->(s'.env 6).v=.bool false->k .ret s'=some r) :
  ∀ (n i:Nat),i + n=l.length->Vl.sames (l.drop i) (m.drop i)=Vl.sames l m->∀ s':uA,(s'.env 1).v=.sl b2 (m.map eB)->(s'.env 2).v=.fn F []->(s'.env 15).v=.sl b1 (l.map eB)->(s'.env 16).v=.int .i64 l.length->(s'.env 17).v=.int .i64 i->CF lA zA tB s' k=some r:=by
 intro n
 induction n with
 | zero =>
  intro i hi hf s' e1 e2 wg kh zk;have ia:¬ ((i:Int)<l.length):=by omega
  refine aA ?_;simp [tB,-J,ZA,y0,kh,zk,ia];refine hk _ ?_;rw [<- hf,yj (by omega),yj (by omega),Vl.sames]
 | succ n ih =>
  intro i hi hf s' e1 e2 wg kh zk;have ia:(i:Int)<l.length:=by omega
  have lg:i<l.length:=by omega
  have ud:i<m.length:=by omega
  have hw:=mB (i:=i);have g1:(l.map eB)[i]?=some (eB l[i]):=by simp [lg]
  have g2:(m.map eB)[i]?=some (eB m[i]):=by simp [ud]
  have hx:=hF l[i] (yx _) m[i] (yx _);rw [yk lg,yk ud,Vl.sames] at hf;generalize l[i]=x at *
  generalize m[i]=y at *
  simp only [wB,dB] at g1 g2 hx;refine aA ?_;cases h1:x.same y with
  | true =>
   rw [h1] at hx hf;simp [tB,-J,ZA,y0,e1,e2,wg,kh,zk,ia,g1,g2,SD,UC,hx,hw];refine ih (i + 1) (by omega) (by simpa using hf) _ ?_ ?_ ?_ ?_ ?_ <;> simp [*]
  | false =>
   rw [h1] at hx hf;simp [tB,-J,ZA,y0,e1,e2,wg,kh,zk,ia,g1,g2,SD,UC,hx];exact hr _ (by simpa using hf.symm) (by simp)
theorem OX (F:Nat) (l m:List Vl) (hl:l.length<=9223372036854775807) (hF:∀ x∈l,∀ y∈m,wB F [.agg (eB x),.agg (eB y)] (.bool (x.same y))) (b1 b2:Bool):wB 155 [.sl b1 (l.map eB),.sl b2 (m.map eB),.fn F []] (.bool (Vl.sames l m)):=by
 refine cA (c:=WB) rfl rfl ?_;by_cases he:l.length=m.length
 ·simp [WB,-J,ZA,y0,he];refine eqf_lp F l m hl he hF b1 b2 _ _ (fun s' hf=>?main) (fun s' hf h4=>?main2) l.length 0 (by simp) (by simp) _ ?_ ?_ ?_ ?_ ?_
  case main=>simp [-J,ZA,y0,hf]
  case main2=>simp [-J,ZA,y0,hf,h4]
  all_goals simp [he]
 ·have kf:¬ (l.length:Int)=m.length:=by omega
  simp [WB,-J,ZA,y0,kf,Vl.sames_len l m he]
theorem z6:∀ (n:Nat) (v w:Vl),SizeOf.sizeOf v<n->v.ok->wB 147 [.agg (eB v),.agg (eB w)] (.bool (v.same w)):=by
 intro n
 induction n with
 | zero=>intro v w h; omega
 | succ n ih =>
  intro v w hn hv;rw [Vl.ok_def] at hv;obtain ⟨o1,o2,o3,o4,o5,o6⟩:=hv;have hr:=s6 v.rest w.rest o3 v.rn w.rn;have oi:=OX 147 v.keys w.keys o1 (fun x hx y _=>ih x y (by have:=Vl.keys_lt v x hx; omega) (o5 x hx)) v.kn w.kn;have ec:=OX 147 v.items w.items o2 (fun x hx y _=>ih x y (by have:=Vl.items_lt v x hx; omega) (o6 x hx)) v.xn w.xn;simp only [wB] at hr oi ec;refine cA (c:=uC) rfl rfl ?_;rw [dB,dB,Vl.same_def];by_cases h1:v.kind=w.kind
  ·by_cases h2:v.b=w.b
   ·by_cases h3:v.i=w.i
    ·by_cases h4:v.s=w.s
     ·by_cases h5:v.id=w.id
      ·by_cases h6:v.rest=w.rest
       ·cases h7:Vl.sames v.keys w.keys with
        | true=>rw [h7] at oi; simp [uC,-J,ZA,y0,h1,h2,h3,h4,h5,h6 ▸ hr,h6,SD,UC,oi,ec,h7]
        | false=>rw [h7] at oi; simp [uC,-J,ZA,y0,h1,h2,h3,h4,h5,h6 ▸ hr,h6,SD,UC,oi,h7]
       ·simp [uC,-J,ZA,y0,h1,h2,h3,h4,h5,hr,h6]
      ·simp [uC,-J,ZA,y0,h1,h2,h3,h4,h5]
     ·simp [uC,-J,ZA,y0,h1,h2,h3,h4]
    ·simp [uC,-J,ZA,y0,h1,h2,h3]
   ·simp [uC,-J,ZA,y0,h1,h2]
  ·simp [uC,-J,ZA,y0,h1]
abbrev WD (v:Vl):List wA:=[⟨.int .i64 v.kind,.no⟩,⟨.bool v.b,.no⟩,⟨.int .i64 v.i,.no⟩,⟨.str v.s,.no⟩,⟨.int .i64 v.id,.no⟩,⟨.sl v.kn (v.keys.map eB),.no⟩,⟨.sl v.xn (v.items.map eB),.no⟩,⟨.sl v.rn (v.rest.map zG),.no⟩]
theorem rrest_lp (v w:Vl) (hl:v.rest.length<=9223372036854775807) (he:v.rest.length=w.rest.length) (m:Nat) (r:RV) (k:Ex->uA->Option RV)
  (hk:∀ s':uA,v.rest=w.rest->(s'.env 2).v=.ptr 2 m 0->(s'.env 3).v=.ptr 3 m 0->s'.mem 2 m=some (WD v)->s'.mem 3 m=some (WD w)->k (.exit 0) s'=some r) (hr:∀ s':uA,v.rest≠w.rest->(s'.env 4).v=.bool false->k .ret s'=some r) :
  ∀ (n i:Nat),i + n=v.rest.length->(v.rest.drop i=w.rest.drop i ↔ v.rest=w.rest)->∀ s':uA,(s'.env 2).v=.ptr 2 m 0->(s'.env 3).v=.ptr 3 m 0->s'.mem 2 m=some (WD v)->s'.mem 3 m=some (WD w)->(s'.env 5).v=.int .i64 i->CF lA zA cC s' k=some r:=by
 intro n
 induction n with
 | zero =>
  intro i hi hf s' e2 e3 m2 m3 e5;have ia:¬ ((i:Int)<v.rest.length):=by omega
  refine aA ?_;simp [cC,-J,ZA,y0,e2,e3,m2,m3,e5,ia];exact hk _ (hf.1 (by rw [yj (by omega),yj (by omega)])) (by simp [e2]) (by simp [e3]) (by simp [m2]) (by simp [m3])
 | succ n ih =>
  intro i hi hf s' e2 e3 m2 m3 e5;have ia:(i:Int)<v.rest.length:=by omega
  have lg:i<v.rest.length:=by omega
  have ud:i<w.rest.length:=by omega
  have hw:=mB (i:=i);have g1:(v.rest.map zG)[i]?=some (zG v.rest[i]):=by simp [lg]
  have g2:(w.rest.map zG)[i]?=some (zG w.rest[i]):=by simp [ud]
  rw [yk lg,yk ud] at hf;simp only [List.cons.injEq] at hf;generalize v.rest[i]=x at *
  generalize w.rest[i]=y at *
  obtain ⟨xi,xd⟩:=x;obtain ⟨yi,yd⟩:=y;simp only [zG] at g1 g2;simp only [p8.mk.injEq] at hf;refine aA ?_;by_cases h1:xi=yi
  ·by_cases h2:xd=yd
   ·subst h1 h2;simp [cC,-J,ZA,y0,e2,e3,m2,m3,e5,ia,g1,g2,BH,hw];refine ih (i + 1) (by omega) (by simpa using hf) _ ?_ ?_ ?_ ?_ ?_ <;> simp [*]
   ·subst h1;simp [cC,-J,ZA,y0,e2,e3,m2,m3,e5,ia,g1,g2,BH,h2];exact hr _ (fun h=>h2 (hf.2 h).1.2) (by simp)
  ·simp [cC,-J,ZA,y0,e2,e3,m2,m3,e5,ia,g1,g2,BH,h1];exact hr _ (fun h=>h1 (hf.2 h).1.1) (by simp)
theorem G7 (l m:List Vl) (hl:l.length<=9223372036854775807) (he:l.length=m.length) (hF:∀ x∈l,∀ y∈m,wB 119 [.agg (eB x),.agg (eB y)] (.bool (x.same y))) (b1 b2:Bool) (r:RV) (k:Ex->uA->Option RV) (hk:∀ s',Vl.sames l m=true->k (.exit 0) s'=some r) (hr:∀ s':uA,Vl.sames l m=false->(s'.env 4).v=.bool false->k .ret s'=some r) :
  ∀ (n i:Nat),i + n=l.length->Vl.sames (l.drop i) (m.drop i)=Vl.sames l m->∀ s':uA,(s'.env 0).v=.sl b1 (l.map eB)->(s'.env 1).v=.sl b2 (m.map eB)->(s'.env 5).v=.int .i64 i->CF lA zA GC s' k=some r:=by
 intro n
 induction n with
 | zero =>
  intro i hi hf s' e0 e1 e5;have ia:¬ ((i:Int)<l.length):=by omega
  refine aA ?_;simp [GC,-J,ZA,y0,e0,e5,ia];refine hk _ ?_;rw [<- hf,yj (by omega),yj (by omega),Vl.sames]
 | succ n ih =>
  intro i hi hf s' e0 e1 e5;have ia:(i:Int)<l.length:=by omega
  have lg:i<l.length:=by omega
  have ud:i<m.length:=by omega
  have hw:=mB (i:=i);have g1:(l.map eB)[i]?=some (eB l[i]):=by simp [lg]
  have g2:(m.map eB)[i]?=some (eB m[i]):=by simp [ud]
  have hx:=hF l[i] (yx _) m[i] (yx _);rw [yk lg,yk ud,Vl.sames] at hf;generalize l[i]=x at *
  generalize m[i]=y at *
  simp only [wB,dB] at g1 g2 hx;refine aA ?_;cases h1:x.same y with
  | true =>
   rw [h1] at hx hf;simp [GC,-J,ZA,y0,e0,e1,e5,ia,g1,g2,SD,hx,hw];refine ih (i + 1) (by omega) (by simpa using hf) _ ?_ ?_ ?_ <;> simp [*]
  | false =>
   rw [h1] at hx hf;simp [GC,-J,ZA,y0,e0,e1,e5,ia,g1,g2,SD,hx];exact hr _ (by simpa using hf.symm) (by simp)
theorem dX (l m:List Vl) (hl:l.length<=9223372036854775807) (hF:∀ x∈l,∀ y∈m,wB 119 [.agg (eB x),.agg (eB y)] (.bool (x.same y))) (b1 b2:Bool):wB 153 [.sl b1 (l.map eB),.sl b2 (m.map eB)] (.bool (Vl.sames l m)):=by
 refine cA (c:=cD) rfl rfl ?_;by_cases he:l.length=m.length
 ·simp [cD,-J,ZA,y0,he];refine G7 l m hl he hF b1 b2 _ _ (fun s' hf=>?main) (fun s' hf h4=>?main2) l.length 0 (by simp) (by simp) _ ?_ ?_ ?_
  case main=>simp [-J,ZA,y0,hf]
  case main2=>simp [-J,ZA,y0,hf,h4]
  all_goals simp [he]
 ·have kf:¬ (l.length:Int)=m.length:=by omega
  simp [cD,-J,ZA,y0,kf,Vl.sames_len l m he]
theorem UZ:∀ (n:Nat) (v w:Vl),SizeOf.sizeOf v<n->v.ok->wB 119 [.agg (eB v),.agg (eB w)] (.bool (v.same w)):=by
 intro n
 induction n with
 | zero=>intro v w h; omega
 | succ n ih =>
  intro v w hn hv;rw [Vl.ok_def] at hv;obtain ⟨o1,o2,o3,o4,o5,o6⟩:=hv;have oi:=dX v.keys w.keys o1 (fun x hx y _=>ih x y (by have:=Vl.keys_lt v x hx; omega) (o5 x hx)) v.kn w.kn;have ec:=dX v.items w.items o2 (fun x hx y _=>ih x y (by have:=Vl.items_lt v x hx; omega) (o6 x hx)) v.xn w.xn;simp only [wB] at oi ec;refine cA (c:=gB) rfl rfl ?_;rw [dB,dB,Vl.same_def];by_cases h1:v.kind=w.kind
  ·by_cases h2:v.b=w.b
   ·by_cases h3:v.i=w.i
    ·by_cases h4:v.s=w.s
     ·by_cases h5:v.id=w.id
      ·by_cases he:v.rest.length=w.rest.length
       ·simp [gB,-J,ZA,y0,h1,h2,h3,h4,h5,he];refine rrest_lp v w o3 he 1 _ _ (fun s' h6 e2 e3 m2 m3=>?main) (fun s' h6 e4=>?main2) v.rest.length 0 (by simp) (by simp) _ ?_ ?_ ?_ ?_ ?_
        case main =>
         cases h7:Vl.sames v.keys w.keys with
         | true=>rw [h7] at oi; simp [-J,ZA,y0,e2,e3,m2,m3,SD,oi,ec,h6]
         | false=>rw [h7] at oi; simp [-J,ZA,y0,e2,e3,m2,m3,SD,oi,h6]
        case main2=>simp [-J,ZA,y0,e4,h6]
        all_goals simp [h1,h2,h3,h4,h5]
       ·have kf:¬ (v.rest.length:Int)=w.rest.length:=by omega
        have h6:¬ v.rest=w.rest:=fun h=>he (by rw [h])
        simp [gB,-J,ZA,y0,h1,h2,h3,h4,h5,kf,h6]
      ·simp [gB,-J,ZA,y0,h1,h2,h3,h4,h5]
     ·simp [gB,-J,ZA,y0,h1,h2,h3,h4]
    ·simp [gB,-J,ZA,y0,h1,h2,h3]
   ·simp [gB,-J,ZA,y0,h1,h2]
  ·simp [gB,-J,ZA,y0,h1]
def EE.same (m m':EE):Bool:=decide (m.id=m'.id)&&decide (m.name=m'.name)&&decide (m.ty=m'.ty)&&(m.crit == m'.crit)&&(m.has == m'.has)&&m.dflt.same m'.dflt
def LB:List EE->List EE->Bool
 | [],[]=>true
 | m :: r,m' :: r'=>m.same m'&&LB r r'
 | [],_ :: _=>false
 | _ :: _,[]=>false
theorem xL:∀ l m:List EE,l.length≠m.length->LB l m=false
 | [],[],h=>absurd rfl h
 | [],_ :: _,_=>rfl
 | _ :: _,[],_=>rfl
 | v :: r,w :: r',h=>by rw [LB,xL r r' (by simpa using h)]; simp
def XA.same (t u:XA):Bool:=decide (t.kind=u.kind)&&decide (t.name=u.name)&&decide (t.low=u.low)&&decide (t.high=u.high)&&decide (t.max=u.max)&&decide (t.key=u.key)&&decide (t.elem=u.elem)&&(t.opn == u.opn)&&decide (t.syms=u.syms)&&LB t.mems u.mems
theorem msame_ev (m m':EE) (hm:m.ok):wB 146 [.agg (WA m),.agg (WA m')] (.bool (m.same m')):=by
 have hs:=z6 _ m.dflt m'.dflt (Nat.lt_succ_self _) hm.1;simp only [wB,dB] at hs;refine cA (c:=RB) rfl rfl ?_;unfold EE.same WA;by_cases h1:m.id=m'.id
 ·by_cases h2:m.name=m'.name
  ·by_cases h3:m.ty=m'.ty
   ·by_cases h4:m.crit=m'.crit
    ·by_cases h5:m.has=m'.has
     ·simp [RB,-J,ZA,y0,h1,h2,h3,h4,h5,hs]
     ·simp [RB,-J,ZA,y0,h1,h2,h3,h4,h5]
    ·simp [RB,-J,ZA,y0,h1,h2,h3,h4]
   ·simp [RB,-J,ZA,y0,h1,h2,h3]
  ·simp [RB,-J,ZA,y0,h1,h2]
 ·simp [RB,-J,ZA,y0,h1]
theorem S7 (m m':EE) (hm:m.ok):wB 80 [.agg (WA m),.agg (WA m')] (.bool (m.same m')):=by
 have hs:=UZ _ m.dflt m'.dflt (Nat.lt_succ_self _) hm.1;simp only [wB,dB] at hs;refine cA (c:=xB) rfl rfl ?_;unfold EE.same WA;by_cases h1:m.id=m'.id
 ·by_cases h2:m.name=m'.name
  ·by_cases h3:m.ty=m'.ty
   ·by_cases h4:m.crit=m'.crit
    ·by_cases h5:m.has=m'.has
     ·simp [xB,-J,ZA,y0,h1,h2,h3,h4,h5,hs]
     ·simp [xB,-J,ZA,y0,h1,h2,h3,h4,h5]
    ·simp [xB,-J,ZA,y0,h1,h2,h3,h4]
   ·simp [xB,-J,ZA,y0,h1,h2,h3]
  ·simp [xB,-J,ZA,y0,h1,h2]
 ·simp [xB,-J,ZA,y0,h1]
theorem syms_lp (rs qs:List AM) (hl:rs.length<=9223372036854775807) (he:rs.length=qs.length) (b1 b2:Bool) (r:RV) (k:Ex->uA->Option RV) (hk:∀ s',rs=qs->k (.exit 0) s'=some r) (hr:∀ s':uA,rs≠qs->(s'.env 4).v=.bool false->k .ret s'=some r) :
  ∀ (n i:Nat),i + n=rs.length->(rs.drop i=qs.drop i ↔ rs=qs)->∀ s':uA,(s'.env 0).v=.sl b1 (rs.map FA)->(s'.env 1).v=.sl b2 (qs.map FA)->(s'.env 12).v=.int .i64 rs.length->(s'.env 13).v=.int .i64 i->CF lA zA BA s' k=some r:=by
 intro n
 induction n with
 | zero =>
  intro i hi hf s' e0 e1 lm cj;have ia:¬ ((i:Int)<rs.length):=by omega
  refine aA ?_;simp [BA,-J,ZA,y0,lm,cj,ia];exact hk _ (hf.1 (by rw [yj (by omega),yj (by omega)]))
 | succ n ih =>
  intro i hi hf s' e0 e1 lm cj;have ia:(i:Int)<rs.length:=by omega
  have lg:i<rs.length:=by omega
  have ud:i<qs.length:=by omega
  have hw:=mB (i:=i);have g1:(rs.map FA)[i]?=some (FA rs[i]):=by simp [lg]
  have g2:(qs.map FA)[i]?=some (FA qs[i]):=by simp [ud]
  rw [yk lg,yk ud] at hf;simp only [List.cons.injEq] at hf;generalize rs[i]=x at *
  generalize qs[i]=y at *
  obtain ⟨xi,xd⟩:=x;obtain ⟨yi,yd⟩:=y;simp only [FA] at g1 g2;simp only [AM.mk.injEq] at hf;refine aA ?_;by_cases h1:xi=yi
  ·by_cases h2:xd=yd
   ·subst h1 h2;simp [BA,-J,ZA,y0,e0,e1,lm,cj,ia,g1,g2,BH,hw];refine ih (i + 1) (by omega) (by simpa using hf) _ ?_ ?_ ?_ ?_ <;> simp [*]
   ·subst h1;simp [BA,-J,ZA,y0,e0,e1,lm,cj,ia,g1,g2,BH,h2];exact hr _ (fun h=>h2 (hf.2 h).1.2) (by simp)
  ·simp [BA,-J,ZA,y0,e0,e1,lm,cj,ia,g1,g2,BH,h1];exact hr _ (fun h=>h1 (hf.2 h).1.1) (by simp)
theorem syms_ev (rs qs:List AM) (hl:rs.length<=9223372036854775807) (b1 b2:Bool):wB 144 [.sl b1 (rs.map FA),.sl b2 (qs.map FA)] (.bool (decide (rs=qs))):=by
 refine cA (c:=MB) rfl rfl ?_;by_cases he:rs.length=qs.length
 ·simp [MB,-J,ZA,y0,he];refine syms_lp rs qs hl he b1 b2 _ _ (fun s' hf=>?main) (fun s' hf h4=>?main2) rs.length 0 (by simp) (by simp) _ ?_ ?_ ?_ ?_
  case main=>simp [-J,ZA,y0,hf]
  case main2=>simp [-J,ZA,y0,hf,h4]
  all_goals simp [he]
 ·have kf:¬ (rs.length:Int)=qs.length:=by omega
  have jb:rs≠qs:=fun h=>he (by rw [h])
  simp [MB,-J,ZA,y0,kf,jb]
theorem eqm_lp (l m:List EE) (hl:l.length<=9223372036854775807) (he:l.length=m.length) (hF:∀ x∈l,x.ok) (b1 b2:Bool) (r:RV) (k:Ex->uA->Option RV) (hk:∀ s',LB l m=true->k (.exit 0) s'=some r) (hr:∀ s':uA,LB l m=false->(s'.env 6).v=.bool false->k .ret s'=some r) :
  ∀ (n i:Nat),i + n=l.length->LB (l.drop i) (m.drop i)=LB l m->∀ s':uA,(s'.env 1).v=.sl b2 (m.map WA)->(s'.env 2).v=.fn 146 []->(s'.env 15).v=.sl b1 (l.map WA)->(s'.env 16).v=.int .i64 l.length->(s'.env 17).v=.int .i64 i->CF lA zA qB s' k=some r:=by
 intro n
 induction n with
 | zero =>
  intro i hi hf s' e1 e2 wg kh zk;have ia:¬ ((i:Int)<l.length):=by omega
  refine aA ?_;simp [qB,-J,ZA,y0,kh,zk,ia];refine hk _ ?_;rw [<- hf,yj (by omega),yj (by omega),LB]
 | succ n ih =>
  intro i hi hf s' e1 e2 wg kh zk;have ia:(i:Int)<l.length:=by omega
  have lg:i<l.length:=by omega
  have ud:i<m.length:=by omega
  have hw:=mB (i:=i);have g1:(l.map WA)[i]?=some (WA l[i]):=by simp [lg]
  have g2:(m.map WA)[i]?=some (WA m[i]):=by simp [ud]
  have hx:=msame_ev l[i] m[i] (hF l[i] (yx _));rw [yk lg,yk ud,LB] at hf;generalize l[i]=x at *
  generalize m[i]=y at *
  simp only [wB,WA] at g1 g2 hx;refine aA ?_;cases h1:x.same y with
  | true =>
   rw [h1] at hx hf;simp [qB,-J,ZA,y0,e1,e2,wg,kh,zk,ia,g1,g2,SD,UC,hx,hw];refine ih (i + 1) (by omega) (by simpa using hf) _ ?_ ?_ ?_ ?_ ?_ <;> simp [*]
  | false =>
   rw [h1] at hx hf;simp [qB,-J,ZA,y0,e1,e2,wg,kh,zk,ia,g1,g2,SD,UC,hx];exact hr _ (by simpa using hf.symm) (by simp)
theorem eqm_ev (l m:List EE) (hl:l.length<=9223372036854775807) (hF:∀ x∈l,x.ok) (b1 b2:Bool):wB 145 [.sl b1 (l.map WA),.sl b2 (m.map WA),.fn 146 []] (.bool (LB l m)):=by
 refine cA (c:=jB) rfl rfl ?_;by_cases he:l.length=m.length
 ·simp [jB,-J,ZA,y0,he];refine eqm_lp l m hl he hF b1 b2 _ _ (fun s' hf=>?main) (fun s' hf h4=>?main2) l.length 0 (by simp) (by simp) _ ?_ ?_ ?_ ?_ ?_
  case main=>simp [-J,ZA,y0,hf]
  case main2=>simp [-J,ZA,y0,hf,h4]
  all_goals simp [he]
 ·have kf:¬ (l.length:Int)=m.length:=by omega
  simp [jB,-J,ZA,y0,kf,xL l m he]
theorem tsame_ev (t u:XA) (ht:t.ok):wB 104 [.agg (qA t),.agg (qA u)] (.bool (t.same u)):=by
 have hs:=syms_ev t.syms u.syms ht.1 t.sn u.sn;have hm:=eqm_ev t.mems u.mems ht.2.1 ht.2.2 t.mn u.mn;simp only [wB] at hs hm;refine cA (c:=aB) rfl rfl ?_;unfold XA.same qA;by_cases h1:t.kind=u.kind
 ·by_cases h2:t.name=u.name
  ·by_cases h3:t.low=u.low
   ·by_cases h4:t.high=u.high
    ·by_cases h5:t.max=u.max
     ·by_cases h6:t.key=u.key
      ·by_cases h7:t.elem=u.elem
       ·by_cases h8:t.opn=u.opn
        ·by_cases h9:t.syms=u.syms
         ·rw [decide_eq_true h9] at hs;simp [aB,-J,ZA,y0,h1,h2,h3,h4,h5,h6,h7,h8,hs,h9 ▸ hs,h9,SD,UC,hm]
         ·rw [decide_eq_false h9] at hs;simp [aB,-J,ZA,y0,h1,h2,h3,h4,h5,h6,h7,h8,hs,h9]
        ·simp [aB,-J,ZA,y0,h1,h2,h3,h4,h5,h6,h7,h8]
       ·simp [aB,-J,ZA,y0,h1,h2,h3,h4,h5,h6,h7]
      ·simp [aB,-J,ZA,y0,h1,h2,h3,h4,h5,h6]
     ·simp [aB,-J,ZA,y0,h1,h2,h3,h4,h5]
    ·simp [aB,-J,ZA,y0,h1,h2,h3,h4]
   ·simp [aB,-J,ZA,y0,h1,h2,h3]
  ·simp [aB,-J,ZA,y0,h1,h2]
 ·simp [aB,-J,ZA,y0,h1]
abbrev pD (t:XA):List wA:=[⟨.int .i64 t.kind,.no⟩,⟨.str t.name,.no⟩,⟨.int .i64 t.low,.no⟩,⟨.int .i64 t.high,.no⟩,⟨.int .i64 t.max,.no⟩,⟨.sl t.sn (t.syms.map FA),.no⟩,⟨.sl t.mn (t.mems.map WA),.no⟩,⟨.int .i64 t.key,.no⟩,⟨.int .i64 t.elem,.no⟩,⟨.bool t.opn,.no⟩]
theorem rsyms_lp (v w:XA) (hl:v.syms.length<=9223372036854775807) (he:v.syms.length=w.syms.length) (m:Nat) (r:RV) (k:Ex->uA->Option RV)
  (hk:∀ s':uA,v.syms=w.syms->(s'.env 2).v=.ptr 2 m 0->(s'.env 3).v=.ptr 3 m 0->s'.mem 2 m=some (pD v)->s'.mem 3 m=some (pD w)->k (.exit 0) s'=some r) (hr:∀ s':uA,v.syms≠w.syms->(s'.env 4).v=.bool false->k .ret s'=some r) :
  ∀ (n i:Nat),i + n=v.syms.length->(v.syms.drop i=w.syms.drop i ↔ v.syms=w.syms)->∀ s':uA,(s'.env 2).v=.ptr 2 m 0->(s'.env 3).v=.ptr 3 m 0->s'.mem 2 m=some (pD v)->s'.mem 3 m=some (pD w)->(s'.env 5).v=.int .i64 i->CF lA zA PC s' k=some r:=by
 intro n
 induction n with
 | zero =>
  intro i hi hf s' e2 e3 m2 m3 e5;have ia:¬ ((i:Int)<v.syms.length):=by omega
  refine aA ?_;simp [PC,-J,ZA,y0,e2,e3,m2,m3,e5,ia];exact hk _ (hf.1 (by rw [yj (by omega),yj (by omega)])) (by simp [e2]) (by simp [e3]) (by simp [m2]) (by simp [m3])
 | succ n ih =>
  intro i hi hf s' e2 e3 m2 m3 e5;have ia:(i:Int)<v.syms.length:=by omega
  have lg:i<v.syms.length:=by omega
  have ud:i<w.syms.length:=by omega
  have hw:=mB (i:=i);have g1:(v.syms.map FA)[i]?=some (FA v.syms[i]):=by simp [lg]
  have g2:(w.syms.map FA)[i]?=some (FA w.syms[i]):=by simp [ud]
  rw [yk lg,yk ud] at hf;simp only [List.cons.injEq] at hf;generalize v.syms[i]=x at *
  generalize w.syms[i]=y at *
  obtain ⟨xi,xd⟩:=x;obtain ⟨yi,yd⟩:=y;simp only [FA] at g1 g2;simp only [AM.mk.injEq] at hf;refine aA ?_;by_cases h1:xi=yi
  ·by_cases h2:xd=yd
   ·subst h1 h2;simp [PC,-J,ZA,y0,e2,e3,m2,m3,e5,ia,g1,g2,BH,hw];refine ih (i + 1) (by omega) (by simpa using hf) _ ?_ ?_ ?_ ?_ ?_ <;> simp [*]
   ·subst h1;simp [PC,-J,ZA,y0,e2,e3,m2,m3,e5,ia,g1,g2,BH,h2];exact hr _ (fun h=>h2 (hf.2 h).1.2) (by simp)
  ·simp [PC,-J,ZA,y0,e2,e3,m2,m3,e5,ia,g1,g2,BH,h1];exact hr _ (fun h=>h1 (hf.2 h).1.1) (by simp)
theorem rmems_lp (v w:XA) (hl:v.mems.length<=9223372036854775807) (hF:∀ x∈v.mems,x.ok) (he:v.mems.length=w.mems.length) (m:Nat) (r:RV) (k:Ex->uA->Option RV)
  (hk:∀ s':uA,LB v.mems w.mems=true->k (.exit 2) s'=some r) (hr:∀ s':uA,LB v.mems w.mems=false->(s'.env 4).v=.bool false->k .ret s'=some r) :
  ∀ (n i:Nat),i + n=v.mems.length->LB (v.mems.drop i) (w.mems.drop i)=LB v.mems w.mems->∀ s':uA,(s'.env 2).v=.ptr 2 m 0->(s'.env 3).v=.ptr 3 m 0->s'.mem 2 m=some (pD v)->s'.mem 3 m=some (pD w)->(s'.env 6).v=.int .i64 i->CF lA zA aD s' k=some r:=by
 intro n
 induction n with
 | zero =>
  intro i hi hf s' e2 e3 m2 m3 e6;have ia:¬ ((i:Int)<v.mems.length):=by omega
  refine aA ?_;simp [aD,-J,ZA,y0,e2,e3,m2,m3,e6,ia];refine hk _ ?_;rw [<- hf,yj (by omega),yj (by omega),LB]
 | succ n ih =>
  intro i hi hf s' e2 e3 m2 m3 e6;have ia:(i:Int)<v.mems.length:=by omega
  have lg:i<v.mems.length:=by omega
  have ud:i<w.mems.length:=by omega
  have hw:=mB (i:=i);have g1:(v.mems.map WA)[i]?=some (WA v.mems[i]):=by simp [lg]
  have g2:(w.mems.map WA)[i]?=some (WA w.mems[i]):=by simp [ud]
  have hx:=S7 v.mems[i] w.mems[i] (hF _ (yx _));rw [yk lg,yk ud,LB] at hf;generalize v.mems[i]=x at *
  generalize w.mems[i]=y at *
  simp only [wB,WA] at g1 g2 hx;refine aA ?_;cases h1:x.same y with
  | true =>
   rw [h1] at hx hf;simp [aD,-J,ZA,y0,e2,e3,m2,m3,e6,ia,g1,g2,SD,hx,hw];refine ih (i + 1) (by omega) (by simpa using hf) _ ?_ ?_ ?_ ?_ ?_ <;> simp [*]
  | false =>
   rw [h1] at hx hf;simp [aD,-J,ZA,y0,e2,e3,m2,m3,e6,ia,g1,g2,SD,hx];exact hr _ (by simpa using hf.symm) (by simp)
theorem fX (t u:XA) (ht:t.ok):wB 40 [.agg (qA t),.agg (qA u)] (.bool (t.same u)):=by
 refine cA (c:=GA) rfl rfl ?_;unfold XA.same qA;by_cases h1:t.kind=u.kind
 ·by_cases h2:t.name=u.name
  ·by_cases h3:t.low=u.low
   ·by_cases h4:t.high=u.high
    ·by_cases h5:t.max=u.max
     ·by_cases h6:t.key=u.key
      ·by_cases h7:t.elem=u.elem
       ·by_cases h8:t.opn=u.opn
        ·by_cases h9:t.syms.length=u.syms.length
         ·by_cases sr:t.mems.length=u.mems.length
          ·simp [GA,-J,ZA,y0,h1,h2,h3,h4,h5,h6,h7,h8,h9,sr];refine rsyms_lp t u ht.1 h9 1 _ _ (fun s' tr e2 e3 m2 m3=>?main) (fun s' tr e4=>?main2) t.syms.length 0 (by simp) (by simp) _ ?_ ?_ ?_ ?_ ?_
           case main =>
            simp [-J,ZA,y0,tr];refine rmems_lp t u ht.2.1 ht.2.2 sr 1 _ _ (fun s' iT=>?a) (fun s' iT e4=>?b) t.mems.length 0 (by simp) (by simp) _ ?_ ?_ ?_ ?_ ?_
            case a=>simp [-J,ZA,y0,iT]
            case b=>simp [-J,ZA,y0,iT,e4]
            all_goals simp [e2,e3,m2,m3]
           case main2=>simp [-J,ZA,y0,tr,e4]
           all_goals simp [h1,h2,h3,h4,h5,h6,h7,h8]
          ·have zz:¬ (t.mems.length:Int)=u.mems.length:=by omega
           simp [GA,-J,ZA,y0,h1,h2,h3,h4,h5,h6,h7,h8,h9,zz,xL _ _ sr]
         ·have h9':¬ (t.syms.length:Int)=u.syms.length:=by omega
          have tr:¬ t.syms=u.syms:=fun h=>h9 (by rw [h])
          simp [GA,-J,ZA,y0,h1,h2,h3,h4,h5,h6,h7,h8,h9',tr]
        ·simp [GA,-J,ZA,y0,h1,h2,h3,h4,h5,h6,h7,h8]
       ·simp [GA,-J,ZA,y0,h1,h2,h3,h4,h5,h6,h7]
      ·simp [GA,-J,ZA,y0,h1,h2,h3,h4,h5,h6]
     ·simp [GA,-J,ZA,y0,h1,h2,h3,h4,h5]
    ·simp [GA,-J,ZA,y0,h1,h2,h3,h4]
   ·simp [GA,-J,ZA,y0,h1,h2,h3]
  ·simp [GA,-J,ZA,y0,h1,h2]
 ·simp [GA,-J,ZA,y0,h1]
theorem anN_t (a:An):ZA true a=.ex:=rfl
theorem anN_f (a:An):ZA false a=a:=rfl
theorem anN_ex (b:Bool):ZA b .ex=.ex:=by cases b <;> rfl
attribute [simp] anN_t anN_f anN_ex
theorem cB {b:C} {r:RV} (n:Nat) (I:Nat->uA->Prop) (E:Ex->uA->Prop)
  (step:∀ i,i<=n->∀ s k,I i s->(i<n->∀ s',I (i + 1) s'->CF lA zA b s' k=some r)->(∀ e s',E e s'->k e s'=some r)->CF lA zA b s k=some r)
  (s:uA) (k:Ex->uA->Option RV) (h:I 0 s) (hk:∀ e s',E e s'->k e s'=some r):CF lA zA b s k=some r:=by
 have:∀ m i,i + m=n->∀ s,I i s->CF lA zA b s k=some r:=by
  intro m
  induction m with
  | zero=>intro i hi s h; exact step i (by omega) s k h (fun ia=>absurd ia (by omega)) hk
  | succ m ih=>intro i hi s h; exact step i (by omega) s k h (fun _ s' h'=>ih (i + 1) (by omega) s' h') hk
 exact this n 0 (by omega) s h
instance memStr (s:ByteArray) (l:List ByteArray):Decidable (s∈l):=@List.instDecidableMemOfLawfulBEq _ instBEqOfDecidableEq _ s l
def NO (s:ByteArray) (l:List ByteArray):Bool:=decide (s∈l)
theorem aQ {s:ByteArray} {l:List ByteArray} (h:s∈l):NO s l=true:=decide_eq_true h
theorem QU {s:ByteArray} {l:List ByteArray} (h:¬ s∈l):NO s l=false:=decide_eq_false h
def gR (b n:Int):Bool:=decide (b<n)&&decide (1<=n)&&decide (n<=1000)
def TC:Int->List ByteArray->List (Int × ByteArray)->Bool
 | _,_,[]=>true
 | b,seen,(n,s) :: r=>gR b n&&!NO s seen&&CE s&&TC n (seen++[s]) r
def FX (x:Int × ByteArray):List AV:=[.int .i64 x.1]
def r6 (x:Int × ByteArray):List AV:=[.str x.2]
def kG (s:ByteArray):List AV:=[.str s,.bool true]
theorem OV (s:ByteArray):∀ l:List ByteArray,aH (l.map kG) (.str s)=if s∈l then some (AV.bool true) else none
 | []=>rfl
 | x :: r=>by
  simp only [yu,kG,aH,FO];by_cases h:x=s
  ·simp [h]
  ·have h':¬ s=x:=fun e=>h e.symm
   have:=OV s r;simp [h,h',this]
theorem PV (s:ByteArray):∀ l:List ByteArray,¬ s∈l->eG (l.map kG) (.str s) (.bool true)=(l++[s]).map kG
 | [],_=>rfl
 | x :: r,hn=>by
  have h:¬ x=s:=fun e=>hn (by simp [e])
  have:=PV s r fun e=>hn (by simp [e])
  simp [kG,eG,FO,h,this]
theorem bY:∀ l:List ByteArray,BJ .none (l.map kG)=true
 | []=>rfl
 | x :: r=>by
  have:=bY r;simp only [BJ] at this;simp [BJ,kG,sG,AV.flat,AV.scal]
def NC (l:List (Int × ByteArray)):Nat->Int
 | 0=>0
 | i + 1=>match l[i]? with
  | some x=>x.1
  | none=>0
theorem ids_ev (l:List (Int × ByteArray)) (hl:l.length<=9223372036854775807) (b1 b2:Bool):wB 142 [.sl b1 (l.map FX),.sl b2 (l.map r6)] (.bool (TC 0 [] l&&decide (l.length<=16))):=by
 refine cA (c:=kI) rfl rfl ?_;simp [kI,-J,-y6,-y5,y0];refine cB l.length (fun i s=>(s.env 0).v=.sl b1 (l.map FX)/\(s.env 1).v=.sl b2 (l.map r6)/\(s.env 5).v=.mp 8 2/\(s.env 9).v=.sl b1 (l.map FX)/\(s.env 10).v=.int .i64 l.length/\(s.env 11).v=.int .i64 i/\s.obj 8 2=some (qF (((l.take i).map (·.2)).map kG))/\TC (NC l i) ((l.take i).map (·.2)) (l.drop i)=TC 0 [] l)
  (fun e s=>(e=.exit 0/\TC 0 [] l=true/\(s.env 0).v=.sl b1 (l.map FX))\/(e=.ret/\TC 0 [] l=false/\(s.env 4).v=.bool false)) (fun i hi s k h ih hk=>?_) _ _ ?_ (fun e s h=>?_)
 ·obtain ⟨e0,e1,e5,e9,uj,jm,o,hs⟩:=h;refine aA ?_;by_cases ia:i<l.length
  ·have da:(i:Int)<l.length:=by omega
   have g1:(l.map FX)[i]?=some (FX l[i]):=by simp [ia]
   have g2:(l.map r6)[i]?=some (r6 l[i]):=by simp [ia]
   have hw:=mB (i:=i);have ht:l.take (i + 1)=l.take i++[l[i]]:=(yS ia).symm;have hp:NC l (i + 1)=l[i].1:=by simp [NC,ia]
   have hn:=q6 l[i].2;rw [yk ia,TC] at hs;generalize hx:l[i]=x at *
   generalize hsn:(l.take i).map (·.2)=seen at *
   have hg:=OV x.2 seen;have up:=bY seen;simp only [FX,r6] at g1 g2;have fx:(0<(i:Int)->∃ p,(l.map FX)[i - 1]?=some [.int .i64 p]/\NC l i=p):=fun h0=>by
    obtain ⟨j,rfl⟩:∃ j,i=j + 1:=⟨i - 1,by omega⟩;exact ⟨l[j].1,by simp [FX,show j<l.length from by omega],by simp [NC,show j<l.length from by omega]⟩
   have fail:∀ s',(s'.env 4).v=.bool false->(gR (NC l i) x.1&&!NO x.2 seen&&CE x.2)=false->k .ret s'=some (.bool (TC 0 [] l&&decide (l.length<=16)),none):=fun s' h4 hf=>hk _ _ (.inr ⟨rfl,by rw [<- hs,hf]; rfl,h4⟩)
   obtain ⟨z,hz⟩:∃ z:Int,z=i:=⟨_,rfl⟩;have ne:0<=z:=by omega
   have hzt:z.toNat=i:=by omega
   have xq:z<l.length:=by omega
   have hwz:IntKind.i64.wrap (z + 1)=((i + 1:Nat):Int):=by rw [hz]; exact hw
   rw [<- hz] at jm;rw [<- hzt] at g1 g2;by_cases c1:x.1<1
   ·simp [CA,-J,-y6,-y5,y0,e0,e1,e5,e9,uj,jm,xq,ne,g1,c1];exact fail _ (by simp) (by simp [gR,show ¬ 1<=x.1 from by omega])
   by_cases c2:1000<x.1
   ·simp [CA,-J,-y6,-y5,y0,e0,e1,e5,e9,uj,jm,xq,ne,g1,c1,c2];exact fail _ (by simp) (by simp [gR,show ¬ x.1<=1000 from by omega])
   have rest:(¬ 0<z\/∃ y p,0<z/\IntKind.i64.wrap (z - 1)=y/\0<=y/\(l.map FX)[y.toNat]?=some [.int .i64 p]/\¬ x.1<=p)->NC l i<x.1->CA.run (WF lA zA) (SO lA zA) s (SL (CF lA zA) CA k)=some (.bool (TC 0 [] l&&decide (l.length<=16)),none):=by
    intro h0 kw;by_cases c5:x.2∈seen
    ·rw [if_pos c5] at hg;rcases h0 with c3 | ⟨y,p,c3,hy,jl,dj,gx⟩
     ·simp [CA,-J,-y6,-y5,y0,e0,e1,e5,e9,uj,jm,xq,ne,g1,g2,c1,c2,c3,o,UG,up,sG,AV.flat,AV.scal,hg];exact fail _ (by simp) (by simp [aQ c5])
     ·simp [CA,-J,-y6,-y5,y0,e0,e1,e5,e9,uj,jm,xq,ne,g1,g2,c1,c2,c3,hy,jl,dj,gx,o,UG,up,sG,AV.flat,AV.scal,hg];exact fail _ (by simp) (by simp [aQ c5])
    ·rw [if_neg c5] at hg;have bd:=PV x.2 seen c5;cases c6:CE x.2 with
     | false =>
      rw [c6] at hn;rcases h0 with c3 | ⟨y,p,c3,hy,jl,dj,gx⟩
      ·simp [CA,-J,-y6,-y5,y0,e0,e1,e5,e9,uj,jm,xq,ne,g1,g2,c1,c2,c3,o,UG,up,sG,AV.flat,AV.scal,hg,hn];exact fail _ (by simp) (by simp [c6])
      ·simp [CA,-J,-y6,-y5,y0,e0,e1,e5,e9,uj,jm,xq,ne,g1,g2,c1,c2,c3,hy,jl,dj,gx,o,UG,up,sG,AV.flat,AV.scal,hg,hn];exact fail _ (by simp) (by simp [c6])
     | true =>
      rw [c6] at hn;have dr:TC x.1 (seen++[x.2]) (l.drop (i + 1))=TC 0 [] l:=by rw [<- hs]; simp [gR,QU c5,c6,kw,show 1<=x.1 from by omega,show x.1<=1000 from by omega]
      rcases h0 with c3 | ⟨y,p,c3,hy,jl,dj,gx⟩
      ·simp [CA,-J,-y6,-y5,y0,e0,e1,e5,e9,uj,jm,xq,ne,g1,g2,c1,c2,c3,o,UG,up,sG,AV.flat,AV.scal,hg,hn,bd,hwz];refine ih ia _ ⟨?_,?_,?_,?_,?_,?_,?_,?_⟩ <;> simp [ht,hsn,hp,dr,e0,e1,e5,e9,uj]
      ·simp [CA,-J,-y6,-y5,y0,e0,e1,e5,e9,uj,jm,xq,ne,g1,g2,c1,c2,c3,hy,jl,dj,gx,o,UG,up,sG,AV.flat,AV.scal,hg,hn,bd,hwz];refine ih ia _ ⟨?_,?_,?_,?_,?_,?_,?_,?_⟩ <;> simp [ht,hsn,hp,dr,e0,e1,e5,e9,uj]
   by_cases c3:0<(i:Int)
   ·obtain ⟨p,hp1,dj⟩:=fx c3;have c3z:0<z:=by omega
    have hwm:IntKind.i64.wrap (z - 1)=((i - 1:Nat):Int):=by rw [IntWalk.i64_in _ (by omega)]; omega
    obtain ⟨y,hy⟩:∃ y:Int,y=((i - 1:Nat):Int):=⟨_,rfl⟩;have jl:0<=y:=by omega
    rw [<- hy] at hwm;rw [show i - 1=y.toNat from by omega] at hp1;by_cases c4:x.1<=p
    ·simp [CA,-J,-y6,-y5,y0,e0,e1,e5,e9,uj,jm,xq,ne,g1,c1,c2,c3z,hwm,jl,hp1,c4];exact fail _ (by simp) (by simp [gR,dj,show ¬ p<x.1 from by omega])
    ·exact rest (.inr ⟨y,p,c3z,hwm,jl,hp1,c4⟩) (by rw [dj]; omega)
   ·have h0:i=0:=by omega
    subst h0;exact rest (.inl (by omega)) (by simp only [NC]; omega)
  ·have da:¬ (i:Int)<l.length:=by omega
   simp [CA,-J,-y6,-y5,y0,uj,jm,da];refine hk _ _ (.inl ⟨rfl,?_,by simp [e0]⟩);rw [<- hs,yj (by omega),TC]
 ·simp [qF,NC]
 ·rcases h with ⟨rfl,h1,h2⟩ | ⟨rfl,h1,h2⟩ <;> simp [-J,-y6,-y5,y0,h1,h2]
  omega
def AF (x:AM):Int × ByteArray:=(x.id,x.name)
def QE (x:EE):Int × ByteArray:=(x.id,x.name)
def zP (l:List AM):Bool:=decide (0<l.length)&&(TC 0 [] (l.map AF)&&decide (l.length<=16))
theorem N1 (l:List AM) (hl:l.length<=8796093022206) (b:Bool):wB 102 [.sl b (l.map FA)] (.bool (zP l)):=by
 refine cA (c:=kF) rfl rfl ?_;have ul:=fun b1 b2=>ids_ev (l.map AF) (by simp; omega) b1 b2
 simp only [wB] at ul;simp [kF,-J,-y6,-y5,y0];refine cB l.length (fun i s=>(s.env 0).v=.sl b (l.map FA)/\(s.env 7).v=.sl b (l.map FA)/\(s.env 8).v=.int .i64 l.length/\(s.env 9).v=.int .i64 i/\(s.env 3).v=.sl (l.take i).isEmpty (((l.take i).map AF).map FX)/\(s.env 4).v=.sl (l.take i).isEmpty (((l.take i).map AF).map r6)/\((s.env 3).a=.ex/\(s.env 4).a=.ex\/(l.take i).isEmpty=false/\(s.env 3).a=.own 17 3/\(s.env 4).a=.own 22 9))
  (fun e s=>e=.exit 0/\(s.env 0).v=.sl b (l.map FA)/\(s.env 3).v=.sl l.isEmpty ((l.map AF).map FX)/\(s.env 4).v=.sl l.isEmpty ((l.map AF).map r6)) (fun i hi s k h ih hk=>?_) _ _ ?_ (fun e s h=>?_)
 ·obtain ⟨e0,e7,e8,e9,e3,e4,an⟩:=h;refine aA ?_;by_cases ia:i<l.length
  ·have da:(i:Int)<l.length:=by omega
   have g1:(l.map FA)[i]?=some (FA l[i]):=by simp [ia]
   have hw:=mB (i:=i);have ht:l.take (i + 1)=l.take i++[l[i]]:=(yS ia).symm;generalize l[i]=x at *
   simp only [FA] at g1;have ea:(l.take i).length=i:=by simp; omega
   generalize l.take i=t at *
   have nh:nA 8 (t.length + 1)=true:=by rw [rA]; omega
   have zj:nA 16 (t.length + 1)=true:=by rw [rA]; omega
   have q1:OA 1 ((t.map AF).map FX)=true:=UD _ _ _ fun _=>rfl
   have q2:OA 1 ((t.map AF).map r6)=true:=UD _ _ _ fun _=>rfl
   rcases an with ⟨a3,a4⟩ | ⟨a0,a3,a4⟩
   ·simp [GD,-J,-y6,-y5,y0,e0,e7,e8,e9,e3,e4,a3,a4,da,g1,hw,nh,zj,q1,q2];refine ih ia _ ⟨?_,?_,?_,?_,?_,?_,?_⟩ <;> simp [ht,e0,e7,e8,FX,r6,AF]
   ·simp [GD,-J,-y6,-y5,y0,e0,e7,e8,e9,e3,e4,a0,a3,a4,da,g1,hw,nh,zj,q1,q2];refine ih ia _ ⟨?_,?_,?_,?_,?_,?_,?_⟩ <;> simp [ht,e0,e7,e8,FX,r6,AF]
  ·have da:¬ (i:Int)<l.length:=by omega
   simp [GD,-J,-y6,-y5,y0,e8,e9,da];rw [List.take_of_length_le (by omega)] at e3 e4;exact hk _ _ ⟨rfl,by simp [e0],by simp [e3],by simp [e4]⟩
 ·simp
 ·obtain ⟨rfl,e0,e3,e4⟩:=h;unfold zP;by_cases h0:0<l.length
  ·have ff:(0:Int)<l.length:=by omega
   simp [-J,-y6,-y5,y0,e0,e3,e4,h0,ff,ul]
  ·have ff:¬ (0:Int)<l.length:=by omega
   simp [-J,-y6,-y5,y0,e0,e3,e4,h0,ff]
theorem rid_ev (b n:Int):wB 152 [.int .i64 b,.int .i64 n] (.bool (gR b n)):=by
 refine cA (c:=sL) rfl rfl ?_;unfold gR;by_cases h1:b<n <;> by_cases h2:1<=n <;> simp [sL,-J,-y6,-y5,y0,h1,h2]
theorem IZ (l:List AM) (hl:l.length<=8796093022206) (b:Bool):wB 115 [.sl b (l.map FA)] (.bool (zP l)):=by
 refine cA (c:=ZF) rfl rfl ?_;simp [ZF,-J,-y6,-y5,y0];have g0:∀ j,j<l.length->∃ x,l[j]?=some x:=fun j hj=>⟨l[j],by simp [hj]⟩
 refine cB l.length (fun i s=>(s.env 0).v=.sl b (l.map FA)/\(s.env 3).v=.int .i64 (NC (l.map AF) i)/\(s.env 4).v=.int .i64 i/\TC (NC (l.map AF) i) ((l.map AF).take i |>.map (·.2)) ((l.map AF).drop i)=TC 0 [] (l.map AF))
  (fun e s=>(e=.exit 0/\TC 0 [] (l.map AF)=true/\(s.env 0).v=.sl b (l.map FA))\/(e=.ret/\TC 0 [] (l.map AF)=false/\(s.env 2).v=.bool false)) (fun i hi s k h ih hk=>?_) _ _ ?_ (fun e s h=>?_)
 ·obtain ⟨e0,e3,e4,hs⟩:=h;refine aA ?_;by_cases ia:i<l.length
  ·have da:(i:Int)<l.length:=by omega
   have g1:(l.map FA)[i]?=some (FA l[i]):=by simp [ia]
   have hw:=mB (i:=i);have tk:i<(l.map AF).length:=by simpa using ia
   have hp:NC (l.map AF) (i + 1)=l[i].id:=by simp [NC,ia,AF]
   have hn:=WV l[i].name;have eL:=rid_ev (NC (l.map AF) i) l[i].id;have di:(l.map AF)[i]=AF l[i]:=by simp
   have ht:((l.map AF).take (i + 1)).map (·.2)=((l.map AF).take i).map (·.2)++[l[i].name]:=by rw [<- yS tk,di]; simp [AF]
   rw [yk tk,di] at hs;obtain ⟨x,hx⟩:∃ x,x=l[i]:=⟨_,rfl⟩;rw [<- hx] at g1 hp hn eL ht hs;simp only [AF,TC] at hs;have fail:∀ s',(s'.env 2).v=.bool false->(gR (NC (l.map AF) i) x.id&&!NO x.name (((l.map AF).take i).map (·.2))&&CE x.name)=false->k .ret s'=some (.bool (zP l),none):=fun s' h4 hf=>hk _ _ (.inr ⟨rfl,by rw [<- hs,hf]; rfl,h4⟩)
   simp only [wB] at hn eL;simp only [FA] at g1;cases c1:gR (NC (l.map AF) i) x.id with
   | false =>
    rw [c1] at eL;simp [nD,-J,-y6,-y5,y0,e0,e3,e4,da,g1,eL];exact fail _ (by simp) (by simp [c1])
   | true =>
    rw [c1] at eL;cases c2:CE x.name with
    | false =>
     rw [c2] at hn;simp [nD,-J,-y6,-y5,y0,e0,e3,e4,da,g1,eL,hn];exact fail _ (by simp) (by simp [c2])
    | true =>
     rw [c2] at hn;simp [nD,-J,-y6,-y5,y0,e0,e3,e4,da,g1,eL,hn];have nj:((l.map AF).take i).map (·.2)=(l.take i).map AM.name:=by simp [<- List.map_take,AF,Function.comp_def]
     refine cB i (fun j s=>(s.env 0).v=.sl b (l.map FA)/\(s.env 4).v=.int .i64 i/\(s.env 5).v=.int .i64 j/\¬ x.name∈(l.take j).map AM.name)
      (fun e s=>(e=.exit 2/\¬ x.name∈(l.take i).map AM.name/\(s.env 0).v=.sl b (l.map FA)/\(s.env 4).v=.int .i64 i)\/(e=.ret/\x.name∈(l.take i).map AM.name/\(s.env 2).v=.bool false)) (fun j hj s k' h db se=>?_) _ _ ?_ (fun e s h=>?_)
     ·obtain ⟨e0,e4,e5,hm⟩:=h;refine aA ?_;by_cases aw:j<i
      ·have ni:(j:Int)<i:=by omega
       have g2:(l.map FA)[j]?=some (FA l[j]):=by simp [show j<l.length from by omega]
       have hwj:=mB (i:=j);have htj:l.take (j + 1)=l.take j++[l[j]]:=(yS (by omega)).symm;simp only [FA] at g2;by_cases nf:l[j].name=x.name
       ·simp [oE,-J,-y6,-y5,y0,e0,e4,e5,ni,g1,g2,nf];refine se _ _ (.inr ⟨rfl,?_,by simp⟩);rw [<- nf];exact List.mem_map_of_mem (List.mem_take_iff_getElem.2 ⟨j,by omega,rfl⟩)
       ·simp [oE,-J,-y6,-y5,y0,e0,e4,e5,ni,g1,g2,nf,hwj];refine db aw _ ⟨?_,?_,?_,?_⟩
        ·simp [e0]
        ·simp [e4]
        ·simp
        ·rw [htj,List.map_append,yI];rintro (h | h)
         ·exact hm h
         ·simp at h; exact nf h.symm
      ·have ni:¬ (j:Int)<i:=by omega
       have bt:j=i:=by omega
       simp [oE,-J,-y6,-y5,y0,e4,e5,ni];exact se _ _ (.inl ⟨rfl,bt ▸ hm,by simp [e0],by simp [e4]⟩)
     ·simp [e0,e4]
     ·rcases h with ⟨rfl,h1,e0,e4⟩ | ⟨rfl,h1,e2⟩
      ·simp [-J,-y6,-y5,y0,e0,e4,g1,hw];refine ih ia _ ⟨?_,?_,?_,?_⟩
       ·simp [e0]
       ·simp [hp]
       ·simp
       ·rw [hp,ht,<- hs,c1,c2,nj,QU h1];rfl
      ·simp [-J,-y6,-y5,y0];exact fail _ e2 (by rw [nj,aQ h1]; simp)
  ·have da:¬ (i:Int)<l.length:=by omega
   simp [nD,-J,-y6,-y5,y0,e0,e4,da];refine hk _ _ (.inl ⟨rfl,?_,by simp [e0]⟩);rw [<- hs,yj (by simp; omega),TC]
 ·simp [NC]
 ·unfold zP;rcases h with ⟨rfl,h1,e0⟩ | ⟨rfl,h1,e2⟩
  ·by_cases h0:0<l.length
   ·have ff:(1:Int)<=l.length:=by omega
    simp [-J,-y6,-y5,y0,e0,h0,ff,h1];omega
   ·have ff:¬ (1:Int)<=l.length:=by omega
    simp [-J,-y6,-y5,y0,e0,h0,ff,h1]
  ·simp [-J,-y6,-y5,y0,h1,e2]
theorem K8 (v:Vl) (hv:v.ok):wB 143 [.agg (eB v)] (.bool (v.same Vl.zero)):=by
 have h:=z6 _ v Vl.zero (Nat.lt_succ_self _) hv;refine cA (c:=WG) rfl rfl ?_;simp only [wB,dB,Vl.zero,Vl.kind,Vl.b,Vl.i,Vl.s,Vl.id,Vl.kn,Vl.keys,Vl.xn,Vl.items,Vl.rn,Vl.rest,List.map_nil] at h ⊢;simp [WG,-J,-y6,-y5,y0,h]
theorem P7 (v:Vl) (hv:v.ok):wB 119 [.agg (eB v),.agg [.int .i64 0,.bool false,.int .i64 0,.str ⟨#[]⟩,.int .i64 0,.sl true [],.sl true [],.sl true []]] (.bool (v.same Vl.zero)):=by
 have h:=UZ _ v Vl.zero (Nat.lt_succ_self _) hv;simp only [wB,dB,Vl.zero,Vl.kind,Vl.b,Vl.i,Vl.s,Vl.id,Vl.kn,Vl.keys,Vl.xn,Vl.items,Vl.rn,Vl.rest,List.map_nil] at h ⊢;exact h
def SB (rec:Bool) (m:EE):Bool:=!(!rec&&(m.crit||m.has))&&!(m.crit&&m.has)&&(m.has||m.dflt.same Vl.zero)
def qI (rec:Bool) (l:List EE):Bool:=l.all (SB rec)&&((rec||decide (0<l.length))&&(TC 0 [] (l.map QE)&&decide (l.length<=16)))
theorem i1 (t:XA) (ht:t.ok) (hl:t.mems.length<=8796093022206) (hk:t.kind=5\/t.kind=6):wB 103 [.agg (qA t)] (.bool (qI (decide (t.kind=5)) t.mems)):=by
 obtain ⟨rc,mz⟩:∃ rc,rc=decide (t.kind=5):=⟨_,rfl⟩;have hk:t.kind=5/\rc=true\/t.kind=6/\rc=false:=by
  rcases hk with h | h
  ·exact .inl ⟨h,by rw [mz,h]; rfl⟩
  ·exact .inr ⟨h,by rw [mz,h]; rfl⟩
 rw [<- mz];clear mz;refine cA (c:=jF) rfl rfl ?_;have ul:=fun b1 b2=>ids_ev (t.mems.map QE) (by simp; omega) b1 b2
 simp only [wB] at ul;simp [jF,-J,-y6,-y5,y0,qA];refine cB t.mems.length (fun i s=>(s.env 1).v=.ptr 1 1 0/\s.mem 1 1=some (pD t)/\(s.env 8).v=.sl t.mn (t.mems.map WA)/\(s.env 9).v=.int .i64 t.mems.length/\(s.env 10).v=.int .i64 i/\(s.env 3).v=.sl (t.mems.take i).isEmpty (((t.mems.take i).map QE).map FX)/\(s.env 4).v=.sl (t.mems.take i).isEmpty (((t.mems.take i).map QE).map r6)/\((t.mems.take i).isEmpty=(t.mems.take i).isEmpty/\(s.env 3).a=.ex/\(s.env 4).a=.ex\/(t.mems.take i).isEmpty=false/\(s.env 3).a=.own 18 3/\(s.env 4).a=.own 23 9)/\(t.mems.drop i).all (SB rc)=t.mems.all (SB rc))
  (fun e s=>(e=.exit 0/\t.mems.all (SB rc)=true/\(s.env 1).v=.ptr 1 1 0/\s.mem 1 1=some (pD t)/\(s.env 3).v=.sl t.mems.isEmpty ((t.mems.map QE).map FX)/\(s.env 4).v=.sl t.mems.isEmpty ((t.mems.map QE).map r6))\/(e=.ret/\t.mems.all (SB rc)=false/\(s.env 2).v=.bool false)) (fun i hi s k h ih se=>?_) _ _ ?_ (fun e s h=>?_)
 ·obtain ⟨e1,m1,e8,e9,uj,e3,e4,an,hs⟩:=h;refine aA ?_;by_cases ia:i<t.mems.length
  ·have da:(i:Int)<t.mems.length:=by omega
   have g1:(t.mems.map WA)[i]?=some (WA t.mems[i]):=by simp [ia]
   have hw:=mB (i:=i);have rx:t.mems.take (i + 1)=t.mems.take i++[t.mems[i]]:=(yS ia).symm;have wi:=K8 t.mems[i].dflt (ht.2.2 _ (yx _)).1;rw [yk ia,List.all_cons] at hs;generalize t.mems[i]=x at *
   simp only [WA] at g1;simp only [wB,dB] at wi;have ea:(t.mems.take i).length=i:=by simp; omega
   generalize hq:t.mems.take i=q at *
   have nh:nA 8 (q.length + 1)=true:=by rw [rA]; omega
   have zj:nA 16 (q.length + 1)=true:=by rw [rA]; omega
   have q1:OA 1 ((q.map QE).map FX)=true:=UD _ _ _ fun _=>rfl
   have q2:OA 1 ((q.map QE).map r6)=true:=UD _ _ _ fun _=>rfl
   have fail:∀ s',(s'.env 2).v=.bool false->SB rc x=false->k .ret s'=some (.bool (qI rc t.mems),none):=fun s' h4 hf=>se _ _ (.inr ⟨rfl,by rw [<- hs,hf]; rfl,h4⟩)
   have good:SB rc x=true->(t.mems.drop (i + 1)).all (SB rc)=t.mems.all (SB rc):=fun h=>by rw [<- hs,h]; rfl
   generalize hB:t.mems.all (SB rc)=B at *
   cases hg:SB rc x with
   | false =>
    cases hz:x.dflt.same Vl.zero <;> rw [hz] at wi <;> rcases hk with ⟨h5,rfl⟩ | ⟨h5,rfl⟩ <;> cases hc:x.crit <;> cases hh:x.has <;> first | (simp [SB,hc,hh,hz] at hg; done) | skip
    all_goals rcases an with ⟨a0,a3,a4⟩ | ⟨a0,a3,a4⟩ <;>
     simp [FD,-J,-y6,-y5,y0,e1,m1,e8,e9,uj,e3,e4,a0,a3,a4,da,g1,hw,nh,zj,q1,q2,hc,hh,h5,wi]
    all_goals exact fail _ (by simp) hg
   | true =>
    have good:=good hg;cases hz:x.dflt.same Vl.zero <;> rw [hz] at wi <;> rcases hk with ⟨h5,rfl⟩ | ⟨h5,rfl⟩ <;> cases hc:x.crit <;> cases hh:x.has <;> first | (simp [SB,hc,hh,hz] at hg; done) | skip
    all_goals rcases an with ⟨a0,a3,a4⟩ | ⟨a0,a3,a4⟩ <;>
     simp [FD,-J,-y6,-y5,y0,e1,m1,e8,e9,uj,e3,e4,a0,a3,a4,da,g1,hw,nh,zj,q1,q2,hc,hh,h5,wi]
    all_goals refine ih ia _ ⟨?_,?_,?_,?_,?_,?_,?_,?_,good⟩
    all_goals simp [rx,e1,m1,e8,e9,FX,r6,QE,An.strip]
  ·have da:¬ (i:Int)<t.mems.length:=by omega
   simp [FD,-J,-y6,-y5,y0,e9,uj,da];rw [List.take_of_length_le (by omega)] at e3 e4;rw [yj (by omega)] at hs;exact se _ _ (.inl ⟨rfl,hs.symm,by simp [e1],by simp [m1],by simp [e3],by simp [e4]⟩)
 ·simp
 ·unfold qI;rcases h with ⟨rfl,h1,e1,m1,e3,e4⟩ | ⟨rfl,h1,e2⟩
  ·rw [h1];rcases hk with ⟨h5,rfl⟩ | ⟨h5,rfl⟩
   ·simp [-J,-y6,-y5,y0,e1,m1,e3,e4,h5,ul]
   ·by_cases h0:0<t.mems.length
    ·have ff:(0:Int)<t.mems.length:=by omega
     simp [-J,-y6,-y5,y0,e1,m1,e3,e4,h5,h0,ff,ul]
    ·have ff:¬ (0:Int)<t.mems.length:=by omega
     simp [-J,-y6,-y5,y0,e1,m1,e3,e4,h5,h0,ff]
  ·simp [-J,-y6,-y5,y0,h1,e2]
theorem RZ (l:List EE) (hl:l.length<=8796093022206) (sa:∀ m∈l,m.ok) (b rec:Bool):wB 116 [.sl b (l.map WA),.bool rec] (.bool (qI rec l)):=by
  refine cA (c:=HF) rfl rfl ?_;simp [HF,-J,-y6,-y5,y0];refine cB l.length (fun i s=>(s.env 0).v=.sl b (l.map WA)/\(s.env 1).v=.bool rec/\(s.env 5).v=.int .i64 (NC (l.map QE) i)/\(s.env 6).v=.int .i64 i/\(TC (NC (l.map QE) i) ((l.map QE).take i |>.map (·.2)) ((l.map QE).drop i)&&(l.drop i).all (SB rec))=(TC 0 [] (l.map QE)&&l.all (SB rec)))
    (fun e s=>(e=.exit 0/\(TC 0 [] (l.map QE)&&l.all (SB rec))=true/\(s.env 0).v=.sl b (l.map WA)/\(s.env 1).v=.bool rec)\/(e=.ret/\(TC 0 [] (l.map QE)&&l.all (SB rec))=false/\(s.env 4).v=.bool false)) (fun i hi s k h ih hk=>?_) _ _ ?_ (fun e s h=>?_)
  · obtain ⟨e0,e1,e5,e6,hs⟩:=h
    refine aA ?_;by_cases ia:i<l.length
    · have da:(i:Int)<l.length:=by omega
      have g1:(l.map WA)[i]?=some (WA l[i]):=by simp [ia]
      have hw:=mB (i:=i);have tk:i<(l.map QE).length:=by simpa using ia
      have hp:NC (l.map QE) (i + 1)=l[i].id:=by simp [NC,ia,QE]
      have hn:=WV l[i].name;have eL:=rid_ev (NC (l.map QE) i) l[i].id;have wi:=P7 l[i].dflt (sa _ (yx _)).1;have di:(l.map QE)[i]=QE l[i]:=by simp
      have ht:((l.map QE).take (i + 1)).map (·.2)=((l.map QE).take i).map (·.2)++[l[i].name]:=by rw [<- yS tk,di]; simp [QE]
      rw [yk tk,di,yk ia,List.all_cons] at hs;obtain ⟨x,hx⟩:∃ x,x=l[i]:=⟨_,rfl⟩;rw [<- hx] at g1 hp hn eL ht hs wi;simp only [TC] at hs;have ci:((gR (NC (l.map QE) i) x.id&&!NO x.name (((l.map QE).take i).map (·.2))&&CE x.name&&SB rec x)&&(TC x.id (((l.map QE).take i).map (·.2)++[x.name]) ((l.map QE).drop (i + 1))&&(l.drop (i + 1)).all (SB rec)))=(TC 0 [] (l.map QE)&&l.all (SB rec)):=by
        rw [<- hs];simp only [QE,Bool.and_assoc];congr 1;congr 1;congr 1;rw [<- Bool.and_assoc,<- Bool.and_assoc,Bool.and_comm (SB rec x)]
      clear hs;have fail:∀ s',(s'.env 4).v=.bool false->(gR (NC (l.map QE) i) x.id&&!NO x.name (((l.map QE).take i).map (·.2))&&CE x.name&&SB rec x)=false->k .ret s'=some (.bool (qI rec l),none):=fun s' h4 hf=>hk _ _ (.inr ⟨rfl,by rw [<- ci,hf]; rfl,h4⟩)
      simp only [wB,dB] at hn eL wi;simp only [WA] at g1;cases c1:gR (NC (l.map QE) i) x.id with
      | false =>
        rw [c1] at eL;simp [ZC,-J,-y6,-y5,y0,e0,e1,e5,e6,da,g1,eL];exact fail _ (by simp) (by simp [c1])
      | true =>
        rw [c1] at eL;cases c2:CE x.name with
        | false =>
          rw [c2] at hn;simp [ZC,-J,-y6,-y5,y0,e0,e1,e5,e6,da,g1,eL,hn];exact fail _ (by simp) (by simp [c2])
        | true =>
          rw [c2] at hn;have nj:((l.map QE).take i).map (·.2)=(l.take i).map EE.name:=by simp [<- List.map_take,QE,Function.comp_def]
          have inner:∀ s:uA,SB rec x=true->(s.env 0).v=.sl b (l.map WA)->(s.env 1).v=.bool rec->(s.env 6).v=.int .i64 i->(s.env 8).v=.int .i64 0->∀ p,(s.env 7).v=.ptr 7 p 0->s.mem 7 p=some ((WA x).map (⟨·,.no⟩)) →
              ∀ k2:Ex->uA->Option RV,(∀ s',(s'.env 4).v=.bool false->k2 .ret s'=k .ret s')->(∀ s',(s'.env 0).v=.sl b (l.map WA)->(s'.env 1).v=.bool rec->(s'.env 6).v=.int .i64 i->(s'.env 7).v=.ptr 7 p 0->s'.mem 7 p=some ((WA x).map (⟨·,.no⟩))->¬ x.name∈(l.take i).map EE.name->k2 (.exit 2) s'=some (.bool (qI rec l),none)) →
              CF lA zA bD s k2=some (.bool (qI rec l),none):=by
            intro s hgood e0 e1 e6 e8 p e7 m7 k2 nn hk3;refine cB i (fun j s=>(s.env 0).v=.sl b (l.map WA)/\(s.env 1).v=.bool rec/\(s.env 6).v=.int .i64 i/\(s.env 7).v=.ptr 7 p 0/\s.mem 7 p=some ((WA x).map (⟨·,.no⟩))/\(s.env 8).v=.int .i64 j/\¬ x.name∈(l.take j).map EE.name)
              (fun e s=>(e=.exit 2/\¬ x.name∈(l.take i).map EE.name/\(s.env 0).v=.sl b (l.map WA)/\(s.env 1).v=.bool rec/\(s.env 6).v=.int .i64 i/\(s.env 7).v=.ptr 7 p 0/\s.mem 7 p=some ((WA x).map (⟨·,.no⟩)))\/(e=.ret/\x.name∈(l.take i).map EE.name/\(s.env 4).v=.bool false)) (fun j hj s k' h db se=>?_) _ _ ?_ (fun e s h=>?_)
            · obtain ⟨e0,e1,e6,e7,m7,e8,hm⟩:=h
              refine aA ?_;by_cases aw:j<i
              · have ni:(j:Int)<i:=by omega
                have g2:(l.map WA)[j]?=some (WA l[j]):=by simp [show j<l.length from by omega]
                have hwj:=mB (i:=j);have htj:l.take (j + 1)=l.take j++[l[j]]:=(yS (by omega)).symm;simp only [WA,yu,List.map_nil] at g2 m7;by_cases nf:l[j].name=x.name
                · simp [bD,-J,-y6,-y5,y0,e0,e1,e6,e7,m7,e8,ni,g1,g2,nf]
                  refine se _ _ (.inr ⟨rfl,?_,by simp⟩);rw [<- nf];exact List.mem_map_of_mem (List.mem_take_iff_getElem.2 ⟨j,by omega,rfl⟩)
                · simp [bD,-J,-y6,-y5,y0,e0,e1,e6,e7,m7,e8,ni,g1,g2,nf,hwj]
                  refine db aw _ ⟨?_,?_,?_,?_,?_,?_,?_⟩
                  · simp [e0]
                  · simp [e1]
                  · simp [e6]
                  · simp [e7]
                  · simp [m7,WA]
                  · simp
                  · rw [htj,List.map_append,yI]
                    rintro (h | h)
                    · exact hm h
                    · simp at h; exact nf h.symm
              · have ni:¬ (j:Int)<i:=by omega
                have bt:j=i:=by omega
                simp [bD,-J,-y6,-y5,y0,e6,e8,ni];exact se _ _ (.inl ⟨rfl,bt ▸ hm,by simp [e0],by simp [e1],by simp [e6],by simp [e7],by simp [m7]⟩)
            · simp [e0,e1,e6,e7,e8,m7]
            · rcases h with ⟨rfl,h1,e0,e1,e6,e7,m7⟩ | ⟨rfl,h1,e4⟩
              · exact hk3 s e0 e1 e6 e7 m7 h1
              · rw [nn _ e4]
                exact fail _ e4 (by rw [nj,aQ h1]; simp)
          have next:∀ s',(s'.env 0).v=.sl b (l.map WA)->(s'.env 1).v=.bool rec->(s'.env 5).v=.int .i64 x.id->(s'.env 6).v=.int .i64 ((i + 1:Nat):Int)->SB rec x=true->¬ x.name∈(l.take i).map EE.name->CF lA zA ZC s' k=some (.bool (qI rec l),none):=fun s' f0 f1 f5 f6 hg uc=>ih ia _ ⟨f0,f1,by rw [hp]; exact f5,f6,by rw [hp,ht,<- ci,c1,c2,hg,nj,QU uc]; rfl⟩
          cases hz:x.dflt.same Vl.zero <;> rw [hz] at wi <;> cases rec <;> cases hc:x.crit <;> cases hh:x.has <;>
            simp [ZC,-J,-y6,-y5,y0,e0,e1,e5,e6,da,g1,eL,hn,hc,hh,wi] <;>
            first
            | exact fail _ (by simp) (by simp [SB,hc,hh,hz])
            | (refine inner _ (by simp [SB,hc,hh,hz]) ?_ ?_ ?_ ?_ (s.next + 1) ?_ ?_ _ ?_ ?_
               · simp [e0]
               · simp [e1]
               · simp [e6]
               · simp
               · simp
               · simp [WA,hc,hh]
               · intro s' _; rfl
               · intro s' f0 f1 f6 f7 fm uc
                 simp only [WA,yu,List.map_nil] at fm;simp [-J,-y6,-y5,y0,f0,f1,f6,f7,fm,hw];refine next _ ?_ ?_ ?_ ?_ (by simp [SB,hc,hh,hz]) uc <;> simp [f0,f1])
    · have da:¬ (i:Int)<l.length:=by omega
      simp [ZC,-J,-y6,-y5,y0,e0,e6,da];refine hk _ _ (.inl ⟨rfl,?_,by simp [e0],by simp [e1]⟩);rw [<- hs,yj (by simp; omega),yj (by omega),TC];rfl
  · simp [NC]
  · unfold qI
    rcases h with ⟨rfl,h1,e0,e1⟩ | ⟨rfl,h1,e2⟩
    · rw [yc] at h1
      rw [h1.1,h1.2];by_cases my:l.length<=16
      · have pm:(l.length:Int)<=16:=by omega
        cases rec
        · by_cases h0:0<l.length
          · have ff:(1:Int)<=l.length:=by omega
            simp [-J,-y6,-y5,y0,e0,e1,h0,ff,my,pm]
          · have ff:¬ (1:Int)<=l.length:=by omega
            simp [-J,-y6,-y5,y0,e0,e1,h0,ff,my,pm]
        · simp [-J,-y6,-y5,y0,e0,e1,my,pm]
      · have pm:¬ (l.length:Int)<=16:=by omega
        simp [-J,-y6,-y5,y0,e0,e1,my,pm]
    · have:(l.all (SB rec)&&((rec||decide (0<l.length))&&(TC 0 [] (l.map QE)&&decide (l.length<=16))))=false:=by
        rw [Bool.and_eq_false_iff] at h1;rcases h1 with h1 | h1 <;> simp [h1]
      rw [this];simp [-J,-y6,-y5,y0,e2]
mutual
theorem Vl.same_refl:∀ v:Vl,v.same v=true
 | .mk k b i s d kn ks xn xs rn rs=>by rw [Vl.same]; simp [Vl.sames_refl ks,Vl.sames_refl xs]
theorem Vl.sames_refl:∀ l:List Vl,Vl.sames l l=true
 | []=>by rw [Vl.sames]
 | v :: r=>by rw [Vl.sames]; simp [Vl.same_refl v,Vl.sames_refl r]
end
theorem EE.same_refl (m:EE):m.same m=true:=by simp [EE.same,Vl.same_refl]
theorem JO:∀ l:List EE,LB l l=true
 | []=>rfl
 | m :: r=>by simp [LB,EE.same_refl,JO r]
def HC:XA:=⟨0,⟨#[]⟩,0,0,0,true,[],true,[],0,0,false⟩
def XA.left (t:XA):XA :=
 if t.kind=1 then { t with kind:=0 }
 else if t.kind=2 then { t with kind:=0,low:=0,high:=0 }
 else if t.kind=3 then { t with kind:=0,max:=0 }
 else if t.kind=4 then { t with kind:=0,name:=⟨#[]⟩,sn:=true,syms:=[],opn:=false }
 else if t.kind=5 then { t with kind:=0,name:=⟨#[]⟩,mn:=true,mems:=[] }
 else if t.kind=6 then { t with kind:=0,name:=⟨#[]⟩,mn:=true,mems:=[],opn:=false }
 else if t.kind=7 then { t with kind:=0,max:=0,elem:=0 }
 else if t.kind=8 then { t with kind:=0,max:=0,elem:=0,key:=0 }
 else { t with kind:=0,elem:=0 }
def kX (t:XA):Bool :=
 if t.kind=2 then decide (t.low<=t.high)
 else if t.kind=3 then decide (0<=t.max)&&decide (t.max<=200)
 else if t.kind=4 then CE t.name&&zP t.syms
 else if t.kind=5 then CE t.name&&qI true t.mems
 else if t.kind=6 then CE t.name&&qI false t.mems
 else if t.kind=7\/t.kind=8 then decide (0<=t.max)&&decide (t.max<=50)
 else true
def OD (t:XA):Bool:=decide (1<=t.kind/\t.kind<=9)&&(kX t&&t.left.same HC)
def XA.fine (t:XA):Prop:=t.ok/\t.syms.length<=8796093022206/\t.mems.length<=8796093022206
theorem TQ {t u:XA} (h:t.ok) (h1:u.syms=t.syms\/u.syms=[]) (h2:u.mems=t.mems\/u.mems=[]):u.ok:=by
 refine ⟨?_,?_,?_⟩
 ·rcases h1 with h1 | h1
  ·rw [h1]; exact h.1
  ·rw [h1]; simp
 ·rcases h2 with h2 | h2
  ·rw [h2]; exact h.2.1
  ·rw [h2]; simp
 ·rcases h2 with h2 | h2
  ·rw [h2]; exact h.2.2
  ·rw [h2]; simp
theorem left_ok {t:XA} (h:t.ok):t.left.ok:=by
 unfold XA.left;by_cases h1:t.kind=1
 ·rw [if_pos h1]; exact TQ h (.inl rfl) (.inl rfl)
 by_cases h2:t.kind=2
 ·rw [if_neg h1,if_pos h2]; exact TQ h (.inl rfl) (.inl rfl)
 by_cases h3:t.kind=3
 ·rw [if_neg h1,if_neg h2,if_pos h3]; exact TQ h (.inl rfl) (.inl rfl)
 by_cases h4:t.kind=4
 ·rw [if_neg h1,if_neg h2,if_neg h3,if_pos h4]; exact TQ h (.inr rfl) (.inl rfl)
 by_cases h5:t.kind=5
 ·rw [if_neg h1,if_neg h2,if_neg h3,if_neg h4,if_pos h5]; exact TQ h (.inl rfl) (.inr rfl)
 by_cases h6:t.kind=6
 ·rw [if_neg h1,if_neg h2,if_neg h3,if_neg h4,if_neg h5,if_pos h6]; exact TQ h (.inl rfl) (.inr rfl)
 rw [if_neg h1,if_neg h2,if_neg h3,if_neg h4,if_neg h5,if_neg h6];by_cases h7:t.kind=7
 ·rw [if_pos h7]; exact TQ h (.inl rfl) (.inl rfl)
 by_cases h8:t.kind=8
 ·rw [if_neg h7,if_pos h8]; exact TQ h (.inl rfl) (.inl rfl)
 rw [if_neg h7,if_neg h8]; exact TQ h (.inl rfl) (.inl rfl)
theorem kinds (k:Int):k=1\/k=2\/k=3\/k=4\/k=5\/k=6\/k=7\/k=8\/k=9\/¬ (1<=k/\k<=9):=by omega
def zF (n:Int):List AV:=[.int .i64 n]
def XA.usesL (t:XA):List Int:=(t.mems.map EE.ty++(if t.kind=8 then [t.key] else []))++(if 7<=t.kind then [t.elem] else [])
section
variable (t:XA) (hl:t.mems.length<=8796093022206)
include t hl
theorem uses_lp (r:RV) (k:Ex->uA->Option RV)
  (hk:∀ s':uA,(s'.env 1).v=.ptr 1 1 0->s'.mem 1 1=some (pD t)->(s'.env 3).v=.sl t.mems.isEmpty ((t.mems.map EE.ty).map zF)->(t.mems.isEmpty=t.mems.isEmpty/\(s'.env 3).a=.ex\/t.mems.isEmpty=false/\(s'.env 3).a=.own 17 3)->k (.exit 0) s'=some r)
  (s:uA) (h1:(s.env 1).v=.ptr 1 1 0) (h2:s.mem 1 1=some (pD t)) (h3:(s.env 7).v=.sl t.mn (t.mems.map WA)) (h4:(s.env 8).v=.int .i64 t.mems.length) (h5:(s.env 9).v=.int .i64 0) (h6:(s.env 3).v=.sl true []) (h7:(s.env 3).a=.ex):CF lA zA XD s k=some r:=by
 refine cB t.mems.length (fun i s=>(s.env 1).v=.ptr 1 1 0/\s.mem 1 1=some (pD t)/\(s.env 7).v=.sl t.mn (t.mems.map WA)/\(s.env 8).v=.int .i64 t.mems.length/\(s.env 9).v=.int .i64 i/\(s.env 3).v=.sl (t.mems.take i).isEmpty (((t.mems.take i).map EE.ty).map zF)/\((t.mems.take i).isEmpty=(t.mems.take i).isEmpty/\(s.env 3).a=.ex\/(t.mems.take i).isEmpty=false/\(s.env 3).a=.own 17 3))
  (fun e s=>e=.exit 0/\(s.env 1).v=.ptr 1 1 0/\s.mem 1 1=some (pD t)/\(s.env 3).v=.sl t.mems.isEmpty ((t.mems.map EE.ty).map zF)/\(t.mems.isEmpty=t.mems.isEmpty/\(s.env 3).a=.ex\/t.mems.isEmpty=false/\(s.env 3).a=.own 17 3)) (fun i hi s k h ih hk=>?_) _ _ ?_ (fun e s h=>?_)
 ·obtain ⟨e1,m1,e7,e8,e9,e3,an⟩:=h;refine aA ?_;by_cases ia:i<t.mems.length
  ·have da:(i:Int)<t.mems.length:=by omega
   have g1:(t.mems.map WA)[i]?=some (WA t.mems[i]):=by simp [ia]
   have hw:=mB (i:=i);have ht:t.mems.take (i + 1)=t.mems.take i++[t.mems[i]]:=(yS ia).symm;generalize t.mems[i]=x at *
   simp only [WA] at g1;have ea:(t.mems.take i).length=i:=by simp; omega
   generalize t.mems.take i=q at *
   have nh:nA 8 (q.length + 1)=true:=by rw [rA]; omega
   have q1:OA 1 ((q.map EE.ty).map zF)=true:=UD _ _ _ fun _=>rfl
   rcases an with ⟨a0,a3⟩ | ⟨a0,a3⟩
   ·simp [XD,-J,-y6,-y5,y0,e1,m1,e7,e8,e9,e3,a0,a3,da,g1,hw,nh,q1];refine ih ia _ ⟨?_,?_,?_,?_,?_,?_,?_⟩ <;> simp [ht,e1,m1,e7,e8,zF,An.strip]
   ·simp [XD,-J,-y6,-y5,y0,e1,m1,e7,e8,e9,e3,a0,a3,da,g1,hw,nh,q1];refine ih ia _ ⟨?_,?_,?_,?_,?_,?_,?_⟩ <;> simp [ht,e1,m1,e7,e8,zF,An.strip]
  ·have da:¬ (i:Int)<t.mems.length:=by omega
   simp [XD,-J,-y6,-y5,y0,e8,e9,da];rw [List.take_of_length_le (by omega)] at e3 an;exact hk _ _ ⟨rfl,by simp [e1],by simp [m1],by simp [e3],by simpa using an⟩
 ·simp [h1,h2,h3,h4,h5,h6,h7]
 ·obtain ⟨rfl,e1,m1,e3,an⟩:=h;exact hk s e1 m1 e3 an
theorem uses_ev (b:Bool) (hb:b=t.usesL.isEmpty):wB 58 [.agg (qA t)] (.sl b (t.usesL.map zF)):=by
 subst hb;refine cA (c:=cH) rfl rfl ?_;simp [cH,-J,-y6,-y5,y0,qA];refine uses_lp t hl _ _ (fun s e1 m1 e3 an=>?_) _ ?_ ?_ ?_ ?_ ?_ ?_ ?_
 ·have q1:OA 1 ((t.mems.map EE.ty).map zF)=true:=UD _ _ _ fun _=>rfl
  have nh:nA 8 (t.mems.length + 1)=true:=by rw [rA]; omega
  have zj:nA 8 (t.mems.length + 1 + 1)=true:=by rw [rA]; omega
  unfold XA.usesL;by_cases h8:t.kind=8
  ·rcases an with ⟨a0,a3⟩ | ⟨a0,a3⟩
   ·simp [-J,-y6,-y5,y0,e1,m1,e3,a0,a3,h8,q1,nh,zj,zF]
   ·simp [-J,-y6,-y5,y0,e1,m1,e3,a0,a3,h8,q1,nh,zj,zF]
  ·by_cases h7:7<=t.kind
   ·rcases an with ⟨a0,a3⟩ | ⟨a0,a3⟩
    ·simp [-J,-y6,-y5,y0,e1,m1,e3,a0,a3,h8,h7,q1,nh,zj,zF]
    ·simp [-J,-y6,-y5,y0,e1,m1,e3,a0,a3,h8,h7,q1,nh,zj,zF]
   ·simp [-J,-y6,-y5,y0,e1,m1,e3,h8,h7]
 all_goals simp
theorem ruses_lp (r:RV) (k:Ex->uA->Option RV)
  (hk:∀ s':uA,(s'.env 1).v=.ptr 1 1 0->s'.mem 1 1=some (pD t)->(s'.env 3).v=.sl t.mems.isEmpty ((t.mems.map EE.ty).map zF)->(t.mems.isEmpty=t.mems.isEmpty/\(s'.env 3).a=.ex\/t.mems.isEmpty=false/\(s'.env 3).a=.own 20 3)->k (.exit 0) s'=some r)
  (s:uA) (h1:(s.env 1).v=.ptr 1 1 0) (h2:s.mem 1 1=some (pD t)) (h5:(s.env 4).v=.int .i64 0) (h6:(s.env 3).v=.sl true []) (h7:(s.env 3).a=.ex):CF lA zA fE s k=some r:=by
 refine cB t.mems.length (fun i s=>(s.env 1).v=.ptr 1 1 0/\s.mem 1 1=some (pD t)/\(s.env 4).v=.int .i64 i/\(s.env 3).v=.sl (t.mems.take i).isEmpty (((t.mems.take i).map EE.ty).map zF)/\((t.mems.take i).isEmpty=(t.mems.take i).isEmpty/\(s.env 3).a=.ex\/(t.mems.take i).isEmpty=false/\(s.env 3).a=.own 20 3))
  (fun e s=>e=.exit 0/\(s.env 1).v=.ptr 1 1 0/\s.mem 1 1=some (pD t)/\(s.env 3).v=.sl t.mems.isEmpty ((t.mems.map EE.ty).map zF)/\(t.mems.isEmpty=t.mems.isEmpty/\(s.env 3).a=.ex\/t.mems.isEmpty=false/\(s.env 3).a=.own 20 3)) (fun i hi s k h ih hk=>?_) _ _ ?_ (fun e s h=>?_)
 ·obtain ⟨e1,m1,e9,e3,an⟩:=h;refine aA ?_;by_cases ia:i<t.mems.length
  ·have da:(i:Int)<t.mems.length:=by omega
   have g1:(t.mems.map WA)[i]?=some (WA t.mems[i]):=by simp [ia]
   have hw:=mB (i:=i);have ht:t.mems.take (i + 1)=t.mems.take i++[t.mems[i]]:=(yS ia).symm;generalize t.mems[i]=x at *
   simp only [WA] at g1;have ea:(t.mems.take i).length=i:=by simp; omega
   generalize t.mems.take i=q at *
   have nh:nA 8 (q.length + 1)=true:=by rw [rA]; omega
   have q1:OA 1 ((q.map EE.ty).map zF)=true:=UD _ _ _ fun _=>rfl
   rcases an with ⟨a0,a3⟩ | ⟨a0,a3⟩
   ·simp [fE,-J,-y6,-y5,y0,e1,m1,e9,e3,a0,a3,da,g1,hw,nh,q1];refine ih ia _ ⟨?_,?_,?_,?_,?_⟩ <;> simp [ht,e1,m1,zF,An.strip]
   ·simp [fE,-J,-y6,-y5,y0,e1,m1,e9,e3,a0,a3,da,g1,hw,nh,q1];refine ih ia _ ⟨?_,?_,?_,?_,?_⟩ <;> simp [ht,e1,m1,zF,An.strip]
  ·have da:¬ (i:Int)<t.mems.length:=by omega
   simp [fE,-J,-y6,-y5,y0,e1,m1,e9,da];rw [List.take_of_length_le (by omega)] at e3 an;exact hk _ _ ⟨rfl,by simp [e1],by simp [m1],by simp [e3],by simpa using an⟩
 ·simp [h1,h2,h5,h6,h7]
 ·obtain ⟨rfl,e1,m1,e3,an⟩:=h;exact hk s e1 m1 e3 an
theorem ruses_ev (h9:t.kind<=9) (b:Bool) (hb:b=t.usesL.isEmpty):wB 76 [.agg (qA t)] (.sl b (t.usesL.map zF)):=by
 subst hb;refine cA (c:=gI) rfl rfl ?_;simp [gI,-J,-y6,-y5,y0,qA];refine ruses_lp t hl _ _ (fun s e1 m1 e3 an=>?_) _ ?_ ?_ ?_ ?_ ?_
 ·have q1:OA 1 ((t.mems.map EE.ty).map zF)=true:=UD _ _ _ fun _=>rfl
  have nh:nA 8 (t.mems.length + 1)=true:=by rw [rA]; omega
  have zj:nA 8 (t.mems.length + 1 + 1)=true:=by rw [rA]; omega
  unfold XA.usesL;have hc:t.kind=8\/t.kind=7\/t.kind=9\/(¬ t.kind=8/\¬ t.kind=7/\¬ t.kind=9/\¬ 7<=t.kind):=by omega
  rcases hc with h | h | h | ⟨h8,h7,h9,h⟩
  ·rcases an with ⟨a0,a3⟩ | ⟨a0,a3⟩ <;> simp [-J,-y6,-y5,y0,e1,m1,e3,a0,a3,h,q1,nh,zj,zF]
  ·rcases an with ⟨a0,a3⟩ | ⟨a0,a3⟩ <;> simp [-J,-y6,-y5,y0,e1,m1,e3,a0,a3,h,q1,nh,zj,zF]
  ·rcases an with ⟨a0,a3⟩ | ⟨a0,a3⟩ <;> simp [-J,-y6,-y5,y0,e1,m1,e3,a0,a3,h,q1,nh,zj,zF]
  ·simp [-J,-y6,-y5,y0,e1,m1,e3,h8,h7,h9,h]
 all_goals simp
end
def Vl.bare (v:Vl):Vl:=.mk v.kind (if v.kind=1 then v.b else false) (if v.kind=2 then v.i else 0) (if v.kind=3 then v.s else ⟨#[]⟩) (if v.kind=4\/v.kind=6 then v.id else 0)
 (if v.kind=8 then v.kn else true) (if v.kind=8 then v.keys else []) (if 5<=v.kind then v.xn else true) (if 5<=v.kind then v.items else []) (if v.kind=5\/v.kind=6 then v.rn else true) (if v.kind=5\/v.kind=6 then v.rest else [])




section
open Go Go.RowKit
section
variable {P:Program}
theorem xG (w:World) (t ty e:TypeId) (i:TypeInfo) (size:Nat) (ht:P.underlying t=some (.slice e)) (hi:P.info? e=some i) (hs:i.size=size) (g off n c:Nat) (cur:Array Value) (te:TypeId)
  (hg:w.heap[g]?=some (.cells cur te (0,0))) (a:Addr) (m c':Nat) (news:List Value) (hl:news.length=m * size) (pb:∀ j u,news[j]?=some u->w.cell? (a.add j)=some u) (h1:∀ u∈news,u.oneCell'=true) (ga:n + m<=c) (eg:off + n * size + news.length<=cur.size) :
  (Builtin.append_ #[t,t] ty #[.slice (some ⟨g,off,none⟩) n c,.slice (some a) m c']).run P w=.ok (.slice (some ⟨g,off,none⟩) (n + m) c) (w.setRow g (cur.toList.take (off + n * size)++news++cur.toList.drop (off + n * size + news.length)).toArray):=by
 have jt:=run_loadCells_list (P:=P) w a news pb;rw [hl] at jt;have bd:=run_storeCells_at P g (off + n * size) te news 0 cur w hg (by simpa using eg) h1;simp only [Nat.add_zero] at bd;simp [Builtin.append_,run_underlying ht,sizeOf,typeInfo,hi,hs,Builtin.lenOf,Builtin.firstCells,ga,jt,Addr.add_lit,bd]
theorem LD (w:World) (t ty e:TypeId) (i:TypeInfo) (z:Value) (size bytes:Nat) (ht:P.underlying t=some (.slice e)) (hi:P.info? e=some i) (hz:i.zero=some z) (hs:i.size=size) (hby:i.bytes=bytes) (rg:z.cells.size=size) (A:Option Addr) (n c:Nat) (olds:List Value) (mr:olds.length=n * size)
  (ro:0<n->∃ b,A=some b/\∀ j u,olds[j]?=some u->w.cell? (b.add j)=some u) (ki:A=none->n=0/\c=0) (a:Addr) (m c':Nat) (news:List Value) (hl:news.length=m * size) (pb:∀ j u,news[j]?=some u->w.cell? (a.add j)=some u) (ga:c<n + m) (hnc:n<=c) (hb:n + m<=1000) (py:bytes<=1000) :
  ∃ cap ra,n + m<=cap/\cap<=maxLen/\ra.size=cap * size/\ra.toList.take ((n + m) * size)=olds++news/\(Builtin.append_ #[t,t] ty #[.slice A n c,.slice (some a) m c']).run P w=.ok (.slice (some ⟨w.heap.size,0,none⟩) (n + m) cap) (w.drew.alloc (.cells ra e)):=by
 subst hs;have ur:Builtin.nextslicecap (n + m) c * i.bytes<=281474976710656:=by
  have h1:Builtin.nextslicecap (n + m) c<=2 * (n + m):=nextslicecap_le ga
  calc _<=(2 * (n + m)) * i.bytes:=yO _ h1
   _<=2000 * 1000:=Nat.mul_le_mul (by omega) (by omega)
   _<=_:=by decide
 cases A with
 | none =>
  obtain ⟨hn,uy⟩:=ki rfl;subst hn; subst uy;have:olds=[]:=yN (by simpa using mr);subst this;have jd:=grownCap_ge w m 0 e;have lu:m * i.bytes<=1000 * 1000:=Nat.mul_le_mul (by omega) (by omega);have hr:=run_append_nil (P:=P) w t ty e i z ht hi hz a m c' news hl pb (by omega) (by omega) (by omega);rw [yn];refine ⟨_,_,jd,grownCap_le_maxLen w _ _ e (by have:maxLen=9223372036854775807:=rfl; omega),?_,?_,hr⟩
  ·rw [Array.size_append,size_zeroCells,yF,hl,rg,<- Nat.add_mul]; congr 1; omega
  ·rw [Array.toList_append,<- hl]; exact List.take_left
 | some b =>
  have jd:=grownCap_ge w (n + m) c e;have rt:∀ j u,olds[j]?=some u->w.cell? (b.add j)=some u:=fun j u hu=>by
   have hj:j<olds.length:=(yq.1 hu).1;have hn:0<n:=by
    rcases yH n with h | h
    ·subst h; omega
    ·exact h
   obtain ⟨b',gb,h⟩:=ro hn;injection gb with gb;subst gb;exact h j u hu
  have hr:=run_append_grow (P:=P) w t ty e i z ht hi hz b n c olds mr rt a m c' news hl pb ga (by omega) ur;refine ⟨_,_,jd,grownCap_le_maxLen w _ _ e (by have:maxLen=9223372036854775807:=rfl; omega),?_,?_,hr⟩
  ·rw [Array.size_append,Array.size_append,size_zeroCells,yF,yF,hl,mr,rg,<- Nat.add_mul,<- Nat.add_mul]; congr 1; omega
  ·have tb:(olds++news).length=(n + m) * i.size:=by rw [yb,mr,hl,Nat.add_mul]
   rw [Array.toList_append,Array.toList_append,<- tb]; exact List.take_left
theorem I5 (w:World) (dT sT ty e:TypeId) (size:Nat) (hu:P.underlying dT=some (.slice e)) (hs:(P.info? e).map (·.size)=some size) (g off dLen dCap:Nat) (a:Addr) (sLen sCap:Nat) (cur:Array Value) (t:TypeId) (cs:List Value)
  (hg:w.heap[g]?=some (.cells cur t (0,0))) (hn:cs.length=Nat.min sLen dLen * size) (wo:∀ j v,cs[j]?=some v->w.cell? (a.add j)=some v) (eg:off + cs.length<=cur.size) (h1:∀ v∈cs,v.oneCell'=true) :
  (Builtin.copy_ #[dT,sT] ty #[.slice (some ⟨g,off,none⟩) dLen dCap,.slice (some a) sLen sCap]).run P w=.ok (goInt (Nat.min sLen dLen:Nat)) (w.setRow g (cur.toList.take off++cs++cur.toList.drop (off + cs.length)).toArray):=by
 have hl:=run_loadCells_list (P:=P) w a cs wo;have bd:=run_storeCells_at P g off t cs 0 cur w hg (by simpa using eg) h1;rw [hn] at hl;cases hq:P.info? e with
 | none=>simp [hq] at hs
 | some i =>
  have hi:i.size=size:=by simpa [hq] using hs
  simp only [Nat.add_zero] at bd;simp [Builtin.copy_,run_underlying hu,Builtin.lenOf,Builtin.firstCells,sizeOf,typeInfo,hq,hi,hl,bd]
end
theorem HG {P:Program} (w:World) {ops:Array Oper} {rest:List Oper} {o:Oper} {a:Act} {Q:Exit->Act->World->Prop} (rp:o.guard=none) (s x:Operand) (t t':TypeId)
  (ho:o.op=.call { callee:=.builtin .append,args:=#[s,x],argTypes:=#[t,t'] }) (v u:Value) (hs:a.eval s=v) (hx:a.eval x=u) {v':Value} {w':World}
  (hr:(Builtin.append_ #[t,t'] o.type #[v,u]).run P w=.ok v' w') (h:wpList P ops Q rest (a.put o.dst v') w'):wpList P ops Q (o :: rest) a w:=by
 refine wpList_plain rp fun K hK=>?_
 unfold Oper.wp execOp;simp only [ho,resolve,invoke,builtin,Sem.run_bind,Sem.run_pure,Result.andThen_ok,List.map_toArray,yu,List.map_nil,hs,hx,hr];exact hK _ _ h
theorem KQ {P:Program} {w:World} {ops:Array Oper} {o:Oper} {a:Act} {K:Act->World->Prop} {Q:Exit->Act->World->Prop} {E:Prop} (rp:o.guard=none) (s x:Operand) (t t':TypeId)
  (ho:o.op=.call { callee:=.builtin .append,args:=#[s,x],argTypes:=#[t,t'] }) (v u:Value) (hs:a.eval s=v) (hx:a.eval x=u) {v':Value} {w':World}
  (hr:(Builtin.append_ #[t,t'] o.type #[v,u]).run P w=.ok v' w') (h:K (a.put o.dst v') w'):if Region.wanted o (yielded ops a.tmps)=true then Oper.wp P o a w K Q else E:=by
 have hw:Region.wanted o (yielded ops a.tmps)=true:=by simp [Region.wanted,rp]
 rw [if_pos hw];unfold Oper.wp execOp;simp only [ho,resolve,invoke,builtin,Sem.run_bind,Sem.run_pure,Result.andThen_ok,List.map_toArray,yu,List.map_nil,hs,hx,hr];exact h
theorem MF {P:Program} (w:World) {ops:Array Oper} {rest:List Oper} {o:Oper} {a:Act} {Q:Exit->Act->World->Prop} (rp:o.guard=none) (s x:Operand) (t t':TypeId)
  (ho:o.op=.call { callee:=.builtin .copy,args:=#[s,x],argTypes:=#[t,t'] }) (v u:Value) (hs:a.eval s=v) (hx:a.eval x=u) {v':Value} {w':World}
  (hr:(Builtin.copy_ #[t,t'] o.type #[v,u]).run P w=.ok v' w') (h:wpList P ops Q rest (a.put o.dst v') w'):wpList P ops Q (o :: rest) a w:=by
 refine wpList_plain rp fun K hK=>?_
 unfold Oper.wp execOp;simp only [ho,resolve,invoke,builtin,Sem.run_bind,Sem.run_pure,Result.andThen_ok,List.map_toArray,yu,List.map_nil,hs,hx,hr];exact hK _ _ h
theorem mH {P:Program} {w:World} {ops:Array Oper} {o:Oper} {a:Act} {K:Act->World->Prop} {Q:Exit->Act->World->Prop} {E:Prop} (rp:o.guard=none) (s x:Operand) (t t':TypeId)
  (ho:o.op=.call { callee:=.builtin .copy,args:=#[s,x],argTypes:=#[t,t'] }) (v u:Value) (hs:a.eval s=v) (hx:a.eval x=u) {v':Value} {w':World}
  (hr:(Builtin.copy_ #[t,t'] o.type #[v,u]).run P w=.ok v' w') (h:K (a.put o.dst v') w'):if Region.wanted o (yielded ops a.tmps)=true then Oper.wp P o a w K Q else E:=by
 have hw:Region.wanted o (yielded ops a.tmps)=true:=by simp [Region.wanted,rp]
 rw [if_pos hw];unfold Oper.wp execOp;simp only [ho,resolve,invoke,builtin,Sem.run_bind,Sem.run_pure,Result.andThen_ok,List.map_toArray,yu,List.map_nil,hs,hx,hr];exact h
def lay (L:List Value) (o:Nat) (X:List Value):List Value:=L.take o++X++L.drop (o + X.length)
theorem BF {L X:List Value} {o:Nat} (h:o + X.length<=L.length):(lay L o X).length=L.length:=by
 simp only [lay,yb,ym,yr]; omega
theorem HJ (L X:List Value) (o j:Nat) (h:o + X.length<=L.length):(lay L o X)[j]?=if o<=j/\j<o + X.length then X[j - o]? else L[j]?:=by
 have ht:(L.take o).length=o:=by rw [ym]; omega
 unfold lay;rcases Nat.lt_or_ge j o with h1 | h1
 ·rw [if_neg (by omega),yl,yL (by omega),yz,if_pos h1]
 ·rcases Nat.lt_or_ge j (o + X.length) with h2 | h2
  ·rw [if_pos ⟨h1,h2⟩,yL (by rw [yb]; omega),yJ (by omega),ht]
  ·rw [if_neg (by omega),yJ (by rw [yb]; omega),yb,ht,yw];congr 1; omega
def DL:Value->Option Nat
 | .slice (some a) _ _=>some a.block
 | _=>none
theorem dL {w:World} {a:Addr} {u:Value} (h:w.cell? a=some u):∃ c ty fz,w.heap[a.block]?=some (.cells c ty fz)/\0<c.size:=by
 unfold World.cell? at h;split at h
 ·rename_i c ty fz hc;split at h
  ·cases h
  ·have:=(Array.getElem?_eq_some_iff.1 h).1;exact ⟨c,ty,fz,hc,by omega⟩
 ·cases h
theorem lN {P:Program} (w:World) (tS tR e:TypeId) (ht:P.underlying tS=some (.slice e)) (size:Nat) (hz:∀ w,(Go.sizeOf e).run P w=.ok size w)
  (a b:Addr) (la ca lb cb:Nat) (jb:a.block≠b.block) (u:Value) (ha:w.cell? a=some u) (cur:Array Value) (ty:TypeId) (hb:w.heap[b.block]?=some (.cells cur ty (0,0))) (fe:cur.size≠0) :
  (Extern.SlicesOverlaps.overlaps #[tS,tS] #[tR] #[.slice (some a) la ca,.slice (some b) lb cb]).run P w=.ok (.bool false) w:=by
 obtain ⟨tz,ta,fz,hca,ub⟩:=dL ha;have zp:w.shape? a.block=some (ta,tz.size):=by simp [World.shape?,hca]
 have im:w.shape? b.block=some (ty,cur.size):=by simp [World.shape?,hb]
 have xv:w.frozen? b=false:=by simp [World.frozen?,hb]
 have hfe:w.frozen? { block:=b.block,off:=cur.size }=false:=by simp [World.frozen?,hb]
 have xj:(a.block != b.block)=true:=by simpa using jb
 have hnb':(a.block == b.block)=false:=by simpa using jb
 change Sem.run P (α:=Value) (do
  let some t:=(#[tS,tS]:Array TypeId)[0]? | stuck "slices.overlaps: no parameter types"
  let .slice elem <- underlying t | stuck "slices.overlaps: slice type expected"
  let size <- sizeOf elem
  match (some a:Option Addr),(some b:Option Addr) with
  | some a,some b =>
   if la=0\/lb=0\/size=0 then pure (Value.bool false)
   else if a.block != b.block&&(<- frozen a)&&(<- frozen b) then unsupported .addressObserved
   else do
    if a.block != b.block then do
     noView a; noView b
     if <- mayBeOne a b then return Value.bool ((<- choose (.extern "sameAddr.stringBytes" 2)) == 1)
    pure (Value.bool (a.block == b.block&&a.off<b.off + lb * size&&b.off<a.off + la * size))
  | _,_=>pure (Value.bool false)) w=_
 by_cases h0:la=0\/lb=0\/size=0
 ·simp [run_underlying ht,hz,h0]
 ·obtain ⟨k,hk⟩:∃ k,tz.size=k + 1:=⟨tz.size - 1,by omega⟩;obtain ⟨m,hm⟩:∃ m,cur.size=m + 1:=⟨cur.size - 1,by omega⟩;rw [hk] at zp;rw [hm] at im hfe;cases iu:w.frozen? a <;> cases hfk:w.frozen? { block:=a.block,off:=k + 1 } <;>
   simp [run_underlying ht,hz,h0,xj,hnb',frozen,noView,viewAt,mayBeOne,stringish,shape,Sem.run,zp,im,xv,hfe,iu,hfk]
theorem XW {P:Program} (w:World) (t e e0 ty:TypeId) (z:Value) (ht:P.underlying t=some (.slice e)) (hz:(zeroValue e).run P w=.ok z w) (h1:∀ u∈z.cells.toList,u.oneCell'=true)
  (g off n c:Nat) (cur:Array Value) (hg:w.heap[g]?=some (.cells cur e0 (0,0))) (tb:off + n * z.cells.size<=cur.size) :
  ∃ w' ra,(Builtin.clear_ #[t] ty #[.slice (some ⟨g,off,none⟩) n c]).run P w=.ok (.tuple #[]) w'/\w'.heap[g]?=some (.cells ra e0 (0,0))/\ra.size=cur.size/\ra.toList.take off=cur.toList.take off/\SA (fun b=>b=g) w w':=by
 cases n with
 | zero =>
  refine ⟨w,cur,?_,hg,rfl,rfl,SA.refl _ w⟩;simp [Builtin.clear_,run_underlying ht]
 | succ n =>
  have du:∀ u∈(Builtin.zeroCells z.cells (n + 1)).toList,u.oneCell'=true:=by
   intro u hu;simp only [Builtin.zeroCells,Array.toList_map,List.mem_map,Array.toList_range,List.mem_range] at hu;obtain ⟨j,hj,rfl⟩:=hu;have ub:0<z.cells.size:=by
    rcases yH z.cells.size with h | h
    ·rw [h] at hj; simp at hj
    ·exact h
   have ia:=Nat.mod_lt j ub;rw [getElem!_pos z.cells _ ia];exact h1 _ (by simp)
  have ac:(Builtin.zeroCells z.cells (n + 1)).toList.length=(n + 1) * z.cells.size:=by simp [size_zeroCells]
  have bd:=run_storeCells_at P g off e0 (Builtin.zeroCells z.cells (n + 1)).toList 0 cur w hg (by rw [ac]; simpa using tb) du;simp only [Nat.add_zero] at bd;obtain ⟨nw,hnw⟩:∃ nw,nw=(cur.toList.take off++(Builtin.zeroCells z.cells (n + 1)).toList++cur.toList.drop (off + (Builtin.zeroCells z.cells (n + 1)).toList.length)).toArray:=⟨_,rfl⟩;rw [<- hnw] at bd;refine ⟨w.setRow g nw,nw,?_,setRow_heap w g cur _ e0 _ hg,?_,?_,?_⟩
  ·simp [Builtin.clear_,run_underlying ht,hz,bd]
  ·rw [hnw];simp only [yF,yb,ym,yr,yG,ac];omega
  ·rw [hnw,yl];exact List.take_left' (by simp; omega)
  ·exact ⟨rfl,rfl,rfl,by simp,fun k hk hF=>setRow_other w g k _ hF⟩
end
section
open Go Go.RowKit
structure eJ where
 cells:List Value
 len:cells.length=13
 one:∀ u∈cells,u.oneCell'=true
def uF (l:List eJ):List Value:=l.flatMap eJ.cells
theorem DC (l:List eJ):(uF l).length=l.length * 13:=by
 induction l with
 | nil=>rfl
 | cons q l ih=>simp only [uF,List.flatMap_cons,yb,yD,q.len] at ih ⊢; rw [ih]; omega
theorem qJ (l r:List eJ):uF (l++r)=uF l++uF r:=by simp [uF]
theorem DK (q:eJ) (r:List eJ):uF (q :: r)=q.cells++uF r:=by simp [uF]
theorem sN (l:List eJ) (k:Nat):(uF l).take (k * 13)=uF (l.take k):=by
 induction l generalizing k with
 | nil=>simp [uF]
 | cons q l ih =>
  cases k with
  | zero=>simp [uF]
  | succ k =>
   have h4:=q.len;rw [DK,List.take_succ_cons,DK,List.take_append,h4,show (k + 1) * 13 - 13=k * 13 from by omega,ih,List.take_of_length_le (by rw [h4]; omega)]
theorem wJ (l:List eJ) (k:Nat):(uF l).drop (k * 13)=uF (l.drop k):=by
 induction l generalizing k with
 | nil=>simp [uF]
 | cons q l ih =>
  cases k with
  | zero=>simp [uF]
  | succ k =>
   have h4:=q.len;rw [DK,List.drop_succ_cons,List.drop_append,h4,show (k + 1) * 13 - 13=k * 13 from by omega,ih,yj (by rw [h4]; omega),List.nil_append]
theorem BT (l:List eJ):∀ u∈uF l,u.oneCell'=true:=by
 intro u hu;simp only [uF,List.mem_flatMap] at hu;obtain ⟨q,_,hq⟩:=hu;exact q.one u hq
theorem myC_of:∀ (n:Nat) (vs:List Value),vs.length=n * 13->(∀ u∈vs,u.oneCell'=true)->∃ l:List eJ,l.length=n/\uF l=vs
 | 0,vs,h,_=>⟨[],rfl,(yN (by omega)).symm⟩
 | n + 1,vs,h,h1=>by
  obtain ⟨l,hl,hc⟩:=myC_of n (vs.drop 13) (by rw [yr]; omega) (fun u hu=>h1 u (List.mem_of_mem_drop hu));exact ⟨⟨vs.take 13,by rw [ym]; omega,fun u hu=>h1 u (List.mem_of_mem_take hu)⟩ :: l,by simp [hl],by rw [DK,hc]; exact yR _ _⟩
def myZ:Value:=.agg #[.int .i64 0,.string ⟨#[]⟩,.int .i64 0,.bool false,.bool false,.int .i64 0,.bool false,.int .i64 0,.string ⟨#[]⟩,.int .i64 0,.slice none 0 0,.slice none 0 0,.slice none 0 0]
theorem f8:Tryz.prog.underlying 66=some (.slice 48):=by kernel_rfl
theorem myi:(Tryz.prog.info? 48).map (fun i=>(i.zero,i.size,i.bytes))=some (some myZ,13,160):=by kernel_rfl
theorem mysz:(Tryz.prog.info? 48).map (·.size)=some 13:=by kernel_rfl
theorem myzv (w:World):(zeroValue 48).run Tryz.prog w=.ok myZ w:=by kernel_rfl
theorem myhi (A:Option Addr) (n c k:Nat) (hk:k<=c) (w:World):(Instr.slice 66 (.slice A n c) none (some (.int .i64 k)) none).run Tryz.prog w=.ok (.slice A k c) w:=by
 obtain ⟨i,hi,ne,gf,tg⟩:=info_parts myi;exact c9 w _ _ i f8 hi A n c k hk
theorem T1 (A:Option Addr) (n c k:Nat) (hk:k<=n) (w:World):(Instr.slice 66 (.slice A n c) (some (.int .i64 k)) none none).run Tryz.prog w=.ok (.slice (if c=k then A else A.map (·.add (k * 13))) (n - k) (c - k)) w:=by
 obtain ⟨i,hi,ne,gf,tg⟩:=info_parts myi;exact n9 w _ _ i 13 f8 hi gf A n c k hk
theorem mylh (A:Option Addr) (n c k h:Nat) (hk:k<=h) (hh:h<=c) (w:World):(Instr.slice 66 (.slice A n c) (some (.int .i64 k)) (some (.int .i64 h)) none).run Tryz.prog w=.ok (.slice (if c=k then A else A.map (·.add (k * 13))) (h - k) (c - k)) w:=by
 obtain ⟨i,hi,ne,gf,tg⟩:=info_parts myi;exact b9 w _ _ i 13 f8 hi gf A n c k h hk hh
theorem mysiz (w:World):(Go.sizeOf 48).run Tryz.prog w=.ok 13 w:=by kernel_rfl
structure JJ (w:World) (g off c N:Nat) (l:List eJ):Prop where
 blk:∃ cur ty,w.heap[g]?=some (.cells cur ty (0,0))/\cur.size=N/\off + c * 13<=N/\(cur.toList.drop off).take (l.length * 13)=uF l
 len:l.length<=c
def myO (w:World) (v:Value) (l:List eJ):Prop:=(v=.slice none 0 0/\l=[])\/∃ g c N,v=.slice (some ⟨g,0,none⟩) l.length c/\JJ w g 0 c N l
section
variable {w w':World} {g off c N:Nat} {l:List eJ} {v:Value}
theorem JJ.keep {F:Nat->Prop} (h:JJ w g off c N l) (hk:SA F w w') (hF:¬ F g):JJ w' g off c N l:=by
 obtain ⟨⟨cur,ty,h1,h2,h3⟩,h4⟩:=h;exact ⟨⟨cur,ty,(hk.block g (dA h1) hF).trans h1,h2,h3⟩,h4⟩
theorem JJ.lt (h:JJ w g off c N l):g<w.heap.size:=by obtain ⟨⟨cur,ty,h1,_⟩,_⟩:=h; exact dA h1
theorem JJ.cells (h:JJ w g off c N l) (j:Nat) (u:Value) (hu:(uF l)[j]?=some u):w.cell? ⟨g,off + j,none⟩=some u:=by
 obtain ⟨⟨cur,ty,h1,h2,xf,h3⟩,h4⟩:=h;rw [cell_of_row w g (off + j) cur _ (0,0) h1];rw [<- h3,yz] at hu;split at hu
 ·rw [yw] at hu; simpa using hu
 ·cases hu
theorem JJ.drop (h:JJ w g off c N l) {k:Nat} (hk:k<=l.length):JJ w g (if c=k then off else off + k * 13) (c - k) N (l.drop k):=by
 obtain ⟨⟨cur,ty,h1,h2,xf,h3⟩,h4⟩:=h;have h6:=wJ l k;refine ⟨⟨cur,ty,h1,h2,?_,?_⟩,by rw [yr]; omega⟩
 ·split <;> omega
 ·rw [yr,<- h6,<- h3];split
  ·rename_i e;have:l.length=k:=by omega
   rw [this,Nat.sub_self,Nat.zero_mul,List.take_zero,yj (by rw [ym]; omega)]
  ·rw [<- List.drop_drop,List.drop_take,Nat.sub_mul]
theorem JJ.take (h:JJ w g off c N l) {k:Nat} (hk:k<=l.length):JJ w g off c N (l.take k):=by
 obtain ⟨⟨cur,ty,h1,h2,xf,h3⟩,h4⟩:=h;refine ⟨⟨cur,ty,h1,h2,xf,?_⟩,by rw [ym]; omega⟩;rw [<- sN,<- h3,List.take_take,ym,Nat.min_eq_left hk,Nat.min_eq_left (by omega)]
end
theorem JJ.app {w:World} {g off c:Nat} {l r:List eJ} {cur:Array Value} {ty:TypeId} (hg:w.heap[g]?=some (.cells cur ty (0,0))) (h2:off + c * 13<=cur.size) (h3:(cur.toList.drop off).take (l.length * 13)=uF l) (ga:l.length + r.length<=c) :
  JJ (w.setRow g (cur.toList.take (off + l.length * 13)++uF r++cur.toList.drop (off + l.length * 13 + (uF r).length)).toArray) g off c cur.size (l++r):=by
 have hr:=DC r;have wh:cur.toList.length=cur.size:=by simp
 refine ⟨⟨_,_,setRow_heap w g cur _ _ _ hg,?_,h2,?_⟩,by rw [yb]; exact ga⟩
 ·simp only [yF,yb,ym,yr,yG,hr];omega
 ·have ht:(cur.toList.take (off + l.length * 13)).length=off + l.length * 13:=by rw [ym]; omega
  have e1:(cur.toList.take (off + l.length * 13)).drop off=uF l:=by rw [List.drop_take,Nat.add_sub_cancel_left,h3]
  simp only;rw [yl,List.drop_append_of_le_length (by omega),e1,qJ,yb,Nat.add_mul,<- DC l,<- hr,<- yl,<- yb];exact List.take_left
theorem JJ.clear {w:World} {g off c N:Nat} {l:List eJ} (h:JJ w g off c N l) (ty:TypeId) (n m:Nat) (hn:l.length + n<=c) :
  ∃ w',(Builtin.clear_ #[66] ty #[.slice (some ⟨g,off + l.length * 13,none⟩) n m]).run Tryz.prog w=.ok (.tuple #[]) w'/\JJ w' g off c N l/\SA (fun b=>b=g) w w':=by
 obtain ⟨⟨cur,t0,h1,h2,xf,h3⟩,h4⟩:=h;have dg:∀ u∈myZ.cells.toList,u.oneCell'=true:=fun u hu=>y8.1 (show myZ.cells.toList.all (fun u=>u.oneCell')=true by rfl) u hu
 have rg:myZ.cells.size=13:=rfl;obtain ⟨w',ra,r1,r2,r3,r4,r5⟩:=XW (P:=Tryz.prog) w 66 48 t0 ty _ f8 (myzv w) dg g (off + l.length * 13) n m cur h1 (by rw [rg]; omega);refine ⟨w',r1,⟨⟨ra,_,r2,by omega,xf,?_⟩,h4⟩,r5⟩;have e:∀ L:List Value,(L.drop off).take (l.length * 13)=(L.take (off + l.length * 13)).drop off:=fun L=>by rw [List.drop_take,Nat.add_sub_cancel_left]
 rw [e,r4,<- e,h3]
theorem CX (w:World) (ty t0:TypeId) (g off dLen dCap:Nat) (a:Addr) (sLen sCap:Nat) (L:List Value) (cs:List Value)
  (hg:w.heap[g]?=some (.cells L.toArray t0 (0,0))) (hn:cs.length=Nat.min sLen dLen * 13) (wo:∀ j v,cs[j]?=some v->w.cell? (a.add j)=some v) (eg:off + cs.length<=L.length) (h1:∀ v∈cs,v.oneCell'=true) :
  (Builtin.copy_ #[66,66] ty #[.slice (some ⟨g,off,none⟩) dLen dCap,.slice (some a) sLen sCap]).run Tryz.prog w=.ok (goInt (Nat.min sLen dLen:Nat)) (w.setRow g (lay L off cs).toArray):=by
 have:=I5 (P:=Tryz.prog) w 66 66 ty 48 13 f8 mysz g off dLen dCap a sLen sCap L.toArray t0 cs hg hn wo (by simpa using eg) h1;exact this
theorem JJ.list {w:World} {g off c N:Nat} {l:List eJ} (h:JJ w g off c N l):∃ (L:List Value) (ty:TypeId),w.heap[g]?=some (.cells L.toArray ty (0,0))/\L.length=N/\off + c * 13<=L.length/\∀ j,j<l.length * 13->L[off + j]?=(uF l)[j]?:=by
 obtain ⟨⟨cur,ty,h1,h2,xf,h3⟩,h4⟩:=h;refine ⟨cur.toList,ty,h1,by simpa using h2,by rw [yG]; omega,fun j hj=>?_⟩;rw [<- h3,yz,if_pos hj,yw]
theorem JJ.of_list {w:World} {g off c:Nat} {l:List eJ} {L:List Value} {ty:TypeId} (h1:w.heap[g]?=some (.cells L.toArray ty (0,0))) (h2:off + c * 13<=L.length) (h3:∀ j,j<l.length * 13->L[off + j]?=(uF l)[j]?) (h4:l.length<=c):JJ w g off c L.length l:=by
 refine ⟨⟨_,_,h1,by simp,h2,?_⟩,h4⟩;apply List.ext_getElem?;intro j;rw [yz];split
 ·rename_i hj;rw [yw];exact h3 j hj
 ·rename_i hj;rw [List.getElem?_eq_none (by rw [DC]; omega)]
theorem C5 (l:List eJ) (x:eJ) (i j:Nat) (hi:i<=l.length):(uF (l.take i++x :: l.drop i))[j]?=if j<i * 13 then (uF l)[j]? else if j<i * 13 + 13 then x.cells[j - i * 13]? else (uF l)[j - 13]?:=by
 have ht:(uF (l.take i)).length=i * 13:=by rw [DC,ym,Nat.min_eq_left hi]
 have hx:=x.len;rw [qJ,DK];split
 ·rw [yL (by omega),<- sN,yz,if_pos (by omega)]
 ·split
  ·rw [yJ (by omega),ht,yL (by omega)]
  ·rw [yJ (by omega),ht,yJ (by omega),hx,<- wJ,yw];congr 1; omega
theorem JJ.ins {w:World} {g off c:Nat} {l:List eJ} {x:eJ} {L:List Value} {i:Nat} {ty:TypeId} (hi:i<=l.length) (hL:off + c * 13<=L.length) (hc:∀ j,j<l.length * 13->L[off + j]?=(uF l)[j]?) (ga:l.length + 1<=c) (hg:w.heap[g]?=some (.cells (lay (lay L (off + (i + 1) * 13) (uF (l.drop i))) (off + i * 13) x.cells).toArray ty (0,0))) :
  JJ w g off c L.length (l.take i++x :: l.drop i):=by
 have hx:=x.len;have hd:(uF (l.drop i)).length=(l.length - i) * 13:=by rw [DC,yr]
 have ea:(l.take i++x :: l.drop i).length=l.length + 1:=by simp; omega
 have h1:off + (i + 1) * 13 + (uF (l.drop i)).length<=L.length:=by omega
 have mh:=BF h1;have h2:off + i * 13 + x.cells.length<=(lay L (off + (i + 1) * 13) (uF (l.drop i))).length:=by rw [mh,hx]; omega
 have jj:=BF h2;have:=JJ.of_list hg (c:=c) (off:=off) (l:=l.take i++x :: l.drop i) (by rw [jj,mh]; exact hL) (fun j hj=>?_) (by omega)
 ·rwa [jj,mh] at this
 rw [ea] at hj;rw [C5 l x i j hi,HJ _ _ _ _ h2,HJ _ _ _ _ h1,hx,hd];by_cases c1:j<i * 13
 ·rw [if_pos c1,if_neg (by omega),if_neg (by omega)];exact hc j (by omega)
 ·rw [if_neg c1];by_cases c2:j<i * 13 + 13
  ·rw [if_pos c2,if_pos (by omega)];congr 1; omega
  ·rw [if_neg c2,if_neg (by omega),if_pos (by omega),<- wJ,yw];congr 1; omega
theorem JJ.ins2 {w:World} {g c:Nat} {l:List eJ} {x:eJ} {L:List Value} {i:Nat} {ty:TypeId} (hi:i<=l.length) (hL:c * 13<=L.length) (hc:∀ j,j<i * 13->L[j]?=(uF l)[j]?) (ga:l.length + 1<=c) (hg:w.heap[g]?=some (.cells (lay (lay L (i * 13) x.cells) ((i + 1) * 13) (uF (l.drop i))).toArray ty (0,0))) :
  JJ w g 0 c L.length (l.take i++x :: l.drop i):=by
 have hx:=x.len;have hd:(uF (l.drop i)).length=(l.length - i) * 13:=by rw [DC,yr]
 have ea:(l.take i++x :: l.drop i).length=l.length + 1:=by simp; omega
 have h1:i * 13 + x.cells.length<=L.length:=by omega
 have mh:=BF h1;have h2:(i + 1) * 13 + (uF (l.drop i)).length<=(lay L (i * 13) x.cells).length:=by rw [mh,hd]; omega
 have jj:=BF h2;have:=JJ.of_list hg (c:=c) (off:=0) (l:=l.take i++x :: l.drop i) (by rw [jj,mh]; omega) (fun j hj=>?_) (by omega)
 ·rwa [jj,mh] at this
 rw [ea] at hj;rw [yn,C5 l x i j hi,HJ _ _ _ _ h2,HJ _ _ _ _ h1,hx,hd];by_cases c1:j<i * 13
 ·rw [if_pos c1,if_neg (by omega),if_neg (by omega)];exact hc j c1
 ·rw [if_neg c1];by_cases c2:j<i * 13 + 13
  ·rw [if_pos c2,if_neg (by omega),if_pos (by omega)]
  ·rw [if_neg c2,if_pos (by omega),<- wJ,yw];congr 1; omega
end
section
open Go Go.RowKit
def myCut (g off N:Nat) (w:World) (l:List eJ) (e:Ending) (w':World):Prop:=∃ c,e=.returned (.slice (some ⟨g,off,none⟩) l.length c)/\JJ w' g off c N l/\SA (fun b=>b=g) w w'
set_option maxHeartbeats 400000 in
theorem mydelete (g off c N:Nat) (l:List eJ) (n i:Nat) (w:World) (hn:l.length=n) (hi:i<n) (ea:n<=1000) (h:JJ w g off c N l) :
  Calls Tryz.prog 69 #[.slice (some ⟨g,off,none⟩) n c,.int .i64 i,.int .i64 ((i:Int) + 1)] w (myCut g off N w (l.eraseIdx i)):=by
 have jd:n<=c:=by have:=h.len; omega
 have jb:((i:Int) == (i:Int) + 1)=false:=by simp; omega
 obtain ⟨⟨cur,t0,hg,hN,ac,nv⟩,_⟩:=h.take (k:=i) (by omega);have pj:(l.take i).length=i:=by rw [ym]; omega
 have re:(l.drop (i + 1)).length=n - (i + 1):=by rw [yr,hn]
 have hd:=h.drop (k:=i + 1) (by omega);obtain ⟨to,gq⟩:∃ to:Nat,to=(if c=i + 1 then off else off + (i + 1) * 13):=⟨_,rfl⟩;rw [<- gq] at hd;have ox:(if c=i + 1 then some (⟨g,off,none⟩:Addr) else (some (⟨g,off,none⟩:Addr)).map (·.add ((i + 1) * 13)))=some ⟨g,to,none⟩:=by
  rw [gq]; split <;> simp [Addr.add_lit]
 have rf:=myhi (some ⟨g,off,none⟩) n c i (by omega);have ci:=T1 (some ⟨g,off,none⟩) n c (i + 1) (by omega);rw [ox] at ci;simp only [Int.natCast_add,Int.cast_ofNat_Int] at ci;obtain ⟨inf,nd,ne,gf,tg⟩:=info_parts myi;have hr:=fun ty=>xG (P:=Tryz.prog) w.drew 66 ty 48 inf 13 f8 nd gf g off i c cur _ hg ⟨g,to,none⟩ (n - (i + 1)) (c - (i + 1)) (uF (l.drop (i + 1))) (by rw [DC,re]) (fun j u hu=>by rw [Addr.add_lit]; exact hd.cells j u hu) (BT _) (by omega) (by rw [DC,re]; omega)
 have hE:=JJ.app (w:=w.drew) (c:=c) (off:=off) (l:=l.take i) (r:=l.drop (i + 1)) hg (by omega) nv (by rw [pj,re]; omega);rw [pj,hN] at hE;obtain ⟨w1,ii⟩:∃ w1,w1=w.drew.setRow g (cur.toList.take (off + i * 13)++uF (l.drop (i + 1))++cur.toList.drop (off + i * 13 + (uF (l.drop (i + 1))).length)).toArray:=⟨_,rfl⟩;have od:SA (fun b=>b=g) w w1:=by rw [ii]; exact ((SA.refl (fun b=>b=g) w).drew).setRow (fun _=>rfl) _
 rw [<- ii] at hE;simp only [<- ii] at hr;clear ii gq hd hg hN ac nv ox;have HE:=eL hE;have HK:=eL od;have HT:=eL pj;have HD:=eL re;have HN:=eL hn;clear h hE od pj re hn
 go_enter Tryz.func69,Tryz.ntmps69
 go_wp2_with fail
 go_region_held3 (fun _=>True) (trivial) (refine KQ rfl _ _ _ _ rfl _ _ rfl rfl (hr _) ?_)
 have od:i + (n - (i + 1)) + 1=n:=by omega
 have sb:(l.take i++l.drop (i + 1)).length=i + (n - (i + 1)):=by rw [yb,HT.out,HD.out]
 have eb:l.eraseIdx i=l.take i++l.drop (i + 1):=List.eraseIdx_eq_take_drop_succ l i;generalize i + (n - (i + 1))=k at *
 generalize l.take i++l.drop (i + 1)=l' at *
 subst sb;have gm:=mylh (some ⟨g,off,none⟩) l'.length c l'.length n (by omega) (by omega);rw [if_neg (by omega),yp,Addr.add_lit] at gm;obtain ⟨w2,hclr,xw,nn⟩:=HE.out.clear 0 (n - l'.length) (c - l'.length) (by omega);have HO2:=eL xw;have HEL:=eL eb;clear xw eb rf ci hr HE HT HD HN
 go_wp2_with fail
 go_ret
 rw [HEL.out];exact ⟨c,rfl,HO2.out,HK.out.trans nn (fun _ _ h=>h)⟩
end
section
open Go Go.RowKit
def B5 (w:World) (v:Value) (l:List eJ) (e:Ending) (w':World):Prop:=∃ g c N,e=.returned (.slice (some ⟨g,0,none⟩) l.length c)/\JJ w' g 0 c N l/\SA (fun b=>DL v=some b) w w'/\(w.heap.size<=g\/DL v=some g/\∃ cur ty,w.heap[g]?=some (.cells cur ty (0,0))/\cur.size=N)
def QM (w:World) (vb vo:Nat) (x:eJ):Prop:=∀ (j:Nat) (u:Value),x.cells[j]?=some u->w.cell? ⟨vb,vo + j,none⟩=some u
theorem QM.congr {w w':World} {vb vo:Nat} {x:eJ} (h:QM w vb vo x) (he:w'.heap[vb]?=w.heap[vb]?):QM w' vb vo x:=fun j u hu=>by
 have:=h j u hu;unfold World.cell? at this ⊢;simp only [he];exact this
theorem QM.first {w:World} {vb vo:Nat} {x:eJ} (h:QM w vb vo x):∃ u,w.cell? ⟨vb,vo,none⟩=some u:=by
 have hl:=x.len;obtain ⟨u,hu⟩:∃ u,x.cells[0]?=some u:=⟨_,yg (by omega)⟩;exact ⟨u,h 0 u hu⟩
theorem QM.lt {w:World} {vb vo:Nat} {x:eJ} (h:QM w vb vo x):vb<w.heap.size:=by
 obtain ⟨u,hu⟩:=h.first;obtain ⟨c,ty,fz,hc,_⟩:=dL hu;exact dA hc
theorem myapp1 (w:World) (ty:TypeId) (v:Value) (l:List eJ) (x:eJ) (vb vo mc:Nat) (h:myO w v l) (hx:QM w vb vo x) (ea:l.length<=900) :
  ∃ v' w',(Builtin.append_ #[66,66] ty #[v,.slice (some ⟨vb,vo,none⟩) 1 mc]).run Tryz.prog w=.ok v' w'/\B5 w v (l++[x]) (.returned v') w':=by
 obtain ⟨inf,nd,ne,gf,tg⟩:=info_parts myi;have pb:∀ j u,(uF [x])[j]?=some u->w.cell? ((⟨vb,vo,none⟩:Addr).add j)=some u:=fun j u hu=>by
  rw [Addr.add_lit];exact hx j u (by simpa [uF] using hu)
 rcases h with ⟨rfl,rfl⟩ | ⟨g,c,N,rfl,hE⟩
 ·obtain ⟨cap,ra,g1,g2,g3,g4,hr⟩:=LD (P:=Tryz.prog) w 66 ty 48 inf _ 13 160 f8 nd ne gf tg rfl none 0 0 [] rfl (fun h0=>absurd h0 (by omega)) (fun _=>⟨rfl,rfl⟩) ⟨vb,vo,none⟩ 1 mc (uF [x]) (DC _) pb (by omega) (ye _) (by omega) (by omega);refine ⟨_,_,hr,w.heap.size,cap,ra.size,rfl,⟨⟨ra,_,heap_alloc_new w.drew _,rfl,by omega,?_⟩,g1⟩,SA.of_below (EN ((Below.refl _ _).alloc (ye _) _)) _,.inl (ye _)⟩;rw [List.drop_zero];exact g4
 ·have hc:=hE.len;by_cases ga:l.length + 1<=c
  ·obtain ⟨⟨cur,t0,h1,hN,h2,h3⟩,h4⟩:=hE;have hr:=xG (P:=Tryz.prog) w 66 ty 48 inf 13 f8 nd gf g 0 l.length c cur _ h1 ⟨vb,vo,none⟩ 1 mc (uF [x]) (DC _) pb (BT _) ga (by rw [DC]; simp; omega);have hE:=JJ.app (c:=c) (off:=0) (l:=l) (r:=[x]) h1 (by omega) h3 ga;rw [hN] at hE;exact ⟨_,_,hr,g,c,N,by rw [yb]; rfl,hE,(SA.refl (fun b=>DL (.slice (some ⟨g,0,none⟩) l.length c)=some b) w).setRow (fun _=>rfl) _,.inr ⟨rfl,cur,t0,h1,hN⟩⟩
  ·obtain ⟨cap,ra,g1,g2,g3,g4,hr⟩:=LD (P:=Tryz.prog) w 66 ty 48 inf _ 13 160 f8 nd ne gf tg rfl (some ⟨g,0,none⟩) l.length c (uF l) (DC l) (fun h0=>⟨_,rfl,fun j u hu=>by rw [Addr.add_lit]; exact hE.cells j u hu⟩) (fun hA=>nomatch hA) ⟨vb,vo,none⟩ 1 mc (uF [x]) (DC _) pb (by omega) hc (by omega) (by omega);refine ⟨_,_,hr,w.heap.size,cap,ra.size,by rw [yb]; rfl,⟨⟨ra,_,heap_alloc_new w.drew _,rfl,by omega,?_⟩,by rw [yb]; exact g1⟩,SA.of_below (EN ((Below.refl _ _).alloc (ye _) _)) _,.inl (ye _)⟩;rw [List.drop_zero,yb,qJ];exact g4
theorem myO.shape {w:World} {v:Value} {l:List eJ} (h:myO w v l):∃ A c,v=.slice A l.length c/\l.length<=c/\(A=none->c=0):=by
 rcases h with ⟨rfl,rfl⟩ | ⟨g,c,N,rfl,h⟩
 ·exact ⟨none,0,rfl,ye _,fun _=>rfl⟩
 ·exact ⟨_,c,rfl,h.len,fun h=>by cases h⟩
set_option maxHeartbeats 1000000 in
theorem myendG (A:Option Addr) (n c vb vo mc:Nat) (w:World) (hc:n<=c) (ea:n<=900) {v':Value} {w':World} (hr:(Builtin.append_ #[66,66] 66 #[.slice A n c,.slice (some ⟨vb,vo,none⟩) 1 mc]).run Tryz.prog w=.ok v' w') :
  Calls Tryz.prog 68 #[.slice A n c,.int .i64 n,.slice (some ⟨vb,vo,none⟩) 1 mc] w fun e w2=>e=.returned v'/\w2=w':=by
 have rf:=T1 A n c n (ye _);generalize wr:(if c=n then A else A.map (·.add (n * 13)))=A1 at rf;clear wr
 go_enter Tryz.func68,Tryz.ntmps68
 go_wp2_with (at_builtin; refine HG _ rfl _ _ _ _ rfl _ _ rfl rfl hr ?_)
 go_ret
 exact ⟨rfl,rfl⟩
theorem myend (v:Value) (l:List eJ) (x:eJ) (n vb vo mc:Nat) (w:World) (hn:l.length=n) (h:myO w v l) (hx:QM w vb vo x) (ea:n<=900) :
  Calls Tryz.prog 68 #[v,.int .i64 n,.slice (some ⟨vb,vo,none⟩) 1 mc] w (B5 w v (l++[x])):=by
 obtain ⟨v',w',hr,h1⟩:=myapp1 w 66 v l x vb vo mc h hx (by omega);obtain ⟨A,c,hv,hc,ki⟩:=h.shape;rw [hn] at hv hc;subst hv;refine (myendG A n c vb vo mc w hc ea hr).mono ?_;rintro e w2 ⟨rfl,rfl⟩;exact h1
theorem myend0 (A:Option Addr) (x:eJ) (vb vo mc:Nat) (w:World) (hx:QM w vb vo x) :
  Calls Tryz.prog 68 #[.slice A 0 0,.int .i64 0,.slice (some ⟨vb,vo,none⟩) 1 mc] w fun e w'=>∃ g c N,e=.returned (.slice (some ⟨g,0,none⟩) 1 c)/\JJ w' g 0 c N [x]/\SA (fun _=>False) w w'/\w.heap.size<=g:=by
 obtain ⟨inf,nd,ne,gf,tg⟩:=info_parts myi;have pb:∀ j u,(uF [x])[j]?=some u->w.cell? ((⟨vb,vo,none⟩:Addr).add j)=some u:=fun j u hu=>by
  rw [Addr.add_lit];exact hx j u (by simpa [uF] using hu)
 obtain ⟨cap,ra,g1,g2,g3,g4,hr⟩:=LD (P:=Tryz.prog) w 66 66 48 inf _ 13 160 f8 nd ne gf tg rfl A 0 0 [] rfl (fun h0=>absurd h0 (by omega)) (fun _=>⟨rfl,rfl⟩) ⟨vb,vo,none⟩ 1 mc (uF [x]) (DC _) pb (by omega) (ye _) (by omega) (by omega);refine (myendG A 0 0 vb vo mc w (ye _) (by omega) hr).mono ?_;rintro e w2 ⟨rfl,rfl⟩;refine ⟨w.heap.size,cap,ra.size,rfl,⟨⟨ra,_,heap_alloc_new w.drew _,rfl,by omega,?_⟩,g1⟩,SA.of_below (EN ((Below.refl _ _).alloc (ye _) _)) _,ye _⟩;rw [List.drop_zero];exact g4
set_option maxHeartbeats 1000000 in
theorem myshift (g c N vb vo mc:Nat) (l:List eJ) (x:eJ) (n i:Nat) (w:World) (hn:l.length=n) (hi:i<n) (ea:n<=1000) (h:JJ w g 0 c N l) (ga:n + 1<=c) (hx:QM w vb vo x) (jb:vb≠g) :
  Calls Tryz.prog 68 #[.slice (some ⟨g,0,none⟩) n c,.int .i64 i,.slice (some ⟨vb,vo,none⟩) 1 mc] w fun e w'=>e=.returned (.slice (some ⟨g,0,none⟩) (n + 1) c)/\JJ w' g 0 c N (l.take i++x :: l.drop i)/\SA (fun b=>b=g) w w':=by
 have gt:=h.lt;have zi:=h.drop (k:=i) (by omega);obtain ⟨L,t0,gl,dv,js,fv⟩:=h.list;obtain ⟨u0,tx⟩:=hx.first;have hov:∀ lb cb,(callFunc 107 #[.slice (some ⟨vb,vo,none⟩) 1 mc,.slice (some ⟨g,(i + 1) * 13,none⟩) lb cb]).run Tryz.prog w=.ok (.value (.bool false)) w:=fun lb cb=>by
  rw [run_callFunc_extern (P:=Tryz.prog) (e:=Extern.SlicesOverlaps.overlaps #[66,66] #[4]) Tryz.func107 (by kernel_rfl) (by kernel_rfl) (by kernel_rfl) (by kernel_rfl),
   lN w 66 4 48 f8 13 mysiz ⟨vb,vo,none⟩ ⟨g,(i + 1) * 13,none⟩ 1 mc lb cb jb u0 tx L.toArray t0 gl (by rw [yF]; omega)]
  rfl
 have tg:¬ ((i:Int)=(n:Int)):=by omega
 have mixed:Tryz.prog.follows .mixedOrders=true:=by kernel_rfl
 have re:(l.drop i).length=n - i:=by rw [yr,hn]
 have ii:IntKind.i64.wrap ((i:Int) + 1)=(i:Int) + 1:=IntWalk.i64_in _ (by omega);have su:IntKind.i64.wrap ((n:Int) + 1)=(n:Int) + 1:=IntWalk.i64_in _ (by omega);have hA:∀ k,k<c->(if c=k then some (⟨g,0,none⟩:Addr) else (some (⟨g,0,none⟩:Addr)).map (·.add (k * 13)))=some ⟨g,k * 13,none⟩:=fun k hk=>by rw [if_neg (by omega)]; simp [Addr.add_lit]
 have rf:=T1 (some ⟨g,0,none⟩) n c i (by omega);have ci:=myhi (some ⟨g,0,none⟩) n c (n + 1) (by omega);have gm:=T1 (some ⟨g,0,none⟩) (n + 1) c (i + 1) (by omega);have zt:=T1 (some ⟨g,0,none⟩) (n + 1) c i (by omega);rw [hA i (by omega)] at rf zt;rw [hA (i + 1) (by omega)] at gm;rw [Nat.add_sub_add_right] at gm;simp only [Int.natCast_add,Int.cast_ofNat_Int] at ci gm;have gg:∀ ty dc sc,(Builtin.copy_ #[66,66] ty #[.slice (some ⟨g,(i + 1) * 13,none⟩) (n - i) dc,.slice (some ⟨g,i * 13,none⟩) (n + 1 - i) sc]).run Tryz.prog w.drew=.ok (goInt (Nat.min (n + 1 - i) (n - i):Nat)) (w.drew.setRow g (lay L ((i + 1) * 13) (uF (l.drop i))).toArray):=fun ty dc sc =>
  CX w.drew ty t0 g ((i + 1) * 13) (n - i) dc ⟨g,i * 13,none⟩ (n + 1 - i) sc L (uF (l.drop i)) gl (by rw [DC,re]; congr 1; simp only [Nat.min_def]; split <;> omega)
   (fun j v hj=>by
    have:=h.cells (i * 13 + j) v (by rw [<- wJ,yw] at hj; exact hj);rw [Addr.add_lit]
    rwa [yn] at this) (by rw [DC,re]; omega) (BT _)
 have rj:=x.len;have h1l:(i + 1) * 13 + (uF (l.drop i)).length<=L.length:=by rw [DC,re]; omega
 obtain ⟨L1,ld⟩:∃ L1,L1=lay L ((i + 1) * 13) (uF (l.drop i)):=⟨_,rfl⟩;have zr:L1.length=L.length:=by rw [ld]; exact BF h1l
 rw [<- ld] at gg;obtain ⟨W1,oh⟩:∃ W1,W1=w.drew.setRow g L1.toArray:=⟨_,rfl⟩;have we:W1.heap[g]?=some (.cells L1.toArray t0 (0,0)):=by rw [oh]; exact setRow_heap w.drew g _ _ _ _ gl
 have sm:QM W1 vb vo x:=hx.congr (by rw [oh,setRow_other _ _ _ _ jb]; rfl);have od:SA (fun b=>b=g) w W1:=by rw [oh]; exact ((SA.refl (fun b=>b=g) w).drew).setRow (fun _=>rfl) _
 have li:∀ ty dc,(Builtin.copy_ #[66,66] ty #[.slice (some ⟨g,i * 13,none⟩) (n + 1 - i) dc,.slice (some ⟨vb,vo,none⟩) 1 mc]).run Tryz.prog W1=.ok (goInt (Nat.min 1 (n + 1 - i):Nat)) (W1.setRow g (lay L1 (i * 13) x.cells).toArray):=fun ty dc =>
  CX W1 ty t0 g (i * 13) (n + 1 - i) dc ⟨vb,vo,none⟩ 1 mc L1 x.cells we (by rw [rj]; simp only [Nat.min_def]; split <;> omega) (fun j v hj=>by rw [Addr.add_lit]; exact sm j v hj) (by omega) x.one
 rw [<- oh] at gg;have hE:JJ (W1.setRow g (lay L1 (i * 13) x.cells).toArray) g 0 c L.length (l.take i++x :: l.drop i):=JJ.ins (c:=c) (off:=0) (l:=l) (i:=i) (L:=L) (by omega) js fv (by omega) (by rw [yn,yn,<- ld]; exact setRow_heap W1 g _ _ _ _ we);rw [dv] at hE;have HE:=eL hE;have HK:=eL od;clear hE od h gl js fv dv we sm oh ld hx zi tx
 go_enter Tryz.func68,Tryz.ntmps68
 go_wp2_with (simp only [hov])
 go_region_law_o (refine mH rfl _ _ 66 66 rfl _ _ (by simp [Act.eval,Act.put]) (by simp [Act.eval,Act.put]) (gg _ _ _) ?_)
 go_wp2_with (at_builtin; refine MF _ rfl _ _ 66 66 rfl _ _ rfl rfl (li _ _) ?_)
 go_ret
 exact ⟨rfl,HE.out,HK.out.setRow (fun _=>rfl) _⟩
theorem myu3:Tryz.prog.underlying 3=some (.int .i64):=by kernel_rfl
set_option maxHeartbeats 1000000 in
theorem mygrow (g c N vb vo mc:Nat) (l:List eJ) (x:eJ) (n i:Nat) (w:World) (hn:l.length=n) (hi:i<n) (ea:n<=900) (h:JJ w g 0 c N l) (ga:¬ n + 1<=c) (hx:QM w vb vo x) :
  Calls Tryz.prog 68 #[.slice (some ⟨g,0,none⟩) n c,.int .i64 i,.slice (some ⟨vb,vo,none⟩) 1 mc] w (B5 w (.slice (some ⟨g,0,none⟩) n c) (l.take i++x :: l.drop i)):=by
 have jd:n<=c:=by have:=h.len; omega
 have gt:=h.lt;have hvl:=hx.lt;obtain ⟨inf,nd,ne,gf,tg⟩:=info_parts myi;have hz2':¬ ((i:Int)=(n:Int)):=by omega
 have mixed:Tryz.prog.follows .mixedOrders=true:=by kernel_rfl
 have re:(l.drop i).length=n - i:=by rw [yr,hn]
 have pj:(l.take i).length=i:=by rw [ym]; omega
 have ii:IntKind.i64.wrap ((i:Int) + 1)=(i:Int) + 1:=IntWalk.i64_in _ (by omega);have su:IntKind.i64.wrap ((n:Int) + 1)=(n:Int) + 1:=IntWalk.i64_in _ (by omega);have hw3:IntKind.i64.wrap ((n:Int) + 1 - (i:Int))=((n + 1 - i:Nat):Int):=by rw [IntWalk.i64_in _ (by omega)]; omega
 have rf:=T1 (some ⟨g,0,none⟩) n c i (by omega);rw [if_neg (by omega),yp,Addr.add_lit,yn] at rf;have ci:=myhi (some ⟨g,0,none⟩) n c i (by omega);have zi:=h.take (k:=i) (by omega);have ew:=run_firstCells_some (P:=Tryz.prog) w.drew inf.size i ⟨g,0,none⟩ i c (uF (l.take i)) (by rw [DC,pj,gf]) (fun j u hu=>by rw [Addr.add_lit]; exact zi.cells j u hu);have ur:Builtin.nextslicecap (i + (n + 1 - i)) c * inf.bytes<=281474976710656:=by
  have h1:Builtin.nextslicecap (i + (n + 1 - i)) c<=2 * (i + (n + 1 - i)):=nextslicecap_le (by omega);rw [tg];omega
 have dn:=fun ty=>Lib.run_append_grow_zeros (P:=Tryz.prog) w 66 3 ty 48 inf _ .i64 .i64 f8 myu3 nd ne (some ⟨g,0,none⟩) i c (uF (l.take i)) ew (n + 1 - i) (by omega) (by omega) (by omega) (by omega) (by rw [tg]; omega) ur
 have e1:i + (n + 1 - i)=n + 1:=by omega
 rw [e1] at dn ur;have hcg:=grownCap_ge w (n + 1) c 48;have pp:=grownCap_le_maxLen w (n + 1) c 48 (by have:maxLen=9223372036854775807:=rfl; omega);generalize grownCap w (n + 1) c 48=cap at dn hcg pp;obtain ⟨L,hL⟩:∃ L:List Value,((uF (l.take i)).toArray++Builtin.zeroCells myZ.cells (n + 1 - i)++Builtin.zeroCells myZ.cells (cap - (n + 1)))=L.toArray:=⟨_,rfl⟩;have hLl:L.length=cap * 13:=by
  have:=congrArg Array.size hL;simp only [Array.size_append,size_zeroCells,yF,DC,pj] at this;have h5:myZ.cells.size=13:=rfl;rw [h5] at this;omega
 have bv:∀ j,j<i * 13->L[j]?=(uF l)[j]?:=fun j hj=>by
  have h1:L[j]?=(L.toArray)[j]?:=by simp
  rw [h1,<- hL,Array.append_assoc,Array.getElem?_append_left (by simp [DC,pj]; omega)];simp only [List.getElem?_toArray];rw [<- sN,yz,if_pos hj]
 rw [hL] at dn;clear hL;have rj:=x.len;have gu:∀ k,k<cap->∀ W,(Instr.slice 66 (.slice (some ⟨w.heap.size,0,none⟩) (n + 1) cap) (some (.int .i64 (k:Int))) none none).run Tryz.prog W=(if k<=n + 1 then .ok (.slice (some ⟨w.heap.size,k * 13,none⟩) (n + 1 - k) (cap - k)) W else (Instr.slice 66 (.slice (some ⟨w.heap.size,0,none⟩) (n + 1) cap) (some (.int .i64 (k:Int))) none none).run Tryz.prog W):=fun k hk W=>by
  split
  ·rename_i h;have:=T1 (some ⟨w.heap.size,0,none⟩) (n + 1) cap k h W;rw [if_neg (by omega),yp,Addr.add_lit,yn] at this;exact this
  ·rfl
 have gm:=fun W=>(gu i (by omega) W).trans (by rw [if_pos (by omega)])
 have zt:=fun W=>(gu (i + 1) (by omega) W).trans (by rw [if_pos (by omega)])
 simp only [Nat.add_sub_add_right,Int.natCast_add,Int.cast_ofNat_Int] at zt;clear gu;obtain ⟨W0,iq⟩:∃ W0,W0=w.drew.alloc (.cells L.toArray 48):=⟨_,rfl⟩;have dk:W0.heap[w.heap.size]?=some (.cells L.toArray 48 (0,0)):=by rw [iq]; exact heap_alloc_new w.drew _
 have gj:Below w.heap.size w W0:=by rw [iq]; exact EN ((Below.refl _ _).alloc (ye _) _)
 rw [<- iq] at dn;have rm:QM W0 vb vo x:=hx.congr (gj.block vb hvl);have gg:∀ ty dc,(Builtin.copy_ #[66,66] ty #[.slice (some ⟨w.heap.size,i * 13,none⟩) (n + 1 - i) dc,.slice (some ⟨vb,vo,none⟩) 1 mc]).run Tryz.prog W0=.ok (goInt (Nat.min 1 (n + 1 - i):Nat)) (W0.setRow w.heap.size (lay L (i * 13) x.cells).toArray):=fun ty dc =>
  CX W0 ty _ w.heap.size (i * 13) (n + 1 - i) dc ⟨vb,vo,none⟩ 1 mc L x.cells dk (by rw [rj]; simp only [Nat.min_def]; split <;> omega) (fun j v hj=>by rw [Addr.add_lit]; exact rm j v hj) (by omega) x.one
 have h1l:i * 13 + x.cells.length<=L.length:=by omega
 obtain ⟨L1,ld⟩:∃ L1,L1=lay L (i * 13) x.cells:=⟨_,rfl⟩;have zr:L1.length=L.length:=by rw [ld]; exact BF h1l
 obtain ⟨W1,oh⟩:∃ W1,W1=W0.setRow w.heap.size L1.toArray:=⟨_,rfl⟩;rw [<- ld,<- oh] at gg;have we:W1.heap[w.heap.size]?=some (.cells L1.toArray 48 (0,0)):=by rw [oh]; exact setRow_heap W0 w.heap.size _ _ _ _ dk
 have od:Below w.heap.size w W1:=by rw [oh]; exact gj.trans ⟨rfl,rfl,rfl,by simp,fun k hk=>setRow_other W0 w.heap.size k _ (by omega)⟩
 have xr:=(h.drop (k:=i) (by omega)).keep (SA.of_below od (fun _=>False)) (fun h=>h);rw [if_neg (by omega),yn] at xr;have li:∀ ty dc sc,(Builtin.copy_ #[66,66] ty #[.slice (some ⟨w.heap.size,(i + 1) * 13,none⟩) (n - i) dc,.slice (some ⟨g,i * 13,none⟩) (n - i) sc]).run Tryz.prog W1.drew=.ok (goInt (Nat.min (n - i) (n - i):Nat)) (W1.drew.setRow w.heap.size (lay L1 ((i + 1) * 13) (uF (l.drop i))).toArray):=fun ty dc sc =>
  CX W1.drew ty _ w.heap.size ((i + 1) * 13) (n - i) dc ⟨g,i * 13,none⟩ (n - i) sc L1 (uF (l.drop i)) we (by rw [DC,re]; congr 1; simp only [Nat.min_def]; split <;> omega)
   (fun j v hj=>by rw [Addr.add_lit]; exact xr.cells j v hj) (by rw [DC,re]; omega) (BT _)
 obtain ⟨W2,jq⟩:∃ W2,W2=W1.drew.setRow w.heap.size (lay L1 ((i + 1) * 13) (uF (l.drop i))).toArray:=⟨_,rfl⟩;have hE:JJ W2 w.heap.size 0 cap L.length (l.take i++x :: l.drop i):=JJ.ins2 (c:=cap) (l:=l) (i:=i) (L:=L) (by omega) (by omega) bv (by omega) (by rw [jq,<- ld]; exact setRow_heap W1.drew w.heap.size _ _ _ _ we);have nn:Below w.heap.size w W2:=by rw [jq]; exact od.trans ⟨rfl,rfl,rfl,by simp,fun k hk=>setRow_other W1.drew w.heap.size k _ (by have:=od.size; omega)⟩
 rw [<- jq] at li;have nb:(l.take i++x :: l.drop i).length=n + 1:=by simp; omega
 have HE:=eL hE;have HK:=eL nn;have HL:=eL nb;clear hE nn od gj xr h zi ew dk rm we iq oh jq ld hx nb bv
 go_enter Tryz.func68,Tryz.ntmps68
 go_wp2_with (first | (at_builtin; refine HG _ rfl _ _ _ _ rfl _ _ rfl rfl (dn _) ?_) | (at_builtin; refine MF _ rfl _ _ 66 66 rfl _ _ rfl rfl (gg _ _) ?_))
 go_region_law_o (refine mH rfl _ _ 66 66 rfl _ _ (by simp [Act.eval,Act.put]) (by simp [Act.eval,Act.put]) (li _ _ _) ?_)
 go_wp2_with fail
 go_ret
 exact ⟨w.heap.size,cap,_,congrArg (fun k=>Ending.returned (Value.slice (some ⟨w.heap.size,0,none⟩) k cap)) HL.out.symm,HE.out,SA.of_below HK.out _,.inl (ye _)⟩
theorem myinsert (v:Value) (l:List eJ) (x:eJ) (i vb vo mc:Nat) (w:World) (hi:i<=l.length) (h:myO w v l) (hx:QM w vb vo x) (jb:DL v≠some vb) (ea:l.length<=900) :
  Calls Tryz.prog 68 #[v,.int .i64 i,.slice (some ⟨vb,vo,none⟩) 1 mc] w (B5 w v (l.take i++x :: l.drop i)):=by
 by_cases hn:i=l.length
 ·have:=myend v l x l.length vb vo mc w rfl h hx ea;rw [hn,List.take_length,List.drop_length];exact this
 ·rcases h with ⟨rfl,rfl⟩ | ⟨g,c,N,rfl,hE⟩
  ·exact absurd (Nat.le_zero.1 hi) hn
  ·by_cases ga:l.length + 1<=c
   ·obtain ⟨⟨cur,ty,h1,h2,_⟩,_⟩:=id hE;refine (myshift g c N vb vo mc l x l.length i w rfl (by omega) (by omega) hE ga hx (fun h=>jb (by rw [h]; rfl))).mono ?_;rintro e w' ⟨rfl,h3,h4⟩;refine ⟨g,c,N,?_,h3,h4.mono fun i _ h=>by subst h; rfl,.inr ⟨rfl,cur,ty,h1,h2⟩⟩;congr 2;simp; omega
   ·exact mygrow g c N vb vo mc l x l.length i w rfl (by omega) ea hE ga hx
end
section
open Go Go.RowKit
variable {w w':World}
theorem iK {av:Av}:∀ {xs:List AV} {us:List Value} (k:Nat),KA av w xs us->KA av w (xs.take k) (us.take k)
 | [],_,_,h=>by simp only [KA] at h; subst h; simp [KA]
 | x :: r,_,0,h=>by simp [KA]
 | x :: r,_,k + 1,h=>by
  simp only [KA] at h;obtain ⟨u,wa,rfl,h0,h1,h⟩:=h;exact ⟨u,wa.take k,rfl,h0,h1,iK k h⟩
theorem tK {av:Av}:∀ {xs:List AV} {us:List Value} (k:Nat),KA av w xs us->KA av w (xs.drop k) (us.drop k)
 | [],_,_,h=>by simp only [KA] at h; subst h; simp [KA]
 | x :: r,_,0,h=>h
 | x :: r,_,k + 1,h=>by
  simp only [KA] at h;obtain ⟨u,wa,rfl,h0,h1,h⟩:=h;exact tK k h
theorem lF {z:Nat}:∀ {l:List (List AV)},OA z l=true->l.flatten.length=l.length * z
 | [],_=>by simp
 | c :: l,h=>by
  rw [XC,yc,decide_eq_true_eq] at h;rw [yy,yb,lF h.2,h.1,yD,Nat.add_mul]; omega
theorem BI {z:Nat}:∀ {l:List (List AV)} (k:Nat),OA z l=true->(l.take k).flatten=l.flatten.take (k * z)
 | [],k,_=>by simp
 | c :: l,0,_=>by simp
 | c :: l,k + 1,h=>by
  rw [XC,yc,decide_eq_true_eq] at h;have e:(k + 1) * z=c.length + k * z:=by rw [h.1,Nat.add_mul]; omega
  rw [List.take_succ_cons,yy,yy,BI k h.2,e,List.take_length_add_append]
theorem CI {z:Nat}:∀ {l:List (List AV)} (k:Nat),OA z l=true->(l.drop k).flatten=l.flatten.drop (k * z)
 | [],k,_=>by simp
 | c :: l,0,_=>by simp
 | c :: l,k + 1,h=>by
  rw [XC,yc,decide_eq_true_eq] at h;have e:(k + 1) * z=c.length + k * z:=by rw [h.1,Nat.add_mul]; omega
  rw [List.drop_succ_cons,yy,CI k h.2,e,List.drop_length_add_append]
theorem IK {av:Av} {g0:Nat->Prop} {g:Nat} (hK:SA g0 w w') (tc:∀ b,g0 b->∀ o,av b o) (hg:w.heap.size<=g\/g0 g):TA av (fun b o=>av b o\/b=g) w w':=by
 refine ⟨fun b o u hc hn=>?_⟩;have ia:b<w.heap.size:=by
  unfold World.cell? at hc;split at hc
  ·rename_i h;exact (Array.getElem?_eq_some_iff.1 h).1
  ·cases hc
 have az:¬ g0 b:=fun h=>hn (tc b h o)
 refine ⟨?_,fun h=>?_⟩
 ·have:=hK.block b ia az;unfold World.cell? at hc ⊢;simp only [this];exact hc
 ·rcases h with h | h
  ·exact hn h
  ·subst h;rcases hg with hg | hg
   ·omega
   ·exact az hg
end
section
open Go Go.RowKit
theorem E1 {av:Av} {w:World} {v0:Value} {g0:Nat->Prop} {E:List eJ} {l:List (List AV)} {x:List AV} {xe:eJ} {k vb vo c:Nat} (hk:k<=E.length) (hO:myO w v0 E) (kc:QM w vb vo xe) (eu:¬ av vb vo) (ec:KA av w x xe.cells) (hl:KA av w l.flatten (uF E)) (eb:OA 13 (x :: l)=true) (ea:l.length=E.length) (h9:l.length<=900) (hb:∀ b,DL v0=some b->g0 b) (hg:∀ b,g0 b->∀ o,av b o) :
  Calls Tryz.prog 68 #[v0,.int .i64 k,.slice (some ⟨vb,vo,none⟩) 1 c] w fun e w'=>∃ v,e=.returned v/\QX w g0 13 av w' (l.take k++x :: l.drop k) v/\SA g0 w w':=by
 rw [XC,yc,decide_eq_true_eq] at eb;refine (myinsert v0 E xe k vb vo c w hk hO kc (fun h=>eu (hg vb (hb vb h) vo)) (by omega)).mono ?_;rintro e w' ⟨g,c',N,rfl,⟨⟨ra,uf,e1,e2,e3,e4⟩,e5⟩,hK,ee⟩;have oc:SA g0 w w':=hK.mono (fun i _ h=>hb i h);have nb:(l.take k++x :: l.drop k).length=(E.take k++xe :: E.drop k).length:=by simp [ea]
 have hz:OA 13 (l.take k++x :: l.drop k)=true:=by rw [RG,XC,uH eb.2,ZI eb.2,eb.1]; rfl
 have held:=IK oc hg (g:=g) (by rcases ee with h | ⟨h,_⟩; exact .inl h; exact .inr (hb g h));refine ⟨_,rfl,⟨g,c',ra,uf,by rw [nb],?_,e1,by rw [nb]; exact e5,by omega,?_⟩,oc⟩
 ·rcases ee with h | ⟨h,cur,ty,h1,h2⟩
  ·exact .inl h
  ·exact .inr ⟨hb g h,cur,ty,h1,by omega⟩
 ·rw [List.drop_zero] at e4;rw [lF hz,nb,e4,List.flatten_append,yy,BI k eb.2,CI k eb.2,qJ,DK,<- sN,<- wJ];exact KA.held held _ _ (jD (iK _ hl) (jD ec (tK _ hl)))
theorem Q1 {av:Av} {w:World} {g0:Nat->Prop} {E:List eJ} {l:List (List AV)} {k g c N:Nat} (hk:k<E.length) (hO:JJ w g 0 c N E) (hl:KA av w l.flatten (uF E)) (eb:OA 13 l=true) (ea:l.length=E.length) (h9:l.length<=900) (hb:∀ b,g0 b ↔ b=g) (hg:∀ o,av g o) :
  Calls Tryz.prog 69 #[.slice (some ⟨g,0,none⟩) E.length c,.int .i64 k,.int .i64 ((k:Int) + 1)] w fun e w'=>∃ v,e=.returned v/\QX w g0 13 av w' (l.take k++l.drop (k + 1)) v/\SA g0 w w':=by
 obtain ⟨⟨cur0,fq,c1,c2,_⟩,_⟩:=id hO;refine (mydelete g 0 c N E E.length k w rfl hk (by omega) hO).mono ?_;rintro e w' ⟨c',rfl,⟨⟨ra,uf,e1,e2,e3,e4⟩,e5⟩,hK⟩;have oc:SA g0 w w':=hK.mono (fun i _ h=>(hb i).2 h);rw [List.eraseIdx_eq_take_drop_succ] at e4 e5 ⊢;have nb:(l.take k++l.drop (k + 1)).length=(E.take k++E.drop (k + 1)).length:=by simp [ea]
 have hz:OA 13 (l.take k++l.drop (k + 1))=true:=by rw [RG,uH eb,ZI eb]; rfl
 have held:=IK oc (fun b h o=>by rw [(hb b).1 h]; exact hg o) (g:=g) (.inr ((hb g).2 rfl));refine ⟨_,rfl,⟨g,c',ra,uf,by rw [nb],.inr ⟨(hb g).2 rfl,cur0,fq,c1,by omega⟩,e1,by rw [nb]; exact e5,by omega,?_⟩,oc⟩;rw [List.drop_zero] at e4;rw [lF hz,nb,e4,List.flatten_append,BI k eb,CI (k + 1) eb,qJ,<- sN,<- wJ];exact KA.held held _ _ (jD (iK _ hl) (tK _ hl))
theorem N5 {av:Av} {w:World} {b:Bool} {l:List (List AV)} {v0:Value} {g0:Nat->Prop} (hg:mX 13 av w b l v0 g0) (eb:OA 13 l=true) (h9:l.length<=900) :
  (l=[]/\(∃ A,v0=.slice A 0 0)/\∀ g,¬ g0 g)\/(b=false/\∃ (E:List eJ) (g c N:Nat),E.length=l.length/\v0=.slice (some ⟨g,0,none⟩) E.length c/\(∀ b,g0 b ↔ b=g)/\(∀ o,av g o)/\KA av w l.flatten (uF E)/\JJ w g 0 c N E):=by
 rcases hg with ⟨h1,h2,_,h3⟩ | ⟨hb,g,c,cur,ty,hv,h0,hh,hc,hz,tc,hr⟩
 ·exact .inl ⟨h1,h2,h3⟩
 ·have nb:=qE hr;have hf:=lF eb;obtain ⟨E,hE,hC⟩:=myC_of l.length (cur.toList.take l.flatten.length) (by rw [<- nb,hf]) (uK hr);refine .inr ⟨hb,E,g,c,cur.size,hE,by rw [hE]; exact hv,h0,tc,by rw [hC]; exact hr,⟨⟨cur,ty,hh,rfl,by omega,?_⟩,by rw [hE]; exact hc⟩⟩;rw [List.drop_zero,hC,hE,hf]
theorem myins0 {av:Av} {w:World} {g0:Nat->Prop} {x:List AV} {xe:eJ} {vb vo c:Nat} (A:Option Addr) (kc:QM w vb vo xe) (ec:KA av w x xe.cells) (eb:OA 13 [x]=true) (hg:∀ b,¬ g0 b) :
  Calls Tryz.prog 68 #[.slice A 0 0,.int .i64 0,.slice (some ⟨vb,vo,none⟩) 1 c] w fun e w'=>∃ v,e=.returned v/\QX w g0 13 av w' [x] v/\SA g0 w w':=by
 refine (myend0 A xe vb vo c w kc).mono ?_;rintro e w' ⟨g,c',N,rfl,⟨⟨ra,uf,e1,e2,e3,e4⟩,e5⟩,hK,ee⟩;have oc:SA g0 w w':=hK.mono (fun i _ h=>h.elim);have held:=IK (av:=av) oc (fun b h=>absurd h (hg b)) (g:=g) (.inl ee);refine ⟨_,rfl,⟨g,c',ra,uf,rfl,.inl ee,e1,e5,by simp only [List.length_singleton] at e3 e5 ⊢; omega,?_⟩,oc⟩;rw [List.drop_zero] at e4;rw [lF eb];have wz:ra.toList.take ([x].length * 13)=uF [xe]:=e4;rw [wz,List.flatten_singleton];have um:uF [xe]=xe.cells:=by simp [uF]
 rw [um];exact KA.held held _ _ ec
theorem myins_ok {O:JD} {b:Bool} {l:List (List AV)} {x:List AV} {i:Int} (h0:0<=i) (h1:i<=l.length) (h9:l.length<=900) (eb:OA 13 (x :: l)=true) :
  DA Tryz.prog O 68 [.undef,.sl b l,.int .i64 i,.sl false [x]] (some (.int .i64 13)) (.sl false (l.take i.toNat++x :: l.drop i.toNat),none):=by
 unfold DA;refine (?_:pF _ _ _ _ _ _);refine ⟨enters_of Tryz.func68 (by kernel_rfl) rfl,?_⟩;intro av w v0 vs g0 tc ua hg;simp only [AE] at ua;obtain ⟨u1,pz,rfl,wk,u2,wu,rfl,gk,rfl⟩:=ua;rw [PA] at wk;subst wk;rw [NB] at gk;simp only [JC] at gk;obtain ⟨A,c,rfl,hc,_,_,hs⟩:=gk;obtain ⟨vb,vo,rfl,oa⟩:=(hs trivial).2 (by simp);rw [qD] at oa;simp only [yy,List.flatten_nil,yt] at oa;obtain ⟨xs,ec,rj⟩:=eH oa;have ik:=eb;rw [XC,yc,decide_eq_true_eq] at ik;have iy:xs.length=13:=by rw [<- qE ec]; exact ik.1
 have kc:QM w vb vo ⟨xs,iy,uK ec⟩:=fun j u hu=>(rj j u hu).1
 have eu:¬ av vb vo:=by
  have:=(rj 0 _ (yg (by omega))).2
  rwa [Nat.add_zero] at this
 have hi:i=(i.toNat:Int):=by omega
 rcases N5 hg ik.2 h9 with ⟨rfl,⟨A0,rfl⟩,tl⟩ | ⟨rfl,E,g,cg,N,hE,rfl,tl,pk,hr,hB⟩
 ·have ft:i=0:=by simp at h1; omega
  subst ft;exact myins0 A0 kc ec eb tl
 ·have:=E1 (v0:=.slice (some ⟨g,0,none⟩) E.length cg) (g0:=g0) (E:=E) (k:=i.toNat) (c:=c) (by omega) (.inr ⟨g,cg,N,rfl,hB⟩) kc eu ec hr eb hE.symm h9 (fun b h=>by simp [DL] at h; exact (tl b).2 h.symm) (fun b h o=>by rw [(tl b).1 h]; exact pk o);rw [<- hi] at this;exact this
theorem mydel_ok {O:JD} {l:List (List AV)} {i:Int} (h0:0<=i) (h1:i + 1<=l.length) (h9:l.length<=900) (eb:OA 13 l=true) :
  DA Tryz.prog O 69 [.undef,.sl false l,.int .i64 i,.int .i64 (i + 1)] (some (.int .i64 13)) (.sl false (l.take i.toNat++l.drop (i + 1).toNat),none):=by
 unfold DA;refine (?_:pF _ _ _ _ _ _);refine ⟨enters_of Tryz.func69 (by kernel_rfl) rfl,?_⟩;intro av w v0 vs g0 tc ua hg;simp only [AE] at ua;obtain ⟨u1,pz,rfl,wk,u2,wu,rfl,gk,rfl⟩:=ua;rw [PA] at wk gk;subst wk;subst gk;have hi:i=(i.toNat:Int):=by omega
 rcases N5 hg eb h9 with ⟨rfl,_⟩ | ⟨_,E,g,cg,N,hE,rfl,tl,pk,hr,hB⟩
 ·simp at h1; omega
 ·have:=Q1 (k:=i.toNat) (by omega) hB hr eb hE.symm h9 tl pk;rw [<- hi] at this;rw [show (i + 1).toNat=i.toNat + 1 from by omega];exact this
end
section
open Go Go.RowKit
structure hJ where
 cells:List Value
 len:cells.length=2
 one:∀ u∈cells,u.oneCell'=true
def iF (l:List hJ):List Value:=l.flatMap hJ.cells
theorem FC (l:List hJ):(iF l).length=l.length * 2:=by
 induction l with
 | nil=>rfl
 | cons q l ih=>simp only [iF,List.flatMap_cons,yb,yD,q.len] at ih ⊢; rw [ih]; omega
theorem fJ (l r:List hJ):iF (l++r)=iF l++iF r:=by simp [iF]
theorem qL (q:hJ) (r:List hJ):iF (q :: r)=q.cells++iF r:=by simp [iF]
theorem mN (l:List hJ) (k:Nat):(iF l).take (k * 2)=iF (l.take k):=by
 induction l generalizing k with
 | nil=>simp [iF]
 | cons q l ih =>
  cases k with
  | zero=>simp [iF]
  | succ k =>
   have h4:=q.len;rw [qL,List.take_succ_cons,qL,List.take_append,h4,show (k + 1) * 2 - 2=k * 2 from by omega,ih,List.take_of_length_le (by rw [h4]; omega)]
theorem gJ (l:List hJ) (k:Nat):(iF l).drop (k * 2)=iF (l.drop k):=by
 induction l generalizing k with
 | nil=>simp [iF]
 | cons q l ih =>
  cases k with
  | zero=>simp [iF]
  | succ k =>
   have h4:=q.len;rw [qL,List.drop_succ_cons,List.drop_append,h4,show (k + 1) * 2 - 2=k * 2 from by omega,ih,yj (by rw [h4]; omega),List.nil_append]
theorem MT (l:List hJ):∀ u∈iF l,u.oneCell'=true:=by
 intro u hu;simp only [iF,List.mem_flatMap] at hu;obtain ⟨q,_,hq⟩:=hu;exact q.one u hq
theorem syC_of:∀ (n:Nat) (vs:List Value),vs.length=n * 2->(∀ u∈vs,u.oneCell'=true)->∃ l:List hJ,l.length=n/\iF l=vs
 | 0,vs,h,_=>⟨[],rfl,(yN (by omega)).symm⟩
 | n + 1,vs,h,h1=>by
  obtain ⟨l,hl,hc⟩:=syC_of n (vs.drop 2) (by rw [yr]; omega) (fun u hu=>h1 u (List.mem_of_mem_drop hu));exact ⟨⟨vs.take 2,by rw [ym]; omega,fun u hu=>h1 u (List.mem_of_mem_take hu)⟩ :: l,by simp [hl],by rw [qL,hc]; exact yR _ _⟩
def syZ:Value:=.agg #[.int .i64 0,.string ⟨#[]⟩]
theorem g8:Tryz.prog.underlying 65=some (.slice 50):=by kernel_rfl
theorem syi:(Tryz.prog.info? 50).map (fun i=>(i.zero,i.size,i.bytes))=some (some syZ,2,24):=by kernel_rfl
theorem sysz:(Tryz.prog.info? 50).map (·.size)=some 2:=by kernel_rfl
theorem syzv (w:World):(zeroValue 50).run Tryz.prog w=.ok syZ w:=by kernel_rfl
theorem syhi (A:Option Addr) (n c k:Nat) (hk:k<=c) (w:World):(Instr.slice 65 (.slice A n c) none (some (.int .i64 k)) none).run Tryz.prog w=.ok (.slice A k c) w:=by
 obtain ⟨i,hi,ne,gf,tg⟩:=info_parts syi;exact c9 w _ _ i g8 hi A n c k hk
theorem B1 (A:Option Addr) (n c k:Nat) (hk:k<=n) (w:World):(Instr.slice 65 (.slice A n c) (some (.int .i64 k)) none none).run Tryz.prog w=.ok (.slice (if c=k then A else A.map (·.add (k * 2))) (n - k) (c - k)) w:=by
 obtain ⟨i,hi,ne,gf,tg⟩:=info_parts syi;exact n9 w _ _ i 2 g8 hi gf A n c k hk
theorem sylh (A:Option Addr) (n c k h:Nat) (hk:k<=h) (hh:h<=c) (w:World):(Instr.slice 65 (.slice A n c) (some (.int .i64 k)) (some (.int .i64 h)) none).run Tryz.prog w=.ok (.slice (if c=k then A else A.map (·.add (k * 2))) (h - k) (c - k)) w:=by
 obtain ⟨i,hi,ne,gf,tg⟩:=info_parts syi;exact b9 w _ _ i 2 g8 hi gf A n c k h hk hh
theorem sysiz (w:World):(Go.sizeOf 50).run Tryz.prog w=.ok 2 w:=by kernel_rfl
structure ZJ (w:World) (g off c N:Nat) (l:List hJ):Prop where
 blk:∃ cur ty,w.heap[g]?=some (.cells cur ty (0,0))/\cur.size=N/\off + c * 2<=N/\(cur.toList.drop off).take (l.length * 2)=iF l
 len:l.length<=c
def syO (w:World) (v:Value) (l:List hJ):Prop:=(v=.slice none 0 0/\l=[])\/∃ g c N,v=.slice (some ⟨g,0,none⟩) l.length c/\ZJ w g 0 c N l
section
variable {w w':World} {g off c N:Nat} {l:List hJ} {v:Value}
theorem ZJ.keep {F:Nat->Prop} (h:ZJ w g off c N l) (hk:SA F w w') (hF:¬ F g):ZJ w' g off c N l:=by
 obtain ⟨⟨cur,ty,h1,h2,h3⟩,h4⟩:=h;exact ⟨⟨cur,ty,(hk.block g (dA h1) hF).trans h1,h2,h3⟩,h4⟩
theorem ZJ.lt (h:ZJ w g off c N l):g<w.heap.size:=by obtain ⟨⟨cur,ty,h1,_⟩,_⟩:=h; exact dA h1
theorem ZJ.cells (h:ZJ w g off c N l) (j:Nat) (u:Value) (hu:(iF l)[j]?=some u):w.cell? ⟨g,off + j,none⟩=some u:=by
 obtain ⟨⟨cur,ty,h1,h2,xf,h3⟩,h4⟩:=h;rw [cell_of_row w g (off + j) cur _ (0,0) h1];rw [<- h3,yz] at hu;split at hu
 ·rw [yw] at hu; simpa using hu
 ·cases hu
theorem ZJ.drop (h:ZJ w g off c N l) {k:Nat} (hk:k<=l.length):ZJ w g (if c=k then off else off + k * 2) (c - k) N (l.drop k):=by
 obtain ⟨⟨cur,ty,h1,h2,xf,h3⟩,h4⟩:=h;have h6:=gJ l k;refine ⟨⟨cur,ty,h1,h2,?_,?_⟩,by rw [yr]; omega⟩
 ·split <;> omega
 ·rw [yr,<- h6,<- h3];split
  ·rename_i e;have:l.length=k:=by omega
   rw [this,Nat.sub_self,Nat.zero_mul,List.take_zero,yj (by rw [ym]; omega)]
  ·rw [<- List.drop_drop,List.drop_take,Nat.sub_mul]
theorem ZJ.take (h:ZJ w g off c N l) {k:Nat} (hk:k<=l.length):ZJ w g off c N (l.take k):=by
 obtain ⟨⟨cur,ty,h1,h2,xf,h3⟩,h4⟩:=h;refine ⟨⟨cur,ty,h1,h2,xf,?_⟩,by rw [ym]; omega⟩;rw [<- mN,<- h3,List.take_take,ym,Nat.min_eq_left hk,Nat.min_eq_left (by omega)]
end
theorem ZJ.app {w:World} {g off c:Nat} {l r:List hJ} {cur:Array Value} {ty:TypeId} (hg:w.heap[g]?=some (.cells cur ty (0,0))) (h2:off + c * 2<=cur.size) (h3:(cur.toList.drop off).take (l.length * 2)=iF l) (ga:l.length + r.length<=c) :
  ZJ (w.setRow g (cur.toList.take (off + l.length * 2)++iF r++cur.toList.drop (off + l.length * 2 + (iF r).length)).toArray) g off c cur.size (l++r):=by
 have hr:=FC r;have wh:cur.toList.length=cur.size:=by simp
 refine ⟨⟨_,_,setRow_heap w g cur _ _ _ hg,?_,h2,?_⟩,by rw [yb]; exact ga⟩
 ·simp only [yF,yb,ym,yr,yG,hr];omega
 ·have ht:(cur.toList.take (off + l.length * 2)).length=off + l.length * 2:=by rw [ym]; omega
  have e1:(cur.toList.take (off + l.length * 2)).drop off=iF l:=by rw [List.drop_take,Nat.add_sub_cancel_left,h3]
  simp only;rw [yl,List.drop_append_of_le_length (by omega),e1,fJ,yb,Nat.add_mul,<- FC l,<- hr,<- yl,<- yb];exact List.take_left
theorem ZJ.clear {w:World} {g off c N:Nat} {l:List hJ} (h:ZJ w g off c N l) (ty:TypeId) (n m:Nat) (hn:l.length + n<=c) :
  ∃ w',(Builtin.clear_ #[65] ty #[.slice (some ⟨g,off + l.length * 2,none⟩) n m]).run Tryz.prog w=.ok (.tuple #[]) w'/\ZJ w' g off c N l/\SA (fun b=>b=g) w w':=by
 obtain ⟨⟨cur,t0,h1,h2,xf,h3⟩,h4⟩:=h;have dg:∀ u∈syZ.cells.toList,u.oneCell'=true:=fun u hu=>y8.1 (show syZ.cells.toList.all (fun u=>u.oneCell')=true by rfl) u hu
 have rg:syZ.cells.size=2:=rfl;obtain ⟨w',ra,r1,r2,r3,r4,r5⟩:=XW (P:=Tryz.prog) w 65 50 t0 ty _ g8 (syzv w) dg g (off + l.length * 2) n m cur h1 (by rw [rg]; omega);refine ⟨w',r1,⟨⟨ra,_,r2,by omega,xf,?_⟩,h4⟩,r5⟩;have e:∀ L:List Value,(L.drop off).take (l.length * 2)=(L.take (off + l.length * 2)).drop off:=fun L=>by rw [List.drop_take,Nat.add_sub_cancel_left]
 rw [e,r4,<- e,h3]
theorem nY (w:World) (ty t0:TypeId) (g off dLen dCap:Nat) (a:Addr) (sLen sCap:Nat) (L:List Value) (cs:List Value)
  (hg:w.heap[g]?=some (.cells L.toArray t0 (0,0))) (hn:cs.length=Nat.min sLen dLen * 2) (wo:∀ j v,cs[j]?=some v->w.cell? (a.add j)=some v) (eg:off + cs.length<=L.length) (h1:∀ v∈cs,v.oneCell'=true) :
  (Builtin.copy_ #[65,65] ty #[.slice (some ⟨g,off,none⟩) dLen dCap,.slice (some a) sLen sCap]).run Tryz.prog w=.ok (goInt (Nat.min sLen dLen:Nat)) (w.setRow g (lay L off cs).toArray):=by
 have:=I5 (P:=Tryz.prog) w 65 65 ty 50 2 g8 sysz g off dLen dCap a sLen sCap L.toArray t0 cs hg hn wo (by simpa using eg) h1;exact this
theorem ZJ.list {w:World} {g off c N:Nat} {l:List hJ} (h:ZJ w g off c N l):∃ (L:List Value) (ty:TypeId),w.heap[g]?=some (.cells L.toArray ty (0,0))/\L.length=N/\off + c * 2<=L.length/\∀ j,j<l.length * 2->L[off + j]?=(iF l)[j]?:=by
 obtain ⟨⟨cur,ty,h1,h2,xf,h3⟩,h4⟩:=h;refine ⟨cur.toList,ty,h1,by simpa using h2,by rw [yG]; omega,fun j hj=>?_⟩;rw [<- h3,yz,if_pos hj,yw]
theorem ZJ.of_list {w:World} {g off c:Nat} {l:List hJ} {L:List Value} {ty:TypeId} (h1:w.heap[g]?=some (.cells L.toArray ty (0,0))) (h2:off + c * 2<=L.length) (h3:∀ j,j<l.length * 2->L[off + j]?=(iF l)[j]?) (h4:l.length<=c):ZJ w g off c L.length l:=by
 refine ⟨⟨_,_,h1,by simp,h2,?_⟩,h4⟩;apply List.ext_getElem?;intro j;rw [yz];split
 ·rename_i hj;rw [yw];exact h3 j hj
 ·rename_i hj;rw [List.getElem?_eq_none (by rw [FC]; omega)]
theorem x6 (l:List hJ) (x:hJ) (i j:Nat) (hi:i<=l.length):(iF (l.take i++x :: l.drop i))[j]?=if j<i * 2 then (iF l)[j]? else if j<i * 2 + 2 then x.cells[j - i * 2]? else (iF l)[j - 2]?:=by
 have ht:(iF (l.take i)).length=i * 2:=by rw [FC,ym,Nat.min_eq_left hi]
 have hx:=x.len;rw [fJ,qL];split
 ·rw [yL (by omega),<- mN,yz,if_pos (by omega)]
 ·split
  ·rw [yJ (by omega),ht,yL (by omega)]
  ·rw [yJ (by omega),ht,yJ (by omega),hx,<- gJ,yw];congr 1; omega
theorem ZJ.ins {w:World} {g off c:Nat} {l:List hJ} {x:hJ} {L:List Value} {i:Nat} {ty:TypeId} (hi:i<=l.length) (hL:off + c * 2<=L.length) (hc:∀ j,j<l.length * 2->L[off + j]?=(iF l)[j]?) (ga:l.length + 1<=c) (hg:w.heap[g]?=some (.cells (lay (lay L (off + (i + 1) * 2) (iF (l.drop i))) (off + i * 2) x.cells).toArray ty (0,0))) :
  ZJ w g off c L.length (l.take i++x :: l.drop i):=by
 have hx:=x.len;have hd:(iF (l.drop i)).length=(l.length - i) * 2:=by rw [FC,yr]
 have ea:(l.take i++x :: l.drop i).length=l.length + 1:=by simp; omega
 have h1:off + (i + 1) * 2 + (iF (l.drop i)).length<=L.length:=by omega
 have mh:=BF h1;have h2:off + i * 2 + x.cells.length<=(lay L (off + (i + 1) * 2) (iF (l.drop i))).length:=by rw [mh,hx]; omega
 have jj:=BF h2;have:=ZJ.of_list hg (c:=c) (off:=off) (l:=l.take i++x :: l.drop i) (by rw [jj,mh]; exact hL) (fun j hj=>?_) (by omega)
 ·rwa [jj,mh] at this
 rw [ea] at hj;rw [x6 l x i j hi,HJ _ _ _ _ h2,HJ _ _ _ _ h1,hx,hd];by_cases c1:j<i * 2
 ·rw [if_pos c1,if_neg (by omega),if_neg (by omega)];exact hc j (by omega)
 ·rw [if_neg c1];by_cases c2:j<i * 2 + 2
  ·rw [if_pos c2,if_pos (by omega)];congr 1; omega
  ·rw [if_neg c2,if_neg (by omega),if_pos (by omega),<- gJ,yw];congr 1; omega
theorem ZJ.ins2 {w:World} {g c:Nat} {l:List hJ} {x:hJ} {L:List Value} {i:Nat} {ty:TypeId} (hi:i<=l.length) (hL:c * 2<=L.length) (hc:∀ j,j<i * 2->L[j]?=(iF l)[j]?) (ga:l.length + 1<=c) (hg:w.heap[g]?=some (.cells (lay (lay L (i * 2) x.cells) ((i + 1) * 2) (iF (l.drop i))).toArray ty (0,0))) :
  ZJ w g 0 c L.length (l.take i++x :: l.drop i):=by
 have hx:=x.len;have hd:(iF (l.drop i)).length=(l.length - i) * 2:=by rw [FC,yr]
 have ea:(l.take i++x :: l.drop i).length=l.length + 1:=by simp; omega
 have h1:i * 2 + x.cells.length<=L.length:=by omega
 have mh:=BF h1;have h2:(i + 1) * 2 + (iF (l.drop i)).length<=(lay L (i * 2) x.cells).length:=by rw [mh,hd]; omega
 have jj:=BF h2;have:=ZJ.of_list hg (c:=c) (off:=0) (l:=l.take i++x :: l.drop i) (by rw [jj,mh]; omega) (fun j hj=>?_) (by omega)
 ·rwa [jj,mh] at this
 rw [ea] at hj;rw [yn,x6 l x i j hi,HJ _ _ _ _ h2,HJ _ _ _ _ h1,hx,hd];by_cases c1:j<i * 2
 ·rw [if_pos c1,if_neg (by omega),if_neg (by omega)];exact hc j c1
 ·rw [if_neg c1];by_cases c2:j<i * 2 + 2
  ·rw [if_pos c2,if_neg (by omega),if_pos (by omega)]
  ·rw [if_neg c2,if_pos (by omega),<- gJ,yw];congr 1; omega
end
section
open Go Go.RowKit
def syCut (g off N:Nat) (w:World) (l:List hJ) (e:Ending) (w':World):Prop:=∃ c,e=.returned (.slice (some ⟨g,off,none⟩) l.length c)/\ZJ w' g off c N l/\SA (fun b=>b=g) w w'
set_option maxHeartbeats 400000 in
theorem sydelete (g off c N:Nat) (l:List hJ) (n i:Nat) (w:World) (hn:l.length=n) (hi:i<n) (ea:n<=1000) (h:ZJ w g off c N l) :
  Calls Tryz.prog 73 #[.slice (some ⟨g,off,none⟩) n c,.int .i64 i,.int .i64 ((i:Int) + 1)] w (syCut g off N w (l.eraseIdx i)):=by
 have jd:n<=c:=by have:=h.len; omega
 have jb:((i:Int) == (i:Int) + 1)=false:=by simp; omega
 obtain ⟨⟨cur,t0,hg,hN,ac,nv⟩,_⟩:=h.take (k:=i) (by omega);have pj:(l.take i).length=i:=by rw [ym]; omega
 have re:(l.drop (i + 1)).length=n - (i + 1):=by rw [yr,hn]
 have hd:=h.drop (k:=i + 1) (by omega);obtain ⟨to,gq⟩:∃ to:Nat,to=(if c=i + 1 then off else off + (i + 1) * 2):=⟨_,rfl⟩;rw [<- gq] at hd;have ox:(if c=i + 1 then some (⟨g,off,none⟩:Addr) else (some (⟨g,off,none⟩:Addr)).map (·.add ((i + 1) * 2)))=some ⟨g,to,none⟩:=by
  rw [gq]; split <;> simp [Addr.add_lit]
 have rf:=syhi (some ⟨g,off,none⟩) n c i (by omega);have ci:=B1 (some ⟨g,off,none⟩) n c (i + 1) (by omega);rw [ox] at ci;simp only [Int.natCast_add,Int.cast_ofNat_Int] at ci;obtain ⟨inf,nd,ne,gf,tg⟩:=info_parts syi;have hr:=fun ty=>xG (P:=Tryz.prog) w.drew 65 ty 50 inf 2 g8 nd gf g off i c cur _ hg ⟨g,to,none⟩ (n - (i + 1)) (c - (i + 1)) (iF (l.drop (i + 1))) (by rw [FC,re]) (fun j u hu=>by rw [Addr.add_lit]; exact hd.cells j u hu) (MT _) (by omega) (by rw [FC,re]; omega)
 have hE:=ZJ.app (w:=w.drew) (c:=c) (off:=off) (l:=l.take i) (r:=l.drop (i + 1)) hg (by omega) nv (by rw [pj,re]; omega);rw [pj,hN] at hE;obtain ⟨w1,ii⟩:∃ w1,w1=w.drew.setRow g (cur.toList.take (off + i * 2)++iF (l.drop (i + 1))++cur.toList.drop (off + i * 2 + (iF (l.drop (i + 1))).length)).toArray:=⟨_,rfl⟩;have od:SA (fun b=>b=g) w w1:=by rw [ii]; exact ((SA.refl (fun b=>b=g) w).drew).setRow (fun _=>rfl) _
 rw [<- ii] at hE;simp only [<- ii] at hr;clear ii gq hd hg hN ac nv ox;have HE:=eL hE;have HK:=eL od;have HT:=eL pj;have HD:=eL re;have HN:=eL hn;clear h hE od pj re hn
 go_enter Tryz.func73,Tryz.ntmps73
 go_wp2_with fail
 go_region_held3 (fun _=>True) (trivial) (refine KQ rfl _ _ _ _ rfl _ _ rfl rfl (hr _) ?_)
 have od:i + (n - (i + 1)) + 1=n:=by omega
 have sb:(l.take i++l.drop (i + 1)).length=i + (n - (i + 1)):=by rw [yb,HT.out,HD.out]
 have eb:l.eraseIdx i=l.take i++l.drop (i + 1):=List.eraseIdx_eq_take_drop_succ l i;generalize i + (n - (i + 1))=k at *
 generalize l.take i++l.drop (i + 1)=l' at *
 subst sb;have gm:=sylh (some ⟨g,off,none⟩) l'.length c l'.length n (by omega) (by omega);rw [if_neg (by omega),yp,Addr.add_lit] at gm;obtain ⟨w2,hclr,xw,nn⟩:=HE.out.clear 0 (n - l'.length) (c - l'.length) (by omega);have HO2:=eL xw;have HEL:=eL eb;clear xw eb rf ci hr HE HT HD HN
 go_wp2_with fail
 go_ret
 rw [HEL.out];exact ⟨c,rfl,HO2.out,HK.out.trans nn (fun _ _ h=>h)⟩
end
section
open Go Go.RowKit
def b6 (w:World) (v:Value) (l:List hJ) (e:Ending) (w':World):Prop:=∃ g c N,e=.returned (.slice (some ⟨g,0,none⟩) l.length c)/\ZJ w' g 0 c N l/\SA (fun b=>DL v=some b) w w'/\(w.heap.size<=g\/DL v=some g/\∃ cur ty,w.heap[g]?=some (.cells cur ty (0,0))/\cur.size=N)
def UM (w:World) (vb vo:Nat) (x:hJ):Prop:=∀ (j:Nat) (u:Value),x.cells[j]?=some u->w.cell? ⟨vb,vo + j,none⟩=some u
theorem UM.congr {w w':World} {vb vo:Nat} {x:hJ} (h:UM w vb vo x) (he:w'.heap[vb]?=w.heap[vb]?):UM w' vb vo x:=fun j u hu=>by
 have:=h j u hu;unfold World.cell? at this ⊢;simp only [he];exact this
theorem UM.first {w:World} {vb vo:Nat} {x:hJ} (h:UM w vb vo x):∃ u,w.cell? ⟨vb,vo,none⟩=some u:=by
 have hl:=x.len;obtain ⟨u,hu⟩:∃ u,x.cells[0]?=some u:=⟨_,yg (by omega)⟩;exact ⟨u,h 0 u hu⟩
theorem UM.lt {w:World} {vb vo:Nat} {x:hJ} (h:UM w vb vo x):vb<w.heap.size:=by
 obtain ⟨u,hu⟩:=h.first;obtain ⟨c,ty,fz,hc,_⟩:=dL hu;exact dA hc
theorem syapp1 (w:World) (ty:TypeId) (v:Value) (l:List hJ) (x:hJ) (vb vo mc:Nat) (h:syO w v l) (hx:UM w vb vo x) (ea:l.length<=900) :
  ∃ v' w',(Builtin.append_ #[65,65] ty #[v,.slice (some ⟨vb,vo,none⟩) 1 mc]).run Tryz.prog w=.ok v' w'/\b6 w v (l++[x]) (.returned v') w':=by
 obtain ⟨inf,nd,ne,gf,tg⟩:=info_parts syi;have pb:∀ j u,(iF [x])[j]?=some u->w.cell? ((⟨vb,vo,none⟩:Addr).add j)=some u:=fun j u hu=>by
  rw [Addr.add_lit];exact hx j u (by simpa [iF] using hu)
 rcases h with ⟨rfl,rfl⟩ | ⟨g,c,N,rfl,hE⟩
 ·obtain ⟨cap,ra,g1,g2,g3,g4,hr⟩:=LD (P:=Tryz.prog) w 65 ty 50 inf _ 2 24 g8 nd ne gf tg rfl none 0 0 [] rfl (fun h0=>absurd h0 (by omega)) (fun _=>⟨rfl,rfl⟩) ⟨vb,vo,none⟩ 1 mc (iF [x]) (FC _) pb (by omega) (ye _) (by omega) (by omega);refine ⟨_,_,hr,w.heap.size,cap,ra.size,rfl,⟨⟨ra,_,heap_alloc_new w.drew _,rfl,by omega,?_⟩,g1⟩,SA.of_below (EN ((Below.refl _ _).alloc (ye _) _)) _,.inl (ye _)⟩;rw [List.drop_zero];exact g4
 ·have hc:=hE.len;by_cases ga:l.length + 1<=c
  ·obtain ⟨⟨cur,t0,h1,hN,h2,h3⟩,h4⟩:=hE;have hr:=xG (P:=Tryz.prog) w 65 ty 50 inf 2 g8 nd gf g 0 l.length c cur _ h1 ⟨vb,vo,none⟩ 1 mc (iF [x]) (FC _) pb (MT _) ga (by rw [FC]; simp; omega);have hE:=ZJ.app (c:=c) (off:=0) (l:=l) (r:=[x]) h1 (by omega) h3 ga;rw [hN] at hE;exact ⟨_,_,hr,g,c,N,by rw [yb]; rfl,hE,(SA.refl (fun b=>DL (.slice (some ⟨g,0,none⟩) l.length c)=some b) w).setRow (fun _=>rfl) _,.inr ⟨rfl,cur,t0,h1,hN⟩⟩
  ·obtain ⟨cap,ra,g1,g2,g3,g4,hr⟩:=LD (P:=Tryz.prog) w 65 ty 50 inf _ 2 24 g8 nd ne gf tg rfl (some ⟨g,0,none⟩) l.length c (iF l) (FC l) (fun h0=>⟨_,rfl,fun j u hu=>by rw [Addr.add_lit]; exact hE.cells j u hu⟩) (fun hA=>nomatch hA) ⟨vb,vo,none⟩ 1 mc (iF [x]) (FC _) pb (by omega) hc (by omega) (by omega);refine ⟨_,_,hr,w.heap.size,cap,ra.size,by rw [yb]; rfl,⟨⟨ra,_,heap_alloc_new w.drew _,rfl,by omega,?_⟩,by rw [yb]; exact g1⟩,SA.of_below (EN ((Below.refl _ _).alloc (ye _) _)) _,.inl (ye _)⟩;rw [List.drop_zero,yb,fJ];exact g4
theorem syO.shape {w:World} {v:Value} {l:List hJ} (h:syO w v l):∃ A c,v=.slice A l.length c/\l.length<=c/\(A=none->c=0):=by
 rcases h with ⟨rfl,rfl⟩ | ⟨g,c,N,rfl,h⟩
 ·exact ⟨none,0,rfl,ye _,fun _=>rfl⟩
 ·exact ⟨_,c,rfl,h.len,fun h=>by cases h⟩
set_option maxHeartbeats 1000000 in
theorem syendG (A:Option Addr) (n c vb vo mc:Nat) (w:World) (hc:n<=c) (ea:n<=900) {v':Value} {w':World} (hr:(Builtin.append_ #[65,65] 65 #[.slice A n c,.slice (some ⟨vb,vo,none⟩) 1 mc]).run Tryz.prog w=.ok v' w') :
  Calls Tryz.prog 72 #[.slice A n c,.int .i64 n,.slice (some ⟨vb,vo,none⟩) 1 mc] w fun e w2=>e=.returned v'/\w2=w':=by
 have rf:=B1 A n c n (ye _);generalize wr:(if c=n then A else A.map (·.add (n * 2)))=A1 at rf;clear wr
 go_enter Tryz.func72,Tryz.ntmps72
 go_wp2_with (at_builtin; refine HG _ rfl _ _ _ _ rfl _ _ rfl rfl hr ?_)
 go_ret
 exact ⟨rfl,rfl⟩
theorem syend (v:Value) (l:List hJ) (x:hJ) (n vb vo mc:Nat) (w:World) (hn:l.length=n) (h:syO w v l) (hx:UM w vb vo x) (ea:n<=900) :
  Calls Tryz.prog 72 #[v,.int .i64 n,.slice (some ⟨vb,vo,none⟩) 1 mc] w (b6 w v (l++[x])):=by
 obtain ⟨v',w',hr,h1⟩:=syapp1 w 65 v l x vb vo mc h hx (by omega);obtain ⟨A,c,hv,hc,ki⟩:=h.shape;rw [hn] at hv hc;subst hv;refine (syendG A n c vb vo mc w hc ea hr).mono ?_;rintro e w2 ⟨rfl,rfl⟩;exact h1
theorem syend0 (A:Option Addr) (x:hJ) (vb vo mc:Nat) (w:World) (hx:UM w vb vo x) :
  Calls Tryz.prog 72 #[.slice A 0 0,.int .i64 0,.slice (some ⟨vb,vo,none⟩) 1 mc] w fun e w'=>∃ g c N,e=.returned (.slice (some ⟨g,0,none⟩) 1 c)/\ZJ w' g 0 c N [x]/\SA (fun _=>False) w w'/\w.heap.size<=g:=by
 obtain ⟨inf,nd,ne,gf,tg⟩:=info_parts syi;have pb:∀ j u,(iF [x])[j]?=some u->w.cell? ((⟨vb,vo,none⟩:Addr).add j)=some u:=fun j u hu=>by
  rw [Addr.add_lit];exact hx j u (by simpa [iF] using hu)
 obtain ⟨cap,ra,g1,g2,g3,g4,hr⟩:=LD (P:=Tryz.prog) w 65 65 50 inf _ 2 24 g8 nd ne gf tg rfl A 0 0 [] rfl (fun h0=>absurd h0 (by omega)) (fun _=>⟨rfl,rfl⟩) ⟨vb,vo,none⟩ 1 mc (iF [x]) (FC _) pb (by omega) (ye _) (by omega) (by omega);refine (syendG A 0 0 vb vo mc w (ye _) (by omega) hr).mono ?_;rintro e w2 ⟨rfl,rfl⟩;refine ⟨w.heap.size,cap,ra.size,rfl,⟨⟨ra,_,heap_alloc_new w.drew _,rfl,by omega,?_⟩,g1⟩,SA.of_below (EN ((Below.refl _ _).alloc (ye _) _)) _,ye _⟩;rw [List.drop_zero];exact g4
set_option maxHeartbeats 1000000 in
theorem syshift (g c N vb vo mc:Nat) (l:List hJ) (x:hJ) (n i:Nat) (w:World) (hn:l.length=n) (hi:i<n) (ea:n<=1000) (h:ZJ w g 0 c N l) (ga:n + 1<=c) (hx:UM w vb vo x) (jb:vb≠g) :
  Calls Tryz.prog 72 #[.slice (some ⟨g,0,none⟩) n c,.int .i64 i,.slice (some ⟨vb,vo,none⟩) 1 mc] w fun e w'=>e=.returned (.slice (some ⟨g,0,none⟩) (n + 1) c)/\ZJ w' g 0 c N (l.take i++x :: l.drop i)/\SA (fun b=>b=g) w w':=by
 have gt:=h.lt;have zi:=h.drop (k:=i) (by omega);obtain ⟨L,t0,gl,dv,js,fv⟩:=h.list;obtain ⟨u0,tx⟩:=hx.first;have hov:∀ lb cb,(callFunc 111 #[.slice (some ⟨vb,vo,none⟩) 1 mc,.slice (some ⟨g,(i + 1) * 2,none⟩) lb cb]).run Tryz.prog w=.ok (.value (.bool false)) w:=fun lb cb=>by
  rw [run_callFunc_extern (P:=Tryz.prog) (e:=Extern.SlicesOverlaps.overlaps #[65,65] #[4]) Tryz.func111 (by kernel_rfl) (by kernel_rfl) (by kernel_rfl) (by kernel_rfl),
   lN w 65 4 50 g8 2 sysiz ⟨vb,vo,none⟩ ⟨g,(i + 1) * 2,none⟩ 1 mc lb cb jb u0 tx L.toArray t0 gl (by rw [yF]; omega)]
  rfl
 have tg:¬ ((i:Int)=(n:Int)):=by omega
 have mixed:Tryz.prog.follows .mixedOrders=true:=by kernel_rfl
 have re:(l.drop i).length=n - i:=by rw [yr,hn]
 have ii:IntKind.i64.wrap ((i:Int) + 1)=(i:Int) + 1:=IntWalk.i64_in _ (by omega);have su:IntKind.i64.wrap ((n:Int) + 1)=(n:Int) + 1:=IntWalk.i64_in _ (by omega);have hA:∀ k,k<c->(if c=k then some (⟨g,0,none⟩:Addr) else (some (⟨g,0,none⟩:Addr)).map (·.add (k * 2)))=some ⟨g,k * 2,none⟩:=fun k hk=>by rw [if_neg (by omega)]; simp [Addr.add_lit]
 have rf:=B1 (some ⟨g,0,none⟩) n c i (by omega);have ci:=syhi (some ⟨g,0,none⟩) n c (n + 1) (by omega);have gm:=B1 (some ⟨g,0,none⟩) (n + 1) c (i + 1) (by omega);have zt:=B1 (some ⟨g,0,none⟩) (n + 1) c i (by omega);rw [hA i (by omega)] at rf zt;rw [hA (i + 1) (by omega)] at gm;rw [Nat.add_sub_add_right] at gm;simp only [Int.natCast_add,Int.cast_ofNat_Int] at ci gm;have gg:∀ ty dc sc,(Builtin.copy_ #[65,65] ty #[.slice (some ⟨g,(i + 1) * 2,none⟩) (n - i) dc,.slice (some ⟨g,i * 2,none⟩) (n + 1 - i) sc]).run Tryz.prog w.drew=.ok (goInt (Nat.min (n + 1 - i) (n - i):Nat)) (w.drew.setRow g (lay L ((i + 1) * 2) (iF (l.drop i))).toArray):=fun ty dc sc =>
  nY w.drew ty t0 g ((i + 1) * 2) (n - i) dc ⟨g,i * 2,none⟩ (n + 1 - i) sc L (iF (l.drop i)) gl (by rw [FC,re]; congr 1; simp only [Nat.min_def]; split <;> omega)
   (fun j v hj=>by
    have:=h.cells (i * 2 + j) v (by rw [<- gJ,yw] at hj; exact hj);rw [Addr.add_lit]
    rwa [yn] at this) (by rw [FC,re]; omega) (MT _)
 have rj:=x.len;have h1l:(i + 1) * 2 + (iF (l.drop i)).length<=L.length:=by rw [FC,re]; omega
 obtain ⟨L1,ld⟩:∃ L1,L1=lay L ((i + 1) * 2) (iF (l.drop i)):=⟨_,rfl⟩;have zr:L1.length=L.length:=by rw [ld]; exact BF h1l
 rw [<- ld] at gg;obtain ⟨W1,oh⟩:∃ W1,W1=w.drew.setRow g L1.toArray:=⟨_,rfl⟩;have we:W1.heap[g]?=some (.cells L1.toArray t0 (0,0)):=by rw [oh]; exact setRow_heap w.drew g _ _ _ _ gl
 have sm:UM W1 vb vo x:=hx.congr (by rw [oh,setRow_other _ _ _ _ jb]; rfl);have od:SA (fun b=>b=g) w W1:=by rw [oh]; exact ((SA.refl (fun b=>b=g) w).drew).setRow (fun _=>rfl) _
 have li:∀ ty dc,(Builtin.copy_ #[65,65] ty #[.slice (some ⟨g,i * 2,none⟩) (n + 1 - i) dc,.slice (some ⟨vb,vo,none⟩) 1 mc]).run Tryz.prog W1=.ok (goInt (Nat.min 1 (n + 1 - i):Nat)) (W1.setRow g (lay L1 (i * 2) x.cells).toArray):=fun ty dc =>
  nY W1 ty t0 g (i * 2) (n + 1 - i) dc ⟨vb,vo,none⟩ 1 mc L1 x.cells we (by rw [rj]; simp only [Nat.min_def]; split <;> omega) (fun j v hj=>by rw [Addr.add_lit]; exact sm j v hj) (by omega) x.one
 rw [<- oh] at gg;have hE:ZJ (W1.setRow g (lay L1 (i * 2) x.cells).toArray) g 0 c L.length (l.take i++x :: l.drop i):=ZJ.ins (c:=c) (off:=0) (l:=l) (i:=i) (L:=L) (by omega) js fv (by omega) (by rw [yn,yn,<- ld]; exact setRow_heap W1 g _ _ _ _ we);rw [dv] at hE;have HE:=eL hE;have HK:=eL od;clear hE od h gl js fv dv we sm oh ld hx zi tx
 go_enter Tryz.func72,Tryz.ntmps72
 go_wp2_with (simp only [hov])
 go_region_law_o (refine mH rfl _ _ 65 65 rfl _ _ (by simp [Act.eval,Act.put]) (by simp [Act.eval,Act.put]) (gg _ _ _) ?_)
 go_wp2_with (at_builtin; refine MF _ rfl _ _ 65 65 rfl _ _ rfl rfl (li _ _) ?_)
 go_ret
 exact ⟨rfl,HE.out,HK.out.setRow (fun _=>rfl) _⟩
theorem syu3:Tryz.prog.underlying 3=some (.int .i64):=by kernel_rfl
set_option maxHeartbeats 1000000 in
theorem sygrow (g c N vb vo mc:Nat) (l:List hJ) (x:hJ) (n i:Nat) (w:World) (hn:l.length=n) (hi:i<n) (ea:n<=900) (h:ZJ w g 0 c N l) (ga:¬ n + 1<=c) (hx:UM w vb vo x) :
  Calls Tryz.prog 72 #[.slice (some ⟨g,0,none⟩) n c,.int .i64 i,.slice (some ⟨vb,vo,none⟩) 1 mc] w (b6 w (.slice (some ⟨g,0,none⟩) n c) (l.take i++x :: l.drop i)):=by
 have jd:n<=c:=by have:=h.len; omega
 have gt:=h.lt;have hvl:=hx.lt;obtain ⟨inf,nd,ne,gf,tg⟩:=info_parts syi;have hz2':¬ ((i:Int)=(n:Int)):=by omega
 have mixed:Tryz.prog.follows .mixedOrders=true:=by kernel_rfl
 have re:(l.drop i).length=n - i:=by rw [yr,hn]
 have pj:(l.take i).length=i:=by rw [ym]; omega
 have ii:IntKind.i64.wrap ((i:Int) + 1)=(i:Int) + 1:=IntWalk.i64_in _ (by omega);have su:IntKind.i64.wrap ((n:Int) + 1)=(n:Int) + 1:=IntWalk.i64_in _ (by omega);have hw3:IntKind.i64.wrap ((n:Int) + 1 - (i:Int))=((n + 1 - i:Nat):Int):=by rw [IntWalk.i64_in _ (by omega)]; omega
 have rf:=B1 (some ⟨g,0,none⟩) n c i (by omega);rw [if_neg (by omega),yp,Addr.add_lit,yn] at rf;have ci:=syhi (some ⟨g,0,none⟩) n c i (by omega);have zi:=h.take (k:=i) (by omega);have ew:=run_firstCells_some (P:=Tryz.prog) w.drew inf.size i ⟨g,0,none⟩ i c (iF (l.take i)) (by rw [FC,pj,gf]) (fun j u hu=>by rw [Addr.add_lit]; exact zi.cells j u hu);have ur:Builtin.nextslicecap (i + (n + 1 - i)) c * inf.bytes<=281474976710656:=by
  have h1:Builtin.nextslicecap (i + (n + 1 - i)) c<=2 * (i + (n + 1 - i)):=nextslicecap_le (by omega);rw [tg];omega
 have dn:=fun ty=>Lib.run_append_grow_zeros (P:=Tryz.prog) w 65 3 ty 50 inf _ .i64 .i64 g8 syu3 nd ne (some ⟨g,0,none⟩) i c (iF (l.take i)) ew (n + 1 - i) (by omega) (by omega) (by omega) (by omega) (by rw [tg]; omega) ur
 have e1:i + (n + 1 - i)=n + 1:=by omega
 rw [e1] at dn ur;have hcg:=grownCap_ge w (n + 1) c 50;have pp:=grownCap_le_maxLen w (n + 1) c 50 (by have:maxLen=9223372036854775807:=rfl; omega);generalize grownCap w (n + 1) c 50=cap at dn hcg pp;obtain ⟨L,hL⟩:∃ L:List Value,((iF (l.take i)).toArray++Builtin.zeroCells syZ.cells (n + 1 - i)++Builtin.zeroCells syZ.cells (cap - (n + 1)))=L.toArray:=⟨_,rfl⟩;have hLl:L.length=cap * 2:=by
  have:=congrArg Array.size hL;simp only [Array.size_append,size_zeroCells,yF,FC,pj] at this;have h5:syZ.cells.size=2:=rfl;rw [h5] at this;omega
 have bv:∀ j,j<i * 2->L[j]?=(iF l)[j]?:=fun j hj=>by
  have h1:L[j]?=(L.toArray)[j]?:=by simp
  rw [h1,<- hL,Array.append_assoc,Array.getElem?_append_left (by simp [FC,pj]; omega)];simp only [List.getElem?_toArray];rw [<- mN,yz,if_pos hj]
 rw [hL] at dn;clear hL;have rj:=x.len;have gu:∀ k,k<cap->∀ W,(Instr.slice 65 (.slice (some ⟨w.heap.size,0,none⟩) (n + 1) cap) (some (.int .i64 (k:Int))) none none).run Tryz.prog W=(if k<=n + 1 then .ok (.slice (some ⟨w.heap.size,k * 2,none⟩) (n + 1 - k) (cap - k)) W else (Instr.slice 65 (.slice (some ⟨w.heap.size,0,none⟩) (n + 1) cap) (some (.int .i64 (k:Int))) none none).run Tryz.prog W):=fun k hk W=>by
  split
  ·rename_i h;have:=B1 (some ⟨w.heap.size,0,none⟩) (n + 1) cap k h W;rw [if_neg (by omega),yp,Addr.add_lit,yn] at this;exact this
  ·rfl
 have gm:=fun W=>(gu i (by omega) W).trans (by rw [if_pos (by omega)])
 have zt:=fun W=>(gu (i + 1) (by omega) W).trans (by rw [if_pos (by omega)])
 simp only [Nat.add_sub_add_right,Int.natCast_add,Int.cast_ofNat_Int] at zt;clear gu;obtain ⟨W0,iq⟩:∃ W0,W0=w.drew.alloc (.cells L.toArray 50):=⟨_,rfl⟩;have dk:W0.heap[w.heap.size]?=some (.cells L.toArray 50 (0,0)):=by rw [iq]; exact heap_alloc_new w.drew _
 have gj:Below w.heap.size w W0:=by rw [iq]; exact EN ((Below.refl _ _).alloc (ye _) _)
 rw [<- iq] at dn;have rm:UM W0 vb vo x:=hx.congr (gj.block vb hvl);have gg:∀ ty dc,(Builtin.copy_ #[65,65] ty #[.slice (some ⟨w.heap.size,i * 2,none⟩) (n + 1 - i) dc,.slice (some ⟨vb,vo,none⟩) 1 mc]).run Tryz.prog W0=.ok (goInt (Nat.min 1 (n + 1 - i):Nat)) (W0.setRow w.heap.size (lay L (i * 2) x.cells).toArray):=fun ty dc =>
  nY W0 ty _ w.heap.size (i * 2) (n + 1 - i) dc ⟨vb,vo,none⟩ 1 mc L x.cells dk (by rw [rj]; simp only [Nat.min_def]; split <;> omega) (fun j v hj=>by rw [Addr.add_lit]; exact rm j v hj) (by omega) x.one
 have h1l:i * 2 + x.cells.length<=L.length:=by omega
 obtain ⟨L1,ld⟩:∃ L1,L1=lay L (i * 2) x.cells:=⟨_,rfl⟩;have zr:L1.length=L.length:=by rw [ld]; exact BF h1l
 obtain ⟨W1,oh⟩:∃ W1,W1=W0.setRow w.heap.size L1.toArray:=⟨_,rfl⟩;rw [<- ld,<- oh] at gg;have we:W1.heap[w.heap.size]?=some (.cells L1.toArray 50 (0,0)):=by rw [oh]; exact setRow_heap W0 w.heap.size _ _ _ _ dk
 have od:Below w.heap.size w W1:=by rw [oh]; exact gj.trans ⟨rfl,rfl,rfl,by simp,fun k hk=>setRow_other W0 w.heap.size k _ (by omega)⟩
 have xr:=(h.drop (k:=i) (by omega)).keep (SA.of_below od (fun _=>False)) (fun h=>h);rw [if_neg (by omega),yn] at xr;have li:∀ ty dc sc,(Builtin.copy_ #[65,65] ty #[.slice (some ⟨w.heap.size,(i + 1) * 2,none⟩) (n - i) dc,.slice (some ⟨g,i * 2,none⟩) (n - i) sc]).run Tryz.prog W1.drew=.ok (goInt (Nat.min (n - i) (n - i):Nat)) (W1.drew.setRow w.heap.size (lay L1 ((i + 1) * 2) (iF (l.drop i))).toArray):=fun ty dc sc =>
  nY W1.drew ty _ w.heap.size ((i + 1) * 2) (n - i) dc ⟨g,i * 2,none⟩ (n - i) sc L1 (iF (l.drop i)) we (by rw [FC,re]; congr 1; simp only [Nat.min_def]; split <;> omega)
   (fun j v hj=>by rw [Addr.add_lit]; exact xr.cells j v hj) (by rw [FC,re]; omega) (MT _)
 obtain ⟨W2,jq⟩:∃ W2,W2=W1.drew.setRow w.heap.size (lay L1 ((i + 1) * 2) (iF (l.drop i))).toArray:=⟨_,rfl⟩;have hE:ZJ W2 w.heap.size 0 cap L.length (l.take i++x :: l.drop i):=ZJ.ins2 (c:=cap) (l:=l) (i:=i) (L:=L) (by omega) (by omega) bv (by omega) (by rw [jq,<- ld]; exact setRow_heap W1.drew w.heap.size _ _ _ _ we);have nn:Below w.heap.size w W2:=by rw [jq]; exact od.trans ⟨rfl,rfl,rfl,by simp,fun k hk=>setRow_other W1.drew w.heap.size k _ (by have:=od.size; omega)⟩
 rw [<- jq] at li;have nb:(l.take i++x :: l.drop i).length=n + 1:=by simp; omega
 have HE:=eL hE;have HK:=eL nn;have HL:=eL nb;clear hE nn od gj xr h zi ew dk rm we iq oh jq ld hx nb bv
 go_enter Tryz.func72,Tryz.ntmps72
 go_wp2_with (first | (at_builtin; refine HG _ rfl _ _ _ _ rfl _ _ rfl rfl (dn _) ?_) | (at_builtin; refine MF _ rfl _ _ 65 65 rfl _ _ rfl rfl (gg _ _) ?_))
 go_region_law_o (refine mH rfl _ _ 65 65 rfl _ _ (by simp [Act.eval,Act.put]) (by simp [Act.eval,Act.put]) (li _ _ _) ?_)
 go_wp2_with fail
 go_ret
 exact ⟨w.heap.size,cap,_,congrArg (fun k=>Ending.returned (Value.slice (some ⟨w.heap.size,0,none⟩) k cap)) HL.out.symm,HE.out,SA.of_below HK.out _,.inl (ye _)⟩
theorem syinsert (v:Value) (l:List hJ) (x:hJ) (i vb vo mc:Nat) (w:World) (hi:i<=l.length) (h:syO w v l) (hx:UM w vb vo x) (jb:DL v≠some vb) (ea:l.length<=900) :
  Calls Tryz.prog 72 #[v,.int .i64 i,.slice (some ⟨vb,vo,none⟩) 1 mc] w (b6 w v (l.take i++x :: l.drop i)):=by
 by_cases hn:i=l.length
 ·have:=syend v l x l.length vb vo mc w rfl h hx ea;rw [hn,List.take_length,List.drop_length];exact this
 ·rcases h with ⟨rfl,rfl⟩ | ⟨g,c,N,rfl,hE⟩
  ·exact absurd (Nat.le_zero.1 hi) hn
  ·by_cases ga:l.length + 1<=c
   ·obtain ⟨⟨cur,ty,h1,h2,_⟩,_⟩:=id hE;refine (syshift g c N vb vo mc l x l.length i w rfl (by omega) (by omega) hE ga hx (fun h=>jb (by rw [h]; rfl))).mono ?_;rintro e w' ⟨rfl,h3,h4⟩;refine ⟨g,c,N,?_,h3,h4.mono fun i _ h=>by subst h; rfl,.inr ⟨rfl,cur,ty,h1,h2⟩⟩;congr 2;simp; omega
   ·exact sygrow g c N vb vo mc l x l.length i w rfl (by omega) ea hE ga hx
end
section
open Go Go.RowKit
theorem C1 {av:Av} {w:World} {v0:Value} {g0:Nat->Prop} {E:List hJ} {l:List (List AV)} {x:List AV} {xe:hJ} {k vb vo c:Nat} (hk:k<=E.length) (hO:syO w v0 E) (kc:UM w vb vo xe) (eu:¬ av vb vo) (ec:KA av w x xe.cells) (hl:KA av w l.flatten (iF E)) (eb:OA 2 (x :: l)=true) (ea:l.length=E.length) (h9:l.length<=900) (hb:∀ b,DL v0=some b->g0 b) (hg:∀ b,g0 b->∀ o,av b o) :
  Calls Tryz.prog 72 #[v0,.int .i64 k,.slice (some ⟨vb,vo,none⟩) 1 c] w fun e w'=>∃ v,e=.returned v/\QX w g0 2 av w' (l.take k++x :: l.drop k) v/\SA g0 w w':=by
 rw [XC,yc,decide_eq_true_eq] at eb;refine (syinsert v0 E xe k vb vo c w hk hO kc (fun h=>eu (hg vb (hb vb h) vo)) (by omega)).mono ?_;rintro e w' ⟨g,c',N,rfl,⟨⟨ra,uf,e1,e2,e3,e4⟩,e5⟩,hK,ee⟩;have oc:SA g0 w w':=hK.mono (fun i _ h=>hb i h);have nb:(l.take k++x :: l.drop k).length=(E.take k++xe :: E.drop k).length:=by simp [ea]
 have hz:OA 2 (l.take k++x :: l.drop k)=true:=by rw [RG,XC,uH eb.2,ZI eb.2,eb.1]; rfl
 have held:=IK oc hg (g:=g) (by rcases ee with h | ⟨h,_⟩; exact .inl h; exact .inr (hb g h));refine ⟨_,rfl,⟨g,c',ra,uf,by rw [nb],?_,e1,by rw [nb]; exact e5,by omega,?_⟩,oc⟩
 ·rcases ee with h | ⟨h,cur,ty,h1,h2⟩
  ·exact .inl h
  ·exact .inr ⟨hb g h,cur,ty,h1,by omega⟩
 ·rw [List.drop_zero] at e4;rw [lF hz,nb,e4,List.flatten_append,yy,BI k eb.2,CI k eb.2,fJ,qL,<- mN,<- gJ];exact KA.held held _ _ (jD (iK _ hl) (jD ec (tK _ hl)))
theorem X1 {av:Av} {w:World} {g0:Nat->Prop} {E:List hJ} {l:List (List AV)} {k g c N:Nat} (hk:k<E.length) (hO:ZJ w g 0 c N E) (hl:KA av w l.flatten (iF E)) (eb:OA 2 l=true) (ea:l.length=E.length) (h9:l.length<=900) (hb:∀ b,g0 b ↔ b=g) (hg:∀ o,av g o) :
  Calls Tryz.prog 73 #[.slice (some ⟨g,0,none⟩) E.length c,.int .i64 k,.int .i64 ((k:Int) + 1)] w fun e w'=>∃ v,e=.returned v/\QX w g0 2 av w' (l.take k++l.drop (k + 1)) v/\SA g0 w w':=by
 obtain ⟨⟨cur0,fq,c1,c2,_⟩,_⟩:=id hO;refine (sydelete g 0 c N E E.length k w rfl hk (by omega) hO).mono ?_;rintro e w' ⟨c',rfl,⟨⟨ra,uf,e1,e2,e3,e4⟩,e5⟩,hK⟩;have oc:SA g0 w w':=hK.mono (fun i _ h=>(hb i).2 h);rw [List.eraseIdx_eq_take_drop_succ] at e4 e5 ⊢;have nb:(l.take k++l.drop (k + 1)).length=(E.take k++E.drop (k + 1)).length:=by simp [ea]
 have hz:OA 2 (l.take k++l.drop (k + 1))=true:=by rw [RG,uH eb,ZI eb]; rfl
 have held:=IK oc (fun b h o=>by rw [(hb b).1 h]; exact hg o) (g:=g) (.inr ((hb g).2 rfl));refine ⟨_,rfl,⟨g,c',ra,uf,by rw [nb],.inr ⟨(hb g).2 rfl,cur0,fq,c1,by omega⟩,e1,by rw [nb]; exact e5,by omega,?_⟩,oc⟩;rw [List.drop_zero] at e4;rw [lF hz,nb,e4,List.flatten_append,BI k eb,CI (k + 1) eb,fJ,<- mN,<- gJ];exact KA.held held _ _ (jD (iK _ hl) (tK _ hl))
theorem m6 {av:Av} {w:World} {b:Bool} {l:List (List AV)} {v0:Value} {g0:Nat->Prop} (hg:mX 2 av w b l v0 g0) (eb:OA 2 l=true) (h9:l.length<=900) :
  (l=[]/\(∃ A,v0=.slice A 0 0)/\∀ g,¬ g0 g)\/(b=false/\∃ (E:List hJ) (g c N:Nat),E.length=l.length/\v0=.slice (some ⟨g,0,none⟩) E.length c/\(∀ b,g0 b ↔ b=g)/\(∀ o,av g o)/\KA av w l.flatten (iF E)/\ZJ w g 0 c N E):=by
 rcases hg with ⟨h1,h2,_,h3⟩ | ⟨hb,g,c,cur,ty,hv,h0,hh,hc,hz,tc,hr⟩
 ·exact .inl ⟨h1,h2,h3⟩
 ·have nb:=qE hr;have hf:=lF eb;obtain ⟨E,hE,hC⟩:=syC_of l.length (cur.toList.take l.flatten.length) (by rw [<- nb,hf]) (uK hr);refine .inr ⟨hb,E,g,c,cur.size,hE,by rw [hE]; exact hv,h0,tc,by rw [hC]; exact hr,⟨⟨cur,ty,hh,rfl,by omega,?_⟩,by rw [hE]; exact hc⟩⟩;rw [List.drop_zero,hC,hE,hf]
theorem syins0 {av:Av} {w:World} {g0:Nat->Prop} {x:List AV} {xe:hJ} {vb vo c:Nat} (A:Option Addr) (kc:UM w vb vo xe) (ec:KA av w x xe.cells) (eb:OA 2 [x]=true) (hg:∀ b,¬ g0 b) :
  Calls Tryz.prog 72 #[.slice A 0 0,.int .i64 0,.slice (some ⟨vb,vo,none⟩) 1 c] w fun e w'=>∃ v,e=.returned v/\QX w g0 2 av w' [x] v/\SA g0 w w':=by
 refine (syend0 A xe vb vo c w kc).mono ?_;rintro e w' ⟨g,c',N,rfl,⟨⟨ra,uf,e1,e2,e3,e4⟩,e5⟩,hK,ee⟩;have oc:SA g0 w w':=hK.mono (fun i _ h=>h.elim);have held:=IK (av:=av) oc (fun b h=>absurd h (hg b)) (g:=g) (.inl ee);refine ⟨_,rfl,⟨g,c',ra,uf,rfl,.inl ee,e1,e5,by simp only [List.length_singleton] at e3 e5 ⊢; omega,?_⟩,oc⟩;rw [List.drop_zero] at e4;rw [lF eb];have wz:ra.toList.take ([x].length * 2)=iF [xe]:=e4;rw [wz,List.flatten_singleton];have um:iF [xe]=xe.cells:=by simp [iF]
 rw [um];exact KA.held held _ _ ec
theorem syins_ok {O:JD} {b:Bool} {l:List (List AV)} {x:List AV} {i:Int} (h0:0<=i) (h1:i<=l.length) (h9:l.length<=900) (eb:OA 2 (x :: l)=true) :
  DA Tryz.prog O 72 [.undef,.sl b l,.int .i64 i,.sl false [x]] (some (.int .i64 2)) (.sl false (l.take i.toNat++x :: l.drop i.toNat),none):=by
 unfold DA;refine (?_:pF _ _ _ _ _ _);refine ⟨enters_of Tryz.func72 (by kernel_rfl) rfl,?_⟩;intro av w v0 vs g0 tc ua hg;simp only [AE] at ua;obtain ⟨u1,pz,rfl,wk,u2,wu,rfl,gk,rfl⟩:=ua;rw [PA] at wk;subst wk;rw [NB] at gk;simp only [JC] at gk;obtain ⟨A,c,rfl,hc,_,_,hs⟩:=gk;obtain ⟨vb,vo,rfl,oa⟩:=(hs trivial).2 (by simp);rw [qD] at oa;simp only [yy,List.flatten_nil,yt] at oa;obtain ⟨xs,ec,rj⟩:=eH oa;have ik:=eb;rw [XC,yc,decide_eq_true_eq] at ik;have iy:xs.length=2:=by rw [<- qE ec]; exact ik.1
 have kc:UM w vb vo ⟨xs,iy,uK ec⟩:=fun j u hu=>(rj j u hu).1
 have eu:¬ av vb vo:=by
  have:=(rj 0 _ (yg (by omega))).2
  rwa [Nat.add_zero] at this
 have hi:i=(i.toNat:Int):=by omega
 rcases m6 hg ik.2 h9 with ⟨rfl,⟨A0,rfl⟩,tl⟩ | ⟨rfl,E,g,cg,N,hE,rfl,tl,pk,hr,hB⟩
 ·have ft:i=0:=by simp at h1; omega
  subst ft;exact syins0 A0 kc ec eb tl
 ·have:=C1 (v0:=.slice (some ⟨g,0,none⟩) E.length cg) (g0:=g0) (E:=E) (k:=i.toNat) (c:=c) (by omega) (.inr ⟨g,cg,N,rfl,hB⟩) kc eu ec hr eb hE.symm h9 (fun b h=>by simp [DL] at h; exact (tl b).2 h.symm) (fun b h o=>by rw [(tl b).1 h]; exact pk o);rw [<- hi] at this;exact this
theorem sydel_ok {O:JD} {l:List (List AV)} {i:Int} (h0:0<=i) (h1:i + 1<=l.length) (h9:l.length<=900) (eb:OA 2 l=true) :
  DA Tryz.prog O 73 [.undef,.sl false l,.int .i64 i,.int .i64 (i + 1)] (some (.int .i64 2)) (.sl false (l.take i.toNat++l.drop (i + 1).toNat),none):=by
 unfold DA;refine (?_:pF _ _ _ _ _ _);refine ⟨enters_of Tryz.func73 (by kernel_rfl) rfl,?_⟩;intro av w v0 vs g0 tc ua hg;simp only [AE] at ua;obtain ⟨u1,pz,rfl,wk,u2,wu,rfl,gk,rfl⟩:=ua;rw [PA] at wk gk;subst wk;subst gk;have hi:i=(i.toNat:Int):=by omega
 rcases m6 hg eb h9 with ⟨rfl,_⟩ | ⟨_,E,g,cg,N,hE,rfl,tl,pk,hr,hB⟩
 ·simp at h1; omega
 ·have:=X1 (k:=i.toNat) (by omega) hB hr eb hE.symm h9 tl pk;rw [<- hi] at this;rw [show (i + 1).toNat=i.toNat + 1 from by omega];exact this
end
section
open Go Go.Shelf Go.RowKit
def tZ:Go.Shelf.Ren:=⟨fun | 171=>50 | 243=>89 | 246=>90 | 283=>132 | 284=>133 | 285=>134 | 286=>135 | 129=>171 | 317=>170 | 318=>172 | 319=>173 | 320=>174 | 337=>188 | 338=>189 | n=>n,fun | 3=>3 | 9=>9 | 2=>2 | 4=>4 | 171=>178 | 0=>0 | 53=>179 | 37=>133 | 5=>5 | 173=>182 | 212=>204 | 51=>205 | 20=>20 | 213=>206 | 46=>207 | 232=>227 | 233=>228 | n=>n,fun | 17=>0 | 18=>2 | 19=>3 | n=>n⟩
theorem lays171:Lays.n171 Tryz.prog tZ where
 mixed:=by kernel_rfl
 f129:=Tryz.func171.trans (congrArg some (by kernel_rfl))
 f171:=Tryz.func50.trans (congrArg some (by kernel_rfl))
 f243:=Tryz.func89.trans (congrArg some (by kernel_rfl))
 f246:=Tryz.func90.trans (congrArg some (by kernel_rfl))
 f283:=Tryz.func132.trans (congrArg some (by kernel_rfl))
 f284:=Tryz.func133.trans (congrArg some (by kernel_rfl))
 f285:=Tryz.func134.trans (congrArg some (by kernel_rfl))
 f286:=Tryz.func135.trans (congrArg some (by kernel_rfl))
 f317:=Tryz.func170.trans (congrArg some (by kernel_rfl))
 f318:=Tryz.func172.trans (congrArg some (by kernel_rfl))
 f319:=Tryz.func173.trans (congrArg some (by kernel_rfl))
 f320:=Tryz.func174.trans (congrArg some (by kernel_rfl))
 f337:=Tryz.func188.trans (congrArg some (by kernel_rfl))
 f338:=Tryz.func189.trans (congrArg some (by kernel_rfl))
 t0:=Tryz.underlying0
 a0:=Tryz.isAgg0
 z0:=Tryz.sizeOf0
 v0:=Tryz.zeroValue0
 t2:=Tryz.underlying2
 a2:=Tryz.isAgg2
 z2:=Tryz.sizeOf2
 v2:=Tryz.zeroValue2
 t3:=Tryz.underlying3
 a3:=Tryz.isAgg3
 z3:=Tryz.sizeOf3
 v3:=Tryz.zeroValue3
 t4:=Tryz.underlying4
 a4:=Tryz.isAgg4
 z4:=Tryz.sizeOf4
 v4:=Tryz.zeroValue4
 t5:=Tryz.underlying5
 a5:=Tryz.isAgg5
 z5:=Tryz.sizeOf5
 v5:=Tryz.zeroValue5
 t9:=Tryz.underlying9
 a9:=Tryz.isAgg9
 z9:=Tryz.sizeOf9
 v9:=Tryz.zeroValue9
 t20:=Tryz.underlying20
 a20:=Tryz.isAgg20
 z20:=Tryz.sizeOf20
 v20:=Tryz.zeroValue20
 t37:=Tryz.underlying133
 a37:=Tryz.isAgg133
 z37:=Tryz.sizeOf133
 v37:=Tryz.zeroValue133
 t46:=Tryz.underlying207
 a46:=Tryz.isAgg207
 z46:=Tryz.sizeOf207
 v46:=Tryz.zeroValue207
 t51:=Tryz.underlying205
 a51:=Tryz.isAgg205
 z51:=Tryz.sizeOf205
 v51:=Tryz.zeroValue205
 t53:=Tryz.underlying179
 a53:=Tryz.isAgg179
 z53:=Tryz.sizeOf179
 v53:=Tryz.zeroValue179
 t171:=Tryz.underlying178
 a171:=Tryz.isAgg178
 z171:=Tryz.sizeOf178
 v171:=Tryz.zeroValue178
 t173:=Tryz.underlying182
 a173:=Tryz.isAgg182
 z173:=Tryz.sizeOf182
 v173:=Tryz.zeroValue182
 t212:=Tryz.underlying204
 a212:=Tryz.isAgg204
 z212:=Tryz.sizeOf204
 v212:=Tryz.zeroValue204
 t213:=Tryz.underlying206
 a213:=Tryz.isAgg206
 z213:=Tryz.sizeOf206
 t232:=Tryz.underlying227
 a232:=Tryz.isAgg227
 z232:=Tryz.sizeOf227
 v232:=Tryz.zeroValue227
 t233:=Tryz.underlying228
 a233:=Tryz.isAgg228
 z233:=Tryz.sizeOf228
 v233:=Tryz.zeroValue228
 g17:=by kernel_rfl
 g18:=by kernel_rfl
 g19:=by kernel_rfl
def qT:Go.Shelf.Ren:=⟨fun | 156=>54 | 165=>92 | 166=>93 | 169=>94 | 240=>136 | 241=>137 | 276=>175 | 277=>176 | n=>n,fun | 31=>92 | 9=>9 | 3=>3 | 4=>4 | 0=>0 | 20=>20 | 72=>135 | 76=>139 | 70=>132 | 37=>133 | 75=>138 | 127=>184 | 164=>209 | 5=>5 | 80=>141 | n=>n,fun | n=>n⟩
theorem Z5:Lays.n156 Tryz.prog qT where
 mixed:=by kernel_rfl
 f156:=Tryz.func54.trans (congrArg some (by kernel_rfl))
 f165:=Tryz.func92.trans (congrArg some (by kernel_rfl))
 f166:=Tryz.func93.trans (congrArg some (by kernel_rfl))
 f169:=Tryz.func94.trans (congrArg some (by kernel_rfl))
 f240:=Tryz.func136.trans (congrArg some (by kernel_rfl))
 f241:=Tryz.func137.trans (congrArg some (by kernel_rfl))
 f276:=Tryz.func175.trans (congrArg some (by kernel_rfl))
 f277:=Tryz.func176.trans (congrArg some (by kernel_rfl))
 t0:=Tryz.underlying0
 a0:=Tryz.isAgg0
 z0:=Tryz.sizeOf0
 v0:=Tryz.zeroValue0
 t3:=Tryz.underlying3
 a3:=Tryz.isAgg3
 z3:=Tryz.sizeOf3
 v3:=Tryz.zeroValue3
 t4:=Tryz.underlying4
 a4:=Tryz.isAgg4
 z4:=Tryz.sizeOf4
 v4:=Tryz.zeroValue4
 t9:=Tryz.underlying9
 a9:=Tryz.isAgg9
 z9:=Tryz.sizeOf9
 v9:=Tryz.zeroValue9
 t20:=Tryz.underlying20
 a20:=Tryz.isAgg20
 z20:=Tryz.sizeOf20
 v20:=Tryz.zeroValue20
 t31:=Tryz.underlying92
 a31:=Tryz.isAgg92
 z31:=Tryz.sizeOf92
 v31:=Tryz.zeroValue92
 t37:=Tryz.underlying133
 a37:=Tryz.isAgg133
 z37:=Tryz.sizeOf133
 v37:=Tryz.zeroValue133
 t70:=Tryz.underlying132
 a70:=Tryz.isAgg132
 z70:=Tryz.sizeOf132
 v70:=Tryz.zeroValue132
 t72:=Tryz.underlying135
 a72:=Tryz.isAgg135
 z72:=Tryz.sizeOf135
 v72:=Tryz.zeroValue135
 t75:=Tryz.underlying138
 a75:=Tryz.isAgg138
 z75:=Tryz.sizeOf138
 v75:=Tryz.zeroValue138
 t76:=Tryz.underlying139
 a76:=Tryz.isAgg139
 z76:=Tryz.sizeOf139
 v76:=Tryz.zeroValue139
 t127:=Tryz.underlying184
 a127:=Tryz.isAgg184
 z127:=Tryz.sizeOf184
 v127:=Tryz.zeroValue184
 t164:=Tryz.underlying209
 a164:=Tryz.isAgg209
 z164:=Tryz.sizeOf209
 v164:=Tryz.zeroValue209
theorem joinX:Builder.Extra Tryz.prog qT where
 sizeBuilder:=by kernel_rfl
 liesBuilder:=by kernel_rfl
 t5:=Tryz.underlying5
 a5:=Tryz.isAgg5
 z5:=Tryz.sizeOf5
 v5:=Tryz.zeroValue5
 infoByte:=by kernel_rfl
 cellsByte:=by kernel_rfl
 sizeByte:=by kernel_rfl
 neB5:=by decide
theorem Z0 (i:Nat) (hi:i<100) (w:World) :
  Calls Tryz.prog 50 #[.int .i64 i] w fun e w'=>e=.returned (.string ⟨(Lib.decDigits i).toArray⟩)/\w'=w:=Any.strconv_Itoa_small lays171 i hi w
theorem z7 (a:Option Addr) (c:Nat) (sep:ByteArray) (w:World) :
  Calls Tryz.prog 54 #[.slice a 0 c,.string sep] w fun e w'=>e=.returned (.string ⟨#[]⟩)/\w'=w:=Any.strings_Join_none Z5 joinX a c sep w
theorem join_any (bk o c:Nat) (xs:List ByteArray) (sep:ByteArray) (w:World)
  (ss:∀ (j:Nat) x,xs[j]?=some x->w.cell? ⟨bk,o + j,none⟩=some (.string x))
  (hbk:bk<w.heap.size) (hN:xs.length<=140737488355328) (jd:xs.length<=c)
  (ea:(Lib.join (xs.map (·.data.toList)) sep.data.toList).length<=140737488355328) :
  Calls Tryz.prog 54 #[.slice (some ⟨bk,o,none⟩) xs.length c,.string sep] w fun e w'=>e=.returned (.string ⟨(Lib.join (xs.map (·.data.toList)) sep.data.toList).toArray⟩)/\Below w.heap.size w w':=Any.strings_Join Z5 joinX bk o c xs sep w ss hbk hN jd ea
end
section
open Go Go.RowKit
theorem jnB_eq (sep:List UInt8):∀ xs:List (List UInt8),jnB sep xs=Lib.join xs sep
 | []=>rfl
 | [x]=>(Lib.join_one x sep).symm
 | x :: y :: r=>by
  show x++sep++jnB sep (y :: r)=_;rw [jnB_eq sep (y :: r),Lib.join_cons,Lib.join_cons];simp [Lib.joinTail,yl]
theorem itoa_ok {O:JD} {n:Int} (h0:0<=n) (h1:n<100):DA Tryz.prog O 50 [.int .i64 n] none (.str ⟨(if n<10 then [UInt8.ofNat (48 + n.toNat)] else [UInt8.ofNat (48 + n.toNat / 10),UInt8.ofNat (48 + n.toNat % 10)]).toArray⟩,none):=by
 refine (DA.of rfl).2 ⟨enters_of Tryz.func50 (by kernel_rfl) rfl,?_⟩;intro av w vs tc ua;simp only [AE] at ua;obtain ⟨u,us,rfl,hu,rfl⟩:=ua;rw [PA] at hu;subst hu;have:=Z0 n.toNat (by omega) w;rw [show ((n.toNat:Nat):Int)=n from by omega] at this;refine this.mono ?_;rintro e w' ⟨rfl,rfl⟩;refine ⟨_,rfl,?_,Below.refl _ _⟩;simp only [JC];congr 3;by_cases h:n<10
 ·rw [if_pos h,Lib.decDigits_one (by omega)]
 ·rw [if_neg h,Lib.decDigits_two (by omega) (by omega)]
theorem pT {av:Av} {w:World}:∀ {l:List (List AV)} {xs:List (List UInt8)} {us:List Value},FV l=some xs->KA av w l.flatten us->us=xs.map (fun x=>.string ⟨x.toArray⟩)/\l.length=xs.length
 | [],xs,us,h,hr=>by
  injection h with h;subst h;exact ⟨hr,rfl⟩
 | c :: r,xs,us,h,hr=>by
  unfold FV at h;split at h
  ·rename_i e; cases e
  ·rename_i x r' e;injection e with e1 e2;subst e1; subst e2;obtain ⟨ys,hy,h⟩:=yf.1 h;subst h;obtain ⟨u,wa,rfl,hu,_,hr⟩:=hr;obtain ⟨h1,h2⟩:=pT hy hr;subst h1;simp only [JC] at hu;subst hu;exact ⟨by simp,by simp [h2]⟩
  ·cases h
theorem join_ok {O:JD} {l:List (List AV)} {s:ByteArray} {xs:List (List UInt8)} (hx:FV l=some xs) (hl:l.length<=1000) (h47:(jnB s.data.toList xs).length<=140737488355328):DA Tryz.prog O 54 [.sl false l,.str s] none (.str ⟨(jnB s.data.toList xs).toArray⟩,none):=by
 refine (DA.of rfl).2 ⟨enters_of Tryz.func54 (by kernel_rfl) rfl,?_⟩;intro av w vs tc ua;simp only [AE] at ua;obtain ⟨u1,pz,rfl,wk,u2,wu,rfl,gk,rfl⟩:=ua;rw [cE] at gk;subst gk;rw [NB] at wk;simp only [JC] at wk;obtain ⟨A,c,rfl,hc,_,_,hs⟩:=wk;rw [jnB_eq] at h47 ⊢;cases l with
 | nil =>
  injection hx with hx;subst hx;refine (z7 A c s w).mono ?_;rintro e w' ⟨rfl,rfl⟩;exact ⟨_,rfl,rfl,Below.refl _ _⟩
 | cons d l =>
  obtain ⟨bk,o,rfl,oa⟩:=(hs trivial).2 (by simp);rw [qD] at oa;obtain ⟨us,hr,rb⟩:=eH oa;obtain ⟨h1,h2⟩:=pT hx hr;subst h1;have hd:(xs.map (fun x=>(⟨x.toArray⟩:ByteArray))).map (·.data.toList)=xs:=by simp [Function.comp_def]
  have md:∀ (j:Nat) x,(xs.map (fun x=>(⟨x.toArray⟩:ByteArray)))[j]?=some x->w.cell? ⟨bk,o + j,none⟩=some (.string x):=fun j x hj=>by
   refine (rb j (.string x) ?_).1;rw [yh] at hj ⊢;obtain ⟨y,hy,rfl⟩:=yf.1 hj;rw [hy]; rfl
  have ub:0<xs.length:=by rw [<- h2]; simp
  obtain ⟨x0,ay⟩:∃ x0,(xs.map (fun x=>(⟨x.toArray⟩:ByteArray)))[0]?=some x0:=⟨_,yg (by simpa using ub)⟩;have hbk:bk<w.heap.size:=by
   have h:=md 0 x0 ay;obtain ⟨cc,ty,fz,h,_⟩:=dL h;exact dA h
  have:=join_any bk o c (xs.map fun x=>⟨x.toArray⟩) s w md hbk (by simp; omega) (by simp; omega) (by rw [hd]; exact h47);rw [hd,y9,<- h2] at this;refine this.mono ?_;rintro e w' ⟨rfl,hb⟩;exact ⟨_,rfl,rfl,hb⟩
theorem insE_ok {z:Nat} {args:List AV} {r:RV} (h:insE z args=some r):∃ b l i x,args=[.undef,.sl b l,.int .i64 i,.sl false [x]]/\r=(.sl false (l.take i.toNat++x :: l.drop i.toNat),none)/\0<=i/\i<=l.length/\l.length<=900/\OA z (x :: l)=true:=by
 unfold insE at h;split at h
 ·rename_i b l i x;split at h
  ·rename_i hc;injection h with h;exact ⟨b,l,i,x,rfl,h.symm,hc.1,hc.2.1,hc.2.2.1,hc.2.2.2.1⟩
  ·cases h
 ·cases h
theorem delE_ok {z:Nat} {args:List AV} {r:RV} (h:delE z args=some r):∃ l i,args=[.undef,.sl false l,.int .i64 i,.int .i64 (i + 1)]/\r=(.sl false (l.take i.toNat++l.drop (i + 1).toNat),none)/\0<=i/\i + 1<=l.length/\l.length<=900/\OA z l=true:=by
 unfold delE at h;split at h
 ·rename_i l i j;split at h
  ·rename_i hc;injection h with h;obtain ⟨h1,rfl,h3,h4,h5⟩:=hc;exact ⟨l,i,rfl,h.symm,h1,h3,h4,h5⟩
  ·cases h
 ·cases h
theorem N6 {O:JD} (f:FuncId) (args:List AV) (S:Option AV) (r:RV) (h:jA f args S=some r):DA Tryz.prog O f args S r:=by
  unfold jA at h
  repeat' split at h
  all_goals first
    | (subst_vars; obtain ⟨b,l,i,x,rfl,rfl,h0,h1,h2,h3⟩:=insE_ok h; first | exact myins_ok h0 h1 h2 h3 | exact syins_ok h0 h1 h2 h3)
    | (subst_vars; obtain ⟨l,i,rfl,rfl,h0,h1,h2,h3⟩:=delE_ok h; first | exact mydel_ok h0 h1 h2 h3 | exact sydel_ok h0 h1 h2 h3)
    | exact qR f args S r h
    | (subst_vars
       unfold itoaE at h;split at h
       · split at h
         · rename_i hc
           injection h with h;subst h;exact itoa_ok hc.1 hc.2
         · cases h
       · cases h)
    | (subst_vars
       unfold jnE at h;split at h
       · obtain ⟨xs,hx,h⟩:=y7.1 h
         split at h
         · rename_i hc
           injection h with h;subst h;exact join_ok hx hc.1 hc.2
         · cases h
       · cases h)
    | cases h
end
section
open Go Go.RowKit
theorem XX:Tryz.prog.follows .mixedOrders=true:=by kernel_rfl
theorem bld_evo {f:FuncId} {args:List AV} {S:Option AV} {r:RV} (h:zA f args S=some r):jA f args S=some r:=by
  have h':=h;unfold zA at h
  first
  | (cases h; done)
  | (unfold jA
     split at h
     · rename_i e; subst e; exact h'
     · split at h
       · rename_i e; subst e; exact h'
       · cases h)
theorem N9 {f:Nat} {args:List AV} {S:Option AV} {r:RV} (h:WF lA zA f args S=some r):WF lA jA f args S=some r:=C9 (fun _ _ _ _ h=>bld_evo h) h
theorem EK {O:JD} {f:FuncId} (h1:WF lA zA f [.undef,.sl true []] none=some (.sl true [],none)) (h2:WF lA zA f [.undef,.bl []] none=some (.sl false [],none)):DA Tryz.prog O f [.undef,.sl false []] none (.sl false [],none):=by
 have k1:=DA.own (O:=O) (args:=[.sl true []]) rfl (wQ XX RX qR h1);have k2:=DA.own (O:=O) (args:=[.bl []]) rfl (wQ XX RX qR h2);unfold DA;refine (?_:pF _ _ _ _ _ _);refine ⟨k1.1,?_⟩;intro av w vs tc ua;simp only [AE] at ua;obtain ⟨u,us,rfl,hu,rfl⟩:=ua;rw [NB] at hu;simp only [JC] at hu;obtain ⟨A,c,rfl,_,_,_,hs⟩:=hu;cases A with
 | none =>
  obtain rfl:c=0:=(hs trivial).1 rfl;refine (k1.2 av w [_] tc ⟨_,_,rfl,(NB).2 ?_,rfl⟩).mono ?_
  ·simp only [JC];exact ⟨none,0,rfl,by simp,by simp,fun _=>⟨rfl,rfl,rfl⟩,(fun h=>by cases h)⟩
  ·rintro e w' ⟨v,rfl,hv,hb⟩;refine ⟨v,rfl,?_,hb⟩;rw [if_pos (by rfl)] at hv ⊢;refine ⟨?_,hv.2⟩;replace hv:=hv.1;simp only [JC] at hv ⊢;obtain ⟨A',c',rfl,_,_,hn,_⟩:=hv;obtain ⟨rfl,_,rfl⟩:=hn trivial;exact ⟨none,0,rfl,by simp,by simp,(fun h=>by cases h),fun _=>⟨fun _=>rfl,fun h=>absurd h (by simp)⟩⟩
 | some a =>
  refine (k2.2 av w [_] tc ⟨_,_,rfl,?_,rfl⟩).mono ?_
  ·simp only [UA];exact ⟨a,c,rfl,by simp,by simp,fun h=>absurd h (by simp)⟩
  ·rintro e w' ⟨v,rfl,hv,hb⟩;exact ⟨v,rfl,hv,hb⟩
theorem clo_ty1:WF lA zA 59 [.undef,.sl true []] none=some (.sl true [],none):=by
 refine uD PB rfl rfl ?_;simp [PB,-J,-y6,-y5,y0,XI,aJ,SX,ZA,aG]
theorem clo_ty2:WF lA zA 59 [.undef,.bl []] none=some (.sl false [],none):=by
 refine uD PB rfl rfl ?_;have ga:∀ b,nA b 0=true:=fun b=>by rw [rA]; omega
 simp [PB,-J,-y6,-y5,y0,XI,aJ,SX,ZA,aG,ga]
theorem clo_sy1:WF lA zA 60 [.undef,.sl true []] none=some (.sl true [],none):=by
 refine uD lB rfl rfl ?_;simp [lB,-J,-y6,-y5,y0,XI,aJ,SX,ZA,aG]
theorem clo_sy2:WF lA zA 60 [.undef,.bl []] none=some (.sl false [],none):=by
 refine uD lB rfl rfl ?_;have ga:∀ b,nA b 0=true:=fun b=>by rw [rA]; omega
 simp [lB,-J,-y6,-y5,y0,XI,aJ,SX,ZA,aG,ga]
theorem clo_me1:WF lA zA 61 [.undef,.sl true []] none=some (.sl true [],none):=by
 refine uD kB rfl rfl ?_;simp [kB,-J,-y6,-y5,y0,XI,aJ,SX,ZA,aG]
theorem clo_me2:WF lA zA 61 [.undef,.bl []] none=some (.sl false [],none):=by
 refine uD kB rfl rfl ?_;have ga:∀ b,nA b 0=true:=fun b=>by rw [rA]; omega
 simp [kB,-J,-y6,-y5,y0,XI,aJ,SX,ZA,aG,ga]
theorem U5:WF lA zA 62 [.undef,.sl true []] none=some (.sl true [],none):=by
 refine uD JA rfl rfl ?_;simp [JA,-J,-y6,-y5,y0,XI,aJ,SX,ZA,aG]
theorem clo_va2:WF lA zA 62 [.undef,.bl []] none=some (.sl false [],none):=by
 refine uD JA rfl rfl ?_;have ga:∀ b,nA b 0=true:=fun b=>by rw [rA]; omega
 simp [JA,-J,-y6,-y5,y0,XI,aJ,SX,ZA,aG,ga]
theorem T5:WF lA zA 63 [.undef,.sl true []] none=some (.sl true [],none):=by
 refine uD MA rfl rfl ?_;simp [MA,-J,-y6,-y5,y0,XI,aJ,SX,ZA,aG]
theorem clo_ra2:WF lA zA 63 [.undef,.bl []] none=some (.sl false [],none):=by
 refine uD MA rfl rfl ?_;have ga:∀ b,nA b 0=true:=fun b=>by rw [rA]; omega
 simp [MA,-J,-y6,-y5,y0,XI,aJ,SX,ZA,aG,ga]
def XT (f:FuncId):Bool:=f == 59||f == 60||f == 61||f == 62||f == 63
def MO:List AV->Option AV->Bool
 | [.undef,.sl false []],none=>true
 | _,_=>false
theorem K0 {args:List AV} {S:Option AV} (h:MO args S=true):args=[.undef,.sl false []]/\S=none:=by
 unfold MO at h;split at h
 ·exact ⟨rfl,rfl⟩
 ·cases h
noncomputable def MC:LA:=fun f args S=>if (XT f&&MO args S)=true then some (.sl false [],none) else WF lA jA f args S
theorem evoX_ok {O:JD} (f:Nat) (args:List AV) (S:Option AV) (r:RV) (h:MC f args S=some r):DA Tryz.prog O f args S r:=by
 unfold MC at h;split at h
 ·rename_i hc;rw [yc] at hc;obtain ⟨hc,hn⟩:=hc;obtain ⟨rfl,rfl⟩:=K0 hn;injection h with h;subst h;simp only [XT,Bool.or_eq_true,beq_iff_eq] at hc;rcases hc with (((rfl | rfl) | rfl) | rfl) | rfl
  ·exact EK clo_ty1 clo_ty2
  ·exact EK clo_sy1 clo_sy2
  ·exact EK clo_me1 clo_me2
  ·exact EK U5 clo_va2
  ·exact EK T5 clo_ra2
 ·exact wQ XX RX N6 h
def QD:Nat->Option RA
 | 36=>some FE
 | 35=>some CH
 | 37=>some XH
 | 66=>some PI
 | 67=>some qG
 | 71=>some wG
 | 14=>some II
 | 43=>some RD
 | 17=>some EF
 | 29=>some ZH
 | 23=>some bG
 | 3=>some mF
 | 4=>some jC
 | 5=>some JE
 | 6=>some uE
 | 7=>some GE
 | 8=>some QF
 | 9=>some iE
 | 10=>some KE
 | _=>none
theorem evoT_ok (f:Nat) (c:RA) (h:QD f=some c):pA Tryz.prog f c:=by
 unfold QD at h;split at h
 ·injection h with h; subst h; exact nM
 ·injection h with h; subst h; exact KK
 ·injection h with h; subst h; exact JK
 ·injection h with h; subst h; exact mM
 ·injection h with h; subst h; exact pI
 ·injection h with h; subst h; exact aI
 ·injection h with h; subst h; exact bM
 ·injection h with h; subst h; exact LK
 ·injection h with h; subst h; exact dN
 ·injection h with h; subst h; exact GK
 ·injection h with h; subst h; exact tJ
 ·injection h with h; subst h; exact GH
 ·injection h with h; subst h; exact sI
 ·injection h with h; subst h; exact qH
 ·injection h with h; subst h; exact gG
 ·injection h with h; subst h; exact MG
 ·injection h with h; subst h; exact HH
 ·injection h with h; subst h; exact jG
 ·injection h with h; subst h; exact wH
 ·cases h
abbrev zU (f:Nat) (args:List AV) (v:AV):Prop:=WF QD MC f args none=some (v,none)
theorem ev_V {f:Nat} {args:List AV} {S:Option AV} {r:RV} (h:WF lA jA f args S=some r) (hT:QD f=none:=by rfl) (hc:XT f=false:=by rfl):WF QD MC f args S=some r:=jL hT (by unfold MC; rw [if_neg (by simp [hc])]; exact h)
theorem FJ {f:Nat} {args:List AV} {v:AV} (h:wB f args v) (hT:QD f=none:=by rfl) (hc:XT f=false:=by rfl):zU f args v:=ev_V (N9 h) hT hc
theorem OF {b:C} {r:RV} (n:Nat) (I:Nat->uA->Prop) (E:Ex->uA->Prop)
  (step:∀ i,i<=n->∀ s k,I i s->(i<n->∀ s',I (i + 1) s'->CF QD MC b s' k=some r)->(∀ e s',E e s'->k e s'=some r)->CF QD MC b s k=some r)
  (s:uA) (k:Ex->uA->Option RV) (h:I 0 s) (hk:∀ e s',E e s'->k e s'=some r):CF QD MC b s k=some r:=by
 have:∀ m i,i + m=n->∀ s,I i s->CF QD MC b s k=some r:=by
  intro m
  induction m with
  | zero=>intro i hi s h; exact step i (by omega) s k h (fun ia=>absurd ia (by omega)) hk
  | succ m ih=>intro i hi s h; exact step i (by omega) s k h (fun _ s' h'=>ih (i + 1) (by omega) s' h') hk
 exact this n 0 (by omega) s h
theorem p9 (nl:Bool) (l:List (List AV)) (he:OA 8 l=true) (hn:nl=true->l=[]) (hf:kL l=true) (hl:l.length * 120<=140737488351232):WF QD MC 62 [.undef,.sl nl l] none=some (.sl nl l,none):=by
 cases l with
 | nil =>
  cases nl with
  | true=>exact jL rfl (by unfold MC; rw [if_neg (by simp [MO])]; exact N9 U5)
  | false=>exact jL rfl (by unfold MC; rw [if_pos (by rfl)])
 | cons x l =>
  cases nl with
  | true=>cases hn rfl
  | false =>
   refine jL rfl ?_;unfold MC;rw [if_neg (by simp [MO])];refine N9 ?_;refine uD JA rfl rfl ?_;have ga:nA 120 (l.length + 1)=true:=by rw [rA]; simp only [yD] at hl; omega
   have hr:=QI he hf;rw [yD] at hr;simp [JA,-J,-y6,-y5,y0,XI,aJ,SX,ZA,aG,ga,he,hr]
theorem clo_ra (nl:Bool) (l:List (List AV)) (he:OA 2 l=true) (hn:nl=true->l=[]) (hf:kL l=true) (hl:l.length * 24<=140737488351232):WF QD MC 63 [.undef,.sl nl l] none=some (.sl nl l,none):=by
 cases l with
 | nil =>
  cases nl with
  | true=>exact jL rfl (by unfold MC; rw [if_neg (by simp [MO])]; exact N9 T5)
  | false=>exact jL rfl (by unfold MC; rw [if_pos (by rfl)])
 | cons x l =>
  cases nl with
  | true=>cases hn rfl
  | false =>
   refine jL rfl ?_;unfold MC;rw [if_neg (by simp [MO])];refine N9 ?_;refine uD MA rfl rfl ?_;have ga:nA 24 (l.length + 1)=true:=by rw [rA]; simp only [yD] at hl; omega
   have hr:=QI he hf;rw [yD] at hr;simp [MA,-J,-y6,-y5,y0,XI,aJ,SX,ZA,aG,ga,he,hr]
end
mutual
/-- a value as it lies in memory: nil slices are empty; no list is longer than a slice may be -/
def Vl.lay:Vl->Prop
 | .mk _ _ _ _ _ kn ks xn xs rn rs=>(kn=true->ks=[])/\(xn=true->xs=[])/\(rn=true->rs=[])/\ks.length * 120<=140737488351232/\xs.length * 120<=140737488351232/\rs.length * 24<=140737488351232/\Vl.lays ks/\Vl.lays xs
def Vl.lays:List Vl->Prop
 | []=>True
 | v :: r=>Vl.lay v/\Vl.lays r
end
theorem Vl.lays_iff:∀ l:List Vl,Vl.lays l ↔ ∀ v∈l,v.lay
 | []=>by simp [Vl.lays]
 | v :: r=>by simp [Vl.lays,Vl.lays_iff r]
theorem Vl.lay_def (v:Vl):v.lay ↔ (v.kn=true->v.keys=[])/\(v.xn=true->v.items=[])/\(v.rn=true->v.rest=[])/\v.keys.length * 120<=140737488351232/\v.items.length * 120<=140737488351232/\v.rest.length * 24<=140737488351232/\(∀ x∈v.keys,x.lay)/\∀ x∈v.items,x.lay:=by
 cases v;rw [Vl.lay,Vl.lays_iff,Vl.lays_iff];rfl
theorem iQ (v:Vl):(eB v).all AV.free0=true:=by rw [dB]; rfl
theorem DN (l:List Vl):kL (l.map eB)=true:=tN _ _ iQ
theorem BW (l:List p8):kL (l.map zG)=true:=tN _ _ fun _=>rfl
theorem FZ {l:List Vl} {i:Nat} {x:Vl} (h:l[i]?=some x):(l.map eB).set i (eB x)=l.map eB:=by
 obtain ⟨hi,rfl⟩:=yq.1 h;refine List.ext_getElem? fun j=>?_
 rw [List.getElem?_set];split
 ·rename_i e;subst e;simp [hi]
 ·rfl
theorem zS {M:Nat->Nat->Option (List wA)} {t n:Nat} {R:List wA} (h:M t n=some R):setM M t n R=M:=by
 funext a b;rw [LN];split
 ·rename_i e; rw [e.1,e.2,h]
 ·rfl
section
variable {r:RV} {v:Vl} {R:List wA} {N:Nat} (s:uA) (e1:(s.env 1).v=.ptr 1 1 0) (e2:(s.env 2).v=.ptr 2 1 0)
include r v R N s e1 e2
theorem T0 (cm:(s.env 19).v=.int .i64 v.keys.length) (zu:(s.env 20).v=.int .i64 0) (cv:s.mem 1 1=some R)
  (jv:v.keys.length≠0->R[5]?=some ⟨.ref 7 N 8 0 v.keys.length v.keys.length,.no⟩/\s.mem 7 N=some (HA (v.keys.map eB))) (hl:v.keys.length * 120<=140737488351232)
  (ih:∀ x∈v.keys,zU 36 [.agg (eB x)] (.agg (eB x))) (k:Ex->uA->Option RV)
  (hk:∀ s',(s'.env 1).v=.ptr 1 1 0->(s'.env 2).v=.ptr 2 1 0->s'.mem=s.mem->k (.exit 0) s'=some r):CF QD MC UE s k=some r:=by
 obtain ⟨M,hM⟩:∃ M,M=s.mem:=⟨_,rfl⟩;rw [<- hM] at cv jv hk;have m:=hM.symm;refine OF v.keys.length (fun i s=>(s.env 1).v=.ptr 1 1 0/\(s.env 2).v=.ptr 2 1 0/\(s.env 19).v=.int .i64 v.keys.length/\(s.env 20).v=.int .i64 i/\s.mem=M)
  (fun e s=>e=.exit 0/\(s.env 1).v=.ptr 1 1 0/\(s.env 2).v=.ptr 2 1 0/\s.mem=M) (fun i hi s k h jh hk=>?_) _ _ ⟨e1,e2,cm,zu,m⟩ (fun e s h=>by obtain ⟨rfl,h1,h2,h3⟩:=h; exact hk _ h1 h2 h3)
 obtain ⟨env,mem,nx,obj,gh⟩:=s;obtain ⟨e1,e2,cm,zu,m⟩:=h;dsimp only at e1 e2 cm zu m;subst m;refine aA ?_;by_cases ia:i<v.keys.length
 ·obtain ⟨hR,iv⟩:=jv (by omega);have da:(i:Int)<v.keys.length:=by omega
  have hw:=mB (i:=i);obtain ⟨x,hx⟩:∃ x,v.keys[i]?=some x:=⟨_,yg ia⟩;have g1:(v.keys.map eB)[i]?=some (eB x):=by rw [yh,hx]; rfl
  have hc:=ih x (List.mem_of_getElem? hx);have eb:=ON v.keys;have bo:=EV eb g1;have bd:=uT eb (k:=i) (by simpa using ia) (JV x) .no;rw [FZ hx] at bd;have rq:=iQ x;have sf:=zS iv;simp only [zU] at hc;generalize oa:HA (v.keys.map eB)=row at *
  simp [UE,-J,-y6,-y5,y0,-EA,-gA,tA,iA,sA,eA,e1,e2,cm,zu,ia,da,hw,cv,hR,iv,tA,bo,rq,hc,bd,sf];exact jh ia _ ⟨by simp [e1],by simp [e2],by simp [cm],by simp,rfl⟩
 ·have da:¬ (i:Int)<v.keys.length:=by omega
  simp [UE,-J,-y6,-y5,y0,cm,zu,da];exact hk _ _ ⟨rfl,by simp [e1],by simp [e2],rfl⟩
theorem DY (au:(s.env 36).v=.int .i64 v.items.length) (gv:(s.env 37).v=.int .i64 0) (cv:s.mem 1 1=some R)
  (jv:v.items.length≠0->R[6]?=some ⟨.ref 10 N 8 0 v.items.length v.items.length,.no⟩/\s.mem 10 N=some (HA (v.items.map eB))) (hl:v.items.length * 120<=140737488351232)
  (ih:∀ x∈v.items,zU 36 [.agg (eB x)] (.agg (eB x))) (k:Ex->uA->Option RV)
  (hk:∀ s',(s'.env 1).v=.ptr 1 1 0->(s'.env 2).v=.ptr 2 1 0->s'.mem=s.mem->k (.exit 2) s'=some r):CF QD MC TE s k=some r:=by
 obtain ⟨M,hM⟩:∃ M,M=s.mem:=⟨_,rfl⟩;rw [<- hM] at cv jv hk;have m:=hM.symm;refine OF v.items.length (fun i s=>(s.env 1).v=.ptr 1 1 0/\(s.env 2).v=.ptr 2 1 0/\(s.env 36).v=.int .i64 v.items.length/\(s.env 37).v=.int .i64 i/\s.mem=M)
  (fun e s=>e=.exit 2/\(s.env 1).v=.ptr 1 1 0/\(s.env 2).v=.ptr 2 1 0/\s.mem=M) (fun i hi s k h jh hk=>?_) _ _ ⟨e1,e2,au,gv,m⟩ (fun e s h=>by obtain ⟨rfl,h1,h2,h3⟩:=h; exact hk _ h1 h2 h3)
 obtain ⟨env,mem,nx,obj,gh⟩:=s;obtain ⟨e1,e2,au,gv,m⟩:=h;dsimp only at e1 e2 au gv m;subst m;refine aA ?_;by_cases ia:i<v.items.length
 ·obtain ⟨hR,iv⟩:=jv (by omega);have da:(i:Int)<v.items.length:=by omega
  have hw:=mB (i:=i);obtain ⟨x,hx⟩:∃ x,v.items[i]?=some x:=⟨_,yg ia⟩;have g1:(v.items.map eB)[i]?=some (eB x):=by rw [yh,hx]; rfl
  have hc:=ih x (List.mem_of_getElem? hx);have eb:=ON v.items;have bo:=EV eb g1;have bd:=uT eb (k:=i) (by simpa using ia) (JV x) .no;rw [FZ hx] at bd;have rq:=iQ x;have sf:=zS iv;simp only [zU] at hc;generalize oa:HA (v.items.map eB)=row at *
  simp [TE,-J,-y6,-y5,y0,-EA,-gA,tA,iA,sA,eA,e1,e2,au,gv,ia,da,hw,cv,hR,iv,tA,bo,rq,hc,bd,sf];exact jh ia _ ⟨by simp [e1],by simp [e2],by simp [au],by simp,rfl⟩
 ·have da:¬ (i:Int)<v.items.length:=by omega
  simp [TE,-J,-y6,-y5,y0,au,gv,da];exact hk _ _ ⟨rfl,by simp [e1],by simp [e2],rfl⟩
end
theorem s9:∀ (n:Nat) (v:Vl),SizeOf.sizeOf v<n->v.lay->zU 36 [.agg (eB v)] (.agg (eB v)):=by
 intro n
 induction n with
 | zero=>intro v h; omega
 | succ n ih =>
  intro v hn hv;rw [Vl.lay_def] at hv;obtain ⟨k1,k2,k3,k4,k5,k6,k7,k8⟩:=hv;have ihk:∀ x∈v.keys,zU 36 [.agg (eB x)] (.agg (eB x)):=fun x hx=>ih x (by have:=Vl.keys_lt v x hx; omega) (k7 x hx)
  have ihi:∀ x∈v.items,zU 36 [.agg (eB x)] (.agg (eB x)):=fun x hx=>ih x (by have:=Vl.items_lt v x hx; omega) (k8 x hx)
  have c1:=p9 v.kn (v.keys.map eB) (ON _) (fun h=>by rw [k1 h]; rfl) (DN _) (by simpa using k4);have c2:=p9 v.xn (v.items.map eB) (ON _) (fun h=>by rw [k2 h]; rfl) (DN _) (by simpa using k5);have c3:=clo_ra v.rn (v.rest.map zG) (P5 _) (fun h=>by rw [k3 h]; rfl) (BW _) (by simpa using k6);have w1:=ON v.keys;have w2:=ON v.items;have w3:=P5 v.rest;have f1:=DN v.keys;have f2:=DN v.items;have f3:=BW v.rest;have r1:=QI w1 f1;have r2:=QI w2 f2;have r3:=QI w3 f3;have t1:(v.keys.map eB).all (fun c=>c.all AV.free0)=true:=f1;have t2:(v.items.map eB).all (fun c=>c.all AV.free0)=true:=f2;have t3:(v.rest.map zG).all (fun c=>c.all AV.free0)=true:=f3;have z1:(v.keys.map eB).length=v.keys.length:=y9 _;have z2:(v.items.map eB).length=v.items.length:=y9 _;have z3:(v.rest.map zG).length=v.rest.length:=y9 _;have y1:(v.keys.map eB=[])=(v.keys.length=0):=by simp
  have y2:(v.items.map eB=[])=(v.items.length=0):=by simp
  have y3:(v.rest.map zG=[])=(v.rest.length=0):=by simp
  have b1:v.keys.length≠0->v.kn=false:=fun h=>by cases hk:v.kn with | false=>rfl | true=>rw [k1 hk] at h; exact absurd rfl h
  have b2:v.items.length≠0->v.xn=false:=fun h=>by cases hk:v.xn with | false=>rfl | true=>rw [k2 hk] at h; exact absurd rfl h
  have b3:v.rest.length≠0->v.rn=false:=fun h=>by cases hk:v.rn with | false=>rfl | true=>rw [k3 hk] at h; exact absurd rfl h
  refine TK FE rfl rfl ?_;rw [dB];have q1:=fun (r:RV) (R:List wA) (N:Nat)=>@T0 r v R N
  have q2:=fun (r:RV) (R:List wA) (N:Nat)=>@DY r v R N
  generalize v.keys.map eB=ks at *
  generalize v.items.map eB=xs at *
  generalize v.rest.map zG=rs at *
  by_cases h1:v.keys.length=0 <;> by_cases h2:v.items.length=0 <;> by_cases h3:v.rest.length=0
  all_goals
   try rw [b1 h1] at c1 ⊢
   try rw [b2 h2] at c2 ⊢
   try rw [b3 h3] at c3 ⊢
   simp [FE,-J,-y6,-y5,y0,-EA,-gA,tA,iA,sA,eA,c1,c2,c3,w1,w2,w3,y1,y2,y3,z1,z2,z3,h1,h2,h3,tA,t1,t2,t3,-y8];refine q1 _ _ 2 _ (by simp) (by simp) (by simp [h1]) (by simp) (by rfl) (fun h=>?_) k4 ihk _ (fun s' a1 a2 a3=>?_)
   ·first | exact absurd h1 h | (refine ⟨rfl,?_⟩; simp [LN])
   obtain ⟨env,mem,nx,obj,gh⟩:=s';dsimp only at a1 a2 a3;subst a3;simp [-J,-y6,-y5,y0,-EA,-gA,tA,iA,sA,eA,a1,a2,LN,z1,z2,z3,h1,h2,h3,tA];refine q2 _ _ 2 _ (by simp [a1]) (by simp [a2]) (by simp [h2]) (by simp) (by rfl) (fun h=>?_) k5 ihi _ (fun s' a1 a2 a3=>?_)
   ·first | exact absurd h2 h | (refine ⟨rfl,?_⟩; simp [LN])
   obtain ⟨env,mem,nx,obj,gh⟩:=s';dsimp only at a1 a2 a3;subst a3;rw [z1] at r1;rw [z2] at r2;rw [z3] at r3
   try have d1:=y1.mpr h1
   try have d2:=y2.mpr h2
   try have d3:=y3.mpr h3
   try subst d1
   try subst d2
   try subst d3
   simp [-J,-y6,-y5,y0,-EA,-gA,tA,iA,sA,eA,a1,a2,LN,z1,z2,z3,h1,h2,h3,iA,eA,tA,r1,r2,r3]
def RL:Int->List p8->Int
 | n,[]=>n
 | n,x :: r=>RL (IntKind.i64.wrap (IntKind.i64.wrap (n + 1) + x.data.size)) r
mutual
def SV:Vl->Int
 | .mk _ _ _ s _ _ ks _ xs _ rs=>RL (BD (BD (IntKind.i64.wrap (1 + s.size)) ks) xs) rs
def BD:Int->List Vl->Int
 | n,[]=>n
 | n,v :: r=>BD (IntKind.i64.wrap (n + SV v)) r
end
theorem X7 (v:Vl):SV v=RL (BD (BD (IntKind.i64.wrap (1 + v.s.size)) v.keys) v.items) v.rest:=by
 cases v;rw [SV];rfl
section
variable (n:Nat) (ih0:∀ v:Vl,SizeOf.sizeOf v<n->v.ok->wB 33 [.agg (eB v)] (.int .i64 (SV v))) {rv:RV} (v:Vl)
include n ih0 rv v
theorem size_lp3 (hl:v.keys.length<=9223372036854775807) (hv:∀ x∈v.keys,SizeOf.sizeOf x<n/\x.ok) (a0:Int) (s:uA) (e1:(s.env 1).v=.ptr 1 1 0) (m1:s.mem 1 1=some (WD v)) (e3:(s.env 3).v=.int .i64 a0) (e4:(s.env 4).v=.int .i64 0) (k:Ex->uA->Option RV)
  (hk:∀ s',(s'.env 1).v=.ptr 1 1 0->s'.mem 1 1=some (WD v)->(s'.env 3).v=.int .i64 (BD a0 v.keys)->k (.exit 0) s'=some rv):CF lA zA LF s k=some rv:=by
 refine cB v.keys.length (fun i s=>(s.env 1).v=.ptr 1 1 0/\s.mem 1 1=some (WD v)/\(∃ a,(s.env 3).v=.int .i64 a/\BD a (v.keys.drop i)=BD a0 v.keys)/\(s.env 4).v=.int .i64 i)
  (fun e s=>e=.exit 0/\(s.env 1).v=.ptr 1 1 0/\s.mem 1 1=some (WD v)/\(s.env 3).v=.int .i64 (BD a0 v.keys)) (fun i hi s k h ih hk=>?_) _ _ ⟨e1,m1,⟨a0,e3,rfl⟩,e4⟩ (fun e s h=>by obtain ⟨rfl,h1,h2,h3⟩:=h; exact hk _ h1 h2 h3)
 obtain ⟨e1,m1,⟨a,e3,hs⟩,ei⟩:=h;refine aA ?_;have m1':=m1;simp only [WD] at m1;by_cases ia:i<v.keys.length
 ·have da:(i:Int)<v.keys.length:=by omega
  have g1:(v.keys.map eB)[i]?=some (eB v.keys[i]):=by simp [ia]
  have hw:=mB (i:=i);obtain ⟨hx1,hx2⟩:=hv _ (yx ia);have hx:=ih0 _ hx1 hx2;rw [yk ia,BD] at hs;generalize v.keys[i]=x at *
  simp only [wB,dB] at hx;rw [dB x] at g1;simp [LF,-J,-y6,-y5,y0,e1,m1,e3,ei,da,g1,hx,hw];refine ih ia _ ⟨?_,?_,⟨_,?_,hs⟩,?_⟩
  ·simp [e1]
  ·simp [m1,WD]
  ·simp
  ·simp
 ·have da:¬ (i:Int)<v.keys.length:=by omega
  rw [yj (by omega),BD] at hs;simp [LF,-J,-y6,-y5,y0,e1,m1,ei,da];refine hk _ _ ⟨rfl,?_,?_,?_⟩
  ·simp [e1]
  ·simp [m1,WD]
  ·simp [e3,hs]
theorem size_lp2 (hl:v.items.length<=9223372036854775807) (hv:∀ x∈v.items,SizeOf.sizeOf x<n/\x.ok) (a0:Int) (s:uA) (e1:(s.env 1).v=.ptr 1 1 0) (m1:s.mem 1 1=some (WD v)) (e3:(s.env 3).v=.int .i64 a0) (e5:(s.env 5).v=.int .i64 0) (k:Ex->uA->Option RV)
  (hk:∀ s',(s'.env 1).v=.ptr 1 1 0->s'.mem 1 1=some (WD v)->(s'.env 3).v=.int .i64 (BD a0 v.items)->k (.exit 2) s'=some rv):CF lA zA KF s k=some rv:=by
 refine cB v.items.length (fun i s=>(s.env 1).v=.ptr 1 1 0/\s.mem 1 1=some (WD v)/\(∃ a,(s.env 3).v=.int .i64 a/\BD a (v.items.drop i)=BD a0 v.items)/\(s.env 5).v=.int .i64 i)
  (fun e s=>e=.exit 2/\(s.env 1).v=.ptr 1 1 0/\s.mem 1 1=some (WD v)/\(s.env 3).v=.int .i64 (BD a0 v.items)) (fun i hi s k h ih hk=>?_) _ _ ⟨e1,m1,⟨a0,e3,rfl⟩,e5⟩ (fun e s h=>by obtain ⟨rfl,h1,h2,h3⟩:=h; exact hk _ h1 h2 h3)
 obtain ⟨e1,m1,⟨a,e3,hs⟩,ei⟩:=h;refine aA ?_;have m1':=m1;simp only [WD] at m1;by_cases ia:i<v.items.length
 ·have da:(i:Int)<v.items.length:=by omega
  have g1:(v.items.map eB)[i]?=some (eB v.items[i]):=by simp [ia]
  have hw:=mB (i:=i);obtain ⟨hx1,hx2⟩:=hv _ (yx ia);have hx:=ih0 _ hx1 hx2;rw [yk ia,BD] at hs;generalize v.items[i]=x at *
  simp only [wB,dB] at hx;rw [dB x] at g1;simp [KF,-J,-y6,-y5,y0,e1,m1,e3,ei,da,g1,hx,hw];refine ih ia _ ⟨?_,?_,⟨_,?_,hs⟩,?_⟩
  ·simp [e1]
  ·simp [m1,WD]
  ·simp
  ·simp
 ·have da:¬ (i:Int)<v.items.length:=by omega
  rw [yj (by omega),BD] at hs;simp [KF,-J,-y6,-y5,y0,e1,m1,ei,da];refine hk _ _ ⟨rfl,?_,?_,?_⟩
  ·simp [e1]
  ·simp [m1,WD]
  ·simp [e3,hs]
end
theorem size_lp1 {rv:RV} (v:Vl) (hl:v.rest.length<=9223372036854775807) (a0:Int) (s:uA) (e1:(s.env 1).v=.ptr 1 1 0) (m1:s.mem 1 1=some (WD v)) (e3:(s.env 3).v=.int .i64 a0) (e6:(s.env 6).v=.int .i64 0) (k:Ex->uA->Option RV)
  (hk:∀ s',(s'.env 3).v=.int .i64 (RL a0 v.rest)->k (.exit 4) s'=some rv):CF lA zA JF s k=some rv:=by
 refine cB v.rest.length (fun i s=>(s.env 1).v=.ptr 1 1 0/\s.mem 1 1=some (WD v)/\(∃ a,(s.env 3).v=.int .i64 a/\RL a (v.rest.drop i)=RL a0 v.rest)/\(s.env 6).v=.int .i64 i)
  (fun e s=>e=.exit 4/\(s.env 3).v=.int .i64 (RL a0 v.rest)) (fun i hi s k h ih hk=>?_) _ _ ⟨e1,m1,⟨a0,e3,rfl⟩,e6⟩ (fun e s h=>by obtain ⟨rfl,h1⟩:=h; exact hk _ h1)
 obtain ⟨e1,m1,⟨a,e3,hs⟩,ei⟩:=h;refine aA ?_;simp only [WD] at m1;by_cases ia:i<v.rest.length
 ·have da:(i:Int)<v.rest.length:=by omega
  have g1:(v.rest.map zG)[i]?=some (zG v.rest[i]):=by simp [ia]
  have hw:=mB (i:=i);rw [yk ia,RL] at hs;generalize v.rest[i]=x at *
  simp only [zG] at g1;simp [JF,-J,-y6,-y5,y0,e1,m1,e3,ei,da,g1,hw];refine ih ia _ ⟨?_,?_,⟨_,?_,hs⟩,?_⟩
  ·simp [e1]
  ·simp [m1,WD]
  ·simp
  ·simp
 ·have da:¬ (i:Int)<v.rest.length:=by omega
  rw [yj (by omega),RL] at hs;simp [JF,-J,-y6,-y5,y0,e1,m1,ei,da];exact hk _ _ ⟨rfl,by simp [e3,hs]⟩
theorem size_ev:∀ (n:Nat) (v:Vl),SizeOf.sizeOf v<n->v.ok->wB 33 [.agg (eB v)] (.int .i64 (SV v)):=by
 intro n
 induction n with
 | zero=>intro v h; omega
 | succ n ih =>
  intro v hn hv;rw [Vl.ok_def] at hv;obtain ⟨k1,k2,k3,k4,k5,k6⟩:=hv;refine cA (c:=fI) rfl rfl ?_;rw [dB];simp [fI,-J,-y6,-y5,y0];refine size_lp3 n ih v k1 (fun x hx=>⟨by have:=Vl.keys_lt v x hx; omega,k5 x hx⟩) (IntKind.i64.wrap (1 + v.s.size)) _ ?_ ?_ ?_ ?_ _ (fun s' e1 m1 e3=>?_)
  ·simp
  ·simp [WD]
  ·simp
  ·simp
  simp [-J,-y6,-y5,y0];refine size_lp2 n ih v k2 (fun x hx=>⟨by have:=Vl.items_lt v x hx; omega,k6 x hx⟩) (BD (IntKind.i64.wrap (1 + v.s.size)) v.keys) _ ?_ ?_ ?_ ?_ _ (fun s2 f1 n1 f3=>?_)
  ·simp [e1]
  ·simpa using m1
  ·simp [e3]
  ·simp
  simp [-J,-y6,-y5,y0];refine size_lp1 v k3 (BD (BD (IntKind.i64.wrap (1 + v.s.size)) v.keys) v.items) _ ?_ ?_ ?_ ?_ _ (fun s3 g3=>?_)
  ·simp [f1]
  ·simpa using n1
  ·simp [f3]
  ·simp
  simp [-J,-y6,-y5,y0,g3,X7]
def rT:Int->List EE->Int
 | n,[]=>n
 | n,m :: r=>rT (IntKind.i64.wrap (IntKind.i64.wrap (n + SV m.dflt) + m.name.size)) r
def typF (n:Int) (t:XA):Int:=rT (IntKind.i64.wrap (IntKind.i64.wrap (IntKind.i64.wrap (n + t.mems.length) + t.syms.length) + t.name.size)) (t.mems.take 100)
def xP:Int->List XA->Int
 | n,[]=>n
 | n,t :: r=>xP (typF n t) r
def q7 (s:ZV):Bool:=!decide (40<s.types.length)&&decide (xP 0 s.types<=400)
def KZ (t:XA):List wA:=(qA t).map (⟨·,.no⟩)
theorem few_lp1 {rv:RV} (t:XA) (ht:∀ m∈t.mems,m.ok) (hl:t.mems.length<=9223372036854775807) {nl:Bool} {S:List XA} {j:Nat} {n5:Nat} (a0:Int) (s:uA) (e1:(s.env 1).v=.ptr 1 1 0) (m1:s.mem 1 1=some [⟨.sl nl (S.map qA),.no⟩]) (e3:(s.env 3).v=.int .i64 a0) (e4:(s.env 4).v=.int .i64 j) (e5:(s.env 5).v=.ptr 5 n5 0) (m5:s.mem 5 n5=some (KZ t)) (e6:(s.env 6).v=.int .i64 0) (k:Ex->uA->Option RV)
  (hk:∀ s',(s'.env 1).v=.ptr 1 1 0->s'.mem 1 1=some [⟨.sl nl (S.map qA),.no⟩]->(s'.env 3).v=.int .i64 (rT a0 (t.mems.take 100))->(s'.env 4).v=.int .i64 j->k (.exit 2) s'=some rv):CF lA zA LE s k=some rv:=by
 have hN:(t.mems.take 100).length<=t.mems.length/\(t.mems.take 100).length<=100/\((t.mems.take 100).length=t.mems.length\/(t.mems.take 100).length=100):=by
  rw [ym];omega
 obtain ⟨N,hNe⟩:∃ N,(t.mems.take 100).length=N:=⟨_,rfl⟩;rw [hNe] at hN;obtain ⟨hN1,hN2,hN3⟩:=hN;refine cB N (fun i s=>(s.env 1).v=.ptr 1 1 0/\s.mem 1 1=some [⟨.sl nl (S.map qA),.no⟩]/\(∃ a,(s.env 3).v=.int .i64 a/\rT a ((t.mems.take 100).drop i)=rT a0 (t.mems.take 100))/\(s.env 4).v=.int .i64 j/\(s.env 5).v=.ptr 5 n5 0/\s.mem 5 n5=some (KZ t)/\(s.env 6).v=.int .i64 i)
  (fun e s=>e=.exit 2/\(s.env 1).v=.ptr 1 1 0/\s.mem 1 1=some [⟨.sl nl (S.map qA),.no⟩]/\(s.env 3).v=.int .i64 (rT a0 (t.mems.take 100))/\(s.env 4).v=.int .i64 j) (fun i hi s k h ih hk=>?_) _ _ ⟨e1,m1,⟨a0,e3,rfl⟩,e4,e5,m5,e6⟩ (fun e s h=>by obtain ⟨rfl,h1,h2,h3,h4⟩:=h; exact hk _ h1 h2 h3 h4)
 obtain ⟨e1,m1,⟨a,e3,hs⟩,e4,e5,m5,e6⟩:=h;refine aA ?_;simp only [KZ,qA,yu,List.map_nil] at m5;by_cases ia:i<N
 ·have da:(i:Int)<t.mems.length:=by omega
  have tk:(i:Int)<100:=by omega
  have ud:i<t.mems.length:=by omega
  have hi3:i<(t.mems.take 100).length:=by omega
  have g1:(t.mems.map WA)[i]?=some (WA t.mems[i]):=by simp [ud]
  have hw:=mB (i:=i);have hx:=size_ev _ _ (Nat.lt_succ_self _) (ht _ (yx ud)).1;rw [yk hi3,rT,List.getElem_take] at hs;generalize t.mems[i]=x at *
  simp only [WA] at g1;simp only [wB,dB] at hx;simp [LE,-J,-y6,-y5,y0,e3,e5,m5,e6,da,tk,g1,hx,hw];refine ih ia _ ⟨?_,?_,⟨_,?_,hs⟩,?_,?_,?_,?_⟩
  ·simp [e1]
  ·simp [m1]
  ·simp
  ·simp [e4]
  ·simp [e5]
  ·simp [m5,KZ,qA]
  ·simp
 ·have uq:i=N:=by omega
  rw [yj (by omega),rT] at hs;by_cases c:(i:Int)<t.mems.length
  ·have c2:¬ (i:Int)<100:=by omega
   simp [LE,-J,-y6,-y5,y0,e5,m5,e6,c,c2];exact hk _ _ ⟨rfl,by simp [e1],by simp [m1],by simp [e3,hs],by simp [e4]⟩
  ·simp [LE,-J,-y6,-y5,y0,e5,m5,e6,c];exact hk _ _ ⟨rfl,by simp [e1],by simp [m1],by simp [e3,hs],by simp [e4]⟩
theorem few_ev (s:ZV) (hs:s.ok):wB 12 [.agg (tG s)] (.bool (q7 s)):=by
 obtain ⟨hl,ht⟩:=hs;refine cA (c:=SH) rfl rfl ?_;unfold q7;by_cases c:40<s.types.length
 ·have c':(40:Int)<s.types.length:=by omega
  simp [SH,-J,-y6,-y5,y0,tG,c,c']
 have c':¬ (40:Int)<s.types.length:=by omega
 simp [SH,-J,-y6,-y5,y0,tG,c,c'];refine cB s.types.length (fun i st=>(st.env 1).v=.ptr 1 1 0/\st.mem 1 1=some [⟨.sl s.nl (s.types.map qA),.no⟩]/\(∃ a,(st.env 3).v=.int .i64 a/\xP a (s.types.drop i)=xP 0 s.types)/\(st.env 4).v=.int .i64 i)
  (fun e st=>e=.exit 0/\(st.env 3).v=.int .i64 (xP 0 s.types)) (fun i hi st k h ih hk=>?_) _ _ ?_ (fun e st h=>?_)
 ·obtain ⟨e1,m1,⟨a,e3,nz⟩,e4⟩:=h;refine aA ?_;by_cases ia:i<s.types.length
  ·have da:(i:Int)<s.types.length:=by omega
   have g1:(s.types.map qA)[i]?=some (qA s.types[i]):=by simp [ia]
   have hw:=mB (i:=i);have gq:=ht _ (yx ia);rw [yk ia,xP] at nz;generalize s.types[i]=x at *
   simp only [qA] at g1;simp [AI,-J,-y6,-y5,y0,e1,m1,e3,e4,da,g1];refine few_lp1 (nl:=s.nl) (S:=s.types) x gq.2.2 gq.2.1 (j:=i) (n5:=st.next + 1) (IntKind.i64.wrap (IntKind.i64.wrap (IntKind.i64.wrap (a + x.mems.length) + x.syms.length) + x.name.size)) _ ?_ ?_ ?_ ?_ ?_ ?_ ?_ _ (fun s' f1 n1 f3 f4=>?_)
   ·simp [e1]
   ·simp [m1]
   ·simp
   ·simp [e4]
   ·simp
   ·simp [KZ,qA]
   ·simp
   ·simp [-J,-y6,-y5,y0,f4,hw];refine ih ia _ ⟨?_,?_,⟨_,?_,nz⟩,?_⟩
    ·simp [f1]
    ·simp [n1]
    ·simp [f3,typF]
    ·simp
  ·have da:¬ (i:Int)<s.types.length:=by omega
   rw [yj (by omega),xP] at nz;simp [AI,-J,-y6,-y5,y0,e1,m1,e4,da];exact hk _ _ ⟨rfl,by simp [e3,nz]⟩
 ·refine ⟨?_,?_,⟨0,?_,rfl⟩,?_⟩ <;> simp
 ·obtain ⟨rfl,e3⟩:=h;simp [-J,-y6,-y5,y0,e3]
end Go.Proofs.YtbhbeakhognieaaGreatDoor
