/- A part of the proof. -/
import Derived.Test.YtbhbeakhognieaaGreatDoorWc
import Derived.Laws.CopyRow
import Derived.Lib.AppendZerosOnto
import Derived.Deep.RegionWith
import Derived.Deep.RegionHeld3
import Derived.BigQuiet
import Derived.Lib.Overlaps
import Derived.Laws.Externs
import Derived.Shelf.Strconv.Itoa3
import Derived.Shelf.Strings.OnBuilder
import Derived.Test.YtbhbeakhognieaaGreatDoorProg
set_option linter.all false
set_option maxRecDepth 100000
set_option maxHeartbeats 8000000
open Option renaming bind_some → J, bind_eq_some_iff → y9, map_eq_some_iff → yl, map_some → yt
open List renaming range_succ → y0, map_map → y5, length_map → y7, all_eq_true → y8, length_append → yb, getElem?_map → yc, getElem?_eq_getElem → yg, getElem?_eq_some_iff → yh, drop_eq_getElem_cons → yj, map_cons → yk, length_take → ym, drop_eq_nil_of_le → yn, append_assoc → yo, mem_append → yq, getElem?_drop → yu, flatten_cons → yv, getElem?_take → yy, append_nil → yz, length_cons → yA, length_drop → yC, mem_of_getElem? → yD, getElem?_append_right → yE, getElem_mem → yF, getElem?_append_left → yL, size_toArray → yO, mem_map → yQ, map_nil → yR, take_of_length_le → yS, mem_flatMap → yV, nil_append → yW, drop_zero → yY, eq_nil_of_length_eq_zero → Y00, take_append_drop → Y05, getElem?_eq_none → Y07, take_append_getElem → Y08
open Int renaming toNat_lt → y6
open Bool renaming and_eq_true → ye
open Nat renaming le_refl → yf, zero_add → yr, add_zero → yJ, add_mul → yK, eq_zero_or_pos → yT, min_eq_left → yU, mul_le_mul_right → Y02
open Array renaming length_toList → yP
namespace Go.Proofs.YtbhbeakhognieaaGreatDoor
open Go
structure Raw where
 id:Int
 data:ByteArray
 deriving DecidableEq
inductive Vl where
 | mk (kind:Int) (b:Bool) (i:Int) (s:ByteArray) (id:Int) (kn:Bool) (keys:List Vl) (xn:Bool) (items:List Vl) (rn:Bool) (rest:List Raw)
namespace Vl
def kind:Vl->Int | .mk k _ _ _ _ _ _ _ _ _ _=>k
def b:Vl->Bool | .mk _ b _ _ _ _ _ _ _ _ _=>b
def i:Vl->Int | .mk _ _ i _ _ _ _ _ _ _ _=>i
def s:Vl->ByteArray | .mk _ _ _ s _ _ _ _ _ _ _=>s
def id:Vl->Int | .mk _ _ _ _ d _ _ _ _ _ _=>d
def kn:Vl->Bool | .mk _ _ _ _ _ k _ _ _ _ _=>k
def keys:Vl->List Vl | .mk _ _ _ _ _ _ l _ _ _ _=>l
def xn:Vl->Bool | .mk _ _ _ _ _ _ _ x _ _ _=>x
def items:Vl->List Vl | .mk _ _ _ _ _ _ _ _ l _ _=>l
def rn:Vl->Bool | .mk _ _ _ _ _ _ _ _ _ r _=>r
def rest:Vl->List Raw | .mk _ _ _ _ _ _ _ _ _ _ l=>l
theorem keys_lt (v x:Vl) (h:x∈v.keys):SizeOf.sizeOf x<SizeOf.sizeOf v:=by
 cases v;have:=List.sizeOf_lt_of_mem h;simp only [keys] at this;simp only [mk.sizeOf_spec];omega
theorem items_lt (v x:Vl) (h:x∈v.items):SizeOf.sizeOf x<SizeOf.sizeOf v:=by
 cases v;have:=List.sizeOf_lt_of_mem h;simp only [items] at this;simp only [mk.sizeOf_spec];omega
end Vl
def BH (r:Raw):List AV:=[.int .i64 r.id,.str r.data]
mutual
def dB:Vl->List AV
 | .mk k b i s d kn ks xn xs rn rs=>[.int .i64 k,.bool b,.int .i64 i,.str s,.int .i64 d,.sl kn (P3 ks),.sl xn (P3 xs),.sl rn (rs.map BH)]
def P3:List Vl->List (List AV)
 | []=>[]
 | v :: r=>dB v :: P3 r
end
theorem nV:∀ l:List Vl,P3 l=l.map dB
 | []=>by rw [P3]; rfl
 | v :: r=>by rw [P3,nV r]; rfl
theorem WB (v:Vl):dB v=[.int .i64 v.kind,.bool v.b,.int .i64 v.i,.str v.s,.int .i64 v.id,.sl v.kn (v.keys.map dB),.sl v.xn (v.items.map dB),.sl v.rn (v.rest.map BH)]:=by
 cases v;rw [dB,nV,nV];rfl
mutual
/-- lengths that occur -/
def Vl.ok:Vl->Prop
 | .mk _ _ _ s _ _ ks _ xs _ rs=>ks.length<=9223372036854775807/\xs.length<=9223372036854775807/\rs.length<=9223372036854775807/\s.size<=9223372036854775807/\Vl.oks ks/\Vl.oks xs
def Vl.oks:List Vl->Prop
 | []=>True
 | v :: r=>Vl.ok v/\Vl.oks r
end
theorem Vl.oks_iff:∀ l:List Vl,Vl.oks l ↔ ∀ v∈l,v.ok
 | []=>by simp [Vl.oks]
 | v :: r=>by simp [Vl.oks,Vl.oks_iff r]
theorem Vl.ok_def (v:Vl):v.ok ↔ v.keys.length<=9223372036854775807/\v.items.length<=9223372036854775807/\v.rest.length<=9223372036854775807/\v.s.size<=9223372036854775807/\(∀ x∈v.keys,x.ok)/\∀ x∈v.items,x.ok:=by
 cases v;rw [Vl.ok,Vl.oks_iff,Vl.oks_iff];rfl
def Vl.zero:Vl:=.mk 0 false 0 ⟨#[]⟩ 0 true [] true [] true []
structure LC where
 id:Int
 name:ByteArray
 deriving DecidableEq
def jA (x:LC):List AV:=[.int .i64 x.id,.str x.name]
structure fB where
 id:Int
 name:ByteArray
 ty:Int
 crit:Bool
 has:Bool
 dflt:Vl
def fA (m:fB):List AV:=[.int .i64 m.id,.str m.name,.int .i64 m.ty,.bool m.crit,.bool m.has,.int .i64 m.dflt.kind,.bool m.dflt.b,.int .i64 m.dflt.i,.str m.dflt.s,.int .i64 m.dflt.id,.sl m.dflt.kn (m.dflt.keys.map dB),.sl m.dflt.xn (m.dflt.items.map dB),.sl m.dflt.rn (m.dflt.rest.map BH)]
structure QA where
 kind:Int
 name:ByteArray
 low:Int
 high:Int
 max:Int
 sn:Bool
 syms:List LC
 mn:Bool
 mems:List fB
 key:Int
 elem:Int
 opn:Bool
def iA (t:QA):List AV:=[.int .i64 t.kind,.str t.name,.int .i64 t.low,.int .i64 t.high,.int .i64 t.max,.sl t.sn (t.syms.map jA),.sl t.mn (t.mems.map fA),.int .i64 t.key,.int .i64 t.elem,.bool t.opn]
structure wP where
 nl:Bool
 types:List QA
def lD (s:wP):List AV:=[.sl s.nl (s.types.map iA)]
def fB.ok (m:fB):Prop:=m.dflt.ok/\m.name.size<=9223372036854775807
def QA.ok (t:QA):Prop:=t.syms.length<=9223372036854775807/\t.mems.length<=9223372036854775807/\∀ m∈t.mems,m.ok
def wP.ok (s:wP):Prop:=s.types.length<=9223372036854775807/\∀ t∈s.types,t.ok
theorem eB {i:Nat} (h:i<9223372036854775807:=by omega):IntKind.i64.wrap ((i:Int) + 1)=((i + 1:Nat):Int):=by
 rw [IntWalk.i64_in _ (by omega)]; rfl
theorem GZ (v:Vl):(dB v).length=8:=by rw [WB]; rfl
theorem tQ (l:List Vl):AA 8 (l.map dB)=true:=SD _ _ _ GZ
theorem els_raw (l:List Raw):AA 2 (l.map BH)=true:=SD _ _ _ fun _=>rfl
theorem pD (l:List LC):AA 2 (l.map jA)=true:=SD _ _ _ fun _=>rfl
theorem AC (l:List fB):AA 13 (l.map fA)=true:=SD _ _ _ fun _=>rfl
theorem tX (l:List QA):AA 10 (l.map iA)=true:=SD _ _ _ fun _=>rfl
theorem EA {f:Nat} {c:DA} {args:List AV} {r:RV} (hT:lA f=some c) (hl:args.length=c.np) (h:c.code.run (rD lA dA) (IF lA dA) (pA.init args none) (mI c none)=some r) (hm:OF args=false:=by rfl):rD lA dA f args none=some r:=wC c hT hl h hm
abbrev wB (f:Nat) (args:List AV) (v:AV):Prop:=rD lA dA f args none=some (v,none)
def kR (x:Int):Bool:=decide (x=95)||(decide (97<=x)&&decide (x<=122))||(decide (65<=x)&&decide (x<=90))
def xY (x:Int):Bool:=decide (48<=x)&&decide (x<=57)
def JF (s:ByteArray):Nat->Nat->Bool
 | 0,_=>true
 | n + 1,i=>(match s[i]? with | some u=>kR u.toNat||xY u.toNat | none=>false)&&JF s n (i + 1)
def cG (s:ByteArray):Bool:=decide (s.size≠0)&&decide (s.size<=24)&&(match s[0]? with | some u=>kR u.toNat | none=>false)&&JF s s.size 0
theorem G2 (x:Int):wB 140 [.int .u8 x] (.bool (kR x)):=by
 refine EA (c:=HG) rfl rfl ?_;unfold kR;by_cases h1:x=95 <;> by_cases h2:97<=x <;> by_cases h3:65<=x <;> by_cases h4:x<=122 <;> by_cases h5:x<=90 <;> simp [HG,-J,iB,y0,h1,h2,h3,h4,h5]
theorem digit_ev (x:Int):wB 141 [.int .u8 x] (.bool (xY x)):=by
 refine EA (c:=jH) rfl rfl ?_;unfold xY;by_cases h1:48<=x <;> simp [jH,-J,iB,y0,h1]
theorem bZ (x:Int):wB 150 [.int .u8 x] (.bool (kR x)):=by
 refine EA (c:=wI) rfl rfl ?_;unfold kR;by_cases h1:x=95 <;> by_cases h2:97<=x <;> by_cases h3:65<=x <;> by_cases h4:x<=122 <;> by_cases h5:x<=90 <;> simp [wI,-J,iB,y0,h1,h2,h3,h4,h5]
theorem rdigit_ev (x:Int):wB 151 [.int .u8 x] (.bool (xY x)):=by
 refine EA (c:=sJ) rfl rfl ?_;unfold xY;by_cases h1:48<=x <;> simp [sJ,-J,iB,y0,h1]
theorem rQ {s:ByteArray} {i:Nat} (h:i<s.size):∃ u,s[i]?=some u:=⟨s[i],getElem?_pos s i h⟩
theorem name_lp (s:ByteArray) (hs:s.size<=24) (r:RV) (k:Ex->pA->Option RV) (hk:∀ s',JF s s.size 0=true->k (.exit 0) s'=some r) (hr:∀ s':pA,JF s s.size 0=false->(s'.env 2).v=.bool false->k .ret s'=some r) :
  ∀ (n i:Nat),i + n=s.size->JF s n i=JF s s.size 0->∀ s':pA,(s'.env 0).v=.str s->(s'.env 18).v=.int .i64 s.size->(s'.env 19).v=.int .i64 i->zF lA dA CD s' k=some r:=by
 intro n
 induction n with
 | zero =>
  intro i hi hf s' e0 e18 zr;have ba:¬ ((i:Int)<s.size):=by omega
  refine gA ?_;simp [CD,-J,iB,y0,e0,e18,zr,ba];exact hk _ (by rw [<- hf]; rfl)
 | succ n ih =>
  intro i hi hf s' e0 e18 zr;have ba:(i:Int)<s.size:=by omega
  obtain ⟨u,hu⟩:=rQ (s:=s) (i:=i) (by omega);have hw:=eB (i:=i);have h1:=G2 u.toNat;have h2:=digit_ev u.toNat;simp only [JF,hu] at hf;refine gA ?_;cases b1:kR u.toNat with
  | true =>
   simp only [b1] at h1 hf;simp [CD,-J,iB,y0,e0,e18,zr,ba,hu,h1,hw];refine ih (i + 1) (by omega) (by simpa using hf) _ ?_ ?_ ?_ <;> simp [*]
  | false =>
   cases b2:xY u.toNat with
   | true =>
    simp only [b1,b2] at h1 h2 hf;simp [CD,-J,iB,y0,e0,e18,zr,ba,hu,h1,h2,hw];refine ih (i + 1) (by omega) (by simpa using hf) _ ?_ ?_ ?_ <;> simp [*]
   | false =>
    simp only [b1,b2] at h1 h2 hf;simp [CD,-J,iB,y0,e0,e18,zr,ba,hu,h1,h2,hw];refine hr _ (by simpa using hf.symm) ?_;simp
theorem name_ev (s:ByteArray):wB 101 [.str s] (.bool (cG s)):=by
 refine EA (c:=zE) rfl rfl ?_;unfold cG;by_cases h0:s=⟨#[]⟩
 ·subst h0;simp [zE,-J,iB,y0];exact fun h=>absurd rfl h
 ·have hz:s.size≠0:=fun h=>h0 (by
   obtain ⟨d⟩:=s;have h:d.size=0:=h;rw [Array.eq_empty_of_size_eq_zero h])
  by_cases h1:s.size<=24
  ·have zo:¬ ((24:Int)<s.size):=by omega
   obtain ⟨u,hu⟩:=rQ (s:=s) (i:=0) (by omega);have h2:=G2 u.toNat;cases b1:kR u.toNat with
   | false =>
    simp only [b1] at h2;simp [zE,-J,iB,y0,h0,zo,hu,h2,b1]
   | true =>
    simp only [b1] at h2;simp [zE,-J,iB,y0,h0,zo,hu,h2,b1,hz,h1];refine name_lp s h1 _ _ (fun s' hf=>?main) (fun s' hf h2=>?main2) s.size 0 (by simp) rfl _ ?_ ?_ ?_
    case main=>simp [-J,iB,y0,hf]
    case main2=>simp [-J,iB,y0,hf,h2]
    all_goals simp
  ·have zo:(24:Int)<s.size:=by omega
   simp [zE,-J,iB,y0,h0,zo,h1]
theorem rname_lp (s:ByteArray) (hs:s.size<=24) (r:RV) (k:Ex->pA->Option RV) (hk:∀ s',JF s s.size 0=true->k (.exit 0) s'=some r) (hr:∀ s':pA,JF s s.size 0=false->(s'.env 2).v=.bool false->k .ret s'=some r) :
  ∀ (n i:Nat),i + n=s.size->JF s n i=JF s s.size 0->∀ s':pA,(s'.env 0).v=.str s->(s'.env 3).v=.int .i64 i->zF lA dA BD s' k=some r:=by
 intro n
 induction n with
 | zero =>
  intro i hi hf s' e0 e3;have ba:¬ ((i:Int)<s.size):=by omega
  refine gA ?_;simp [BD,-J,iB,y0,e0,e3,ba];exact hk _ (by rw [<- hf]; rfl)
 | succ n ih =>
  intro i hi hf s' e0 e3;have ba:(i:Int)<s.size:=by omega
  obtain ⟨u,hu⟩:=rQ (s:=s) (i:=i) (by omega);have hw:=eB (i:=i);have h1:=bZ u.toNat;have h2:=rdigit_ev u.toNat;simp only [JF,hu] at hf;refine gA ?_;cases b1:kR u.toNat with
  | true =>
   simp only [b1] at h1 hf;simp [BD,-J,iB,y0,e0,e3,ba,hu,h1,hw];refine ih (i + 1) (by omega) (by simpa using hf) _ ?_ ?_ <;> simp [*]
  | false =>
   cases b2:xY u.toNat with
   | true =>
    simp only [b1,b2] at h1 h2 hf;simp [BD,-J,iB,y0,e0,e3,ba,hu,h1,h2,hw];refine ih (i + 1) (by omega) (by simpa using hf) _ ?_ ?_ <;> simp [*]
   | false =>
    simp only [b1,b2] at h1 h2 hf;simp [BD,-J,iB,y0,e0,e3,ba,hu,h1,h2,hw];refine hr _ (by simpa using hf.symm) ?_;simp
theorem nZ (s:ByteArray):wB 114 [.str s] (.bool (cG s)):=by
 refine EA (c:=xE) rfl rfl ?_;unfold cG;by_cases h0:s=⟨#[]⟩
 ·subst h0;simp [xE,-J,iB,y0];exact fun h=>absurd rfl h
 ·have hz:s.size≠0:=fun h=>h0 (by
   obtain ⟨d⟩:=s;have h:d.size=0:=h;rw [Array.eq_empty_of_size_eq_zero h])
  by_cases h1:s.size<=24
  ·have zo:¬ ((24:Int)<s.size):=by omega
   obtain ⟨u,hu⟩:=rQ (s:=s) (i:=0) (by omega);have h2:=bZ u.toNat;cases b1:kR u.toNat with
   | false =>
    simp only [b1] at h2;simp [xE,-J,iB,y0,h0,zo,hu,h2,b1]
   | true =>
    simp only [b1] at h2;simp [xE,-J,iB,y0,h0,zo,hu,h2,b1,hz,h1];refine rname_lp s h1 _ _ (fun s' hf=>?main) (fun s' hf h2=>?main2) s.size 0 (by simp) rfl _ ?_ ?_
    case main=>simp [-J,iB,y0,hf]
    case main2=>simp [-J,iB,y0,hf,h2]
    all_goals simp
  ·have zo:(24:Int)<s.size:=by omega
   simp [xE,-J,iB,y0,h0,zo,h1]
mutual
def Vl.same:Vl->Vl->Bool
 | .mk k b i s d _ ks _ xs _ rs,.mk k' b' i' s' d' _ ks' _ oy _ rs'=>decide (k=k')&&(b == b')&&decide (i=i')&&decide (s=s')&&decide (d=d')&&decide (rs=rs')&&Vl.sames ks ks'&&Vl.sames xs oy
def Vl.sames:List Vl->List Vl->Bool
 | [],[]=>true
 | v :: r,v' :: r'=>Vl.same v v'&&Vl.sames r r'
 | [],_ :: _=>false
 | _ :: _,[]=>false
end
theorem Vl.same_def (v w:Vl):v.same w=(decide (v.kind=w.kind)&&(v.b == w.b)&&decide (v.i=w.i)&&decide (v.s=w.s)&&decide (v.id=w.id)&&decide (v.rest=w.rest)&&Vl.sames v.keys w.keys&&Vl.sames v.items w.items):=by
 cases v; cases w; rw [Vl.same]; rfl
theorem Vl.sames_len:∀ l m:List Vl,l.length≠m.length->Vl.sames l m=false
 | [],[],h=>absurd rfl h
 | [],_ :: _,_=>by rw [Vl.sames]
 | _ :: _,[],_=>by rw [Vl.sames]
 | v :: r,w :: r',h=>by rw [Vl.sames,Vl.sames_len r r' (by simpa using h)]; simp
theorem raws_lp (rs qs:List Raw) (hl:rs.length<=9223372036854775807) (he:rs.length=qs.length) (b1 b2:Bool) (r:RV) (k:Ex->pA->Option RV) (hk:∀ s',rs=qs->k (.exit 0) s'=some r) (hr:∀ s':pA,rs≠qs->(s'.env 4).v=.bool false->k .ret s'=some r) :
  ∀ (n i:Nat),i + n=rs.length->(rs.drop i=qs.drop i ↔ rs=qs)->∀ s':pA,(s'.env 0).v=.sl b1 (rs.map BH)->(s'.env 1).v=.sl b2 (qs.map BH)->(s'.env 12).v=.int .i64 rs.length->(s'.env 13).v=.int .i64 i->zF lA dA KB s' k=some r:=by
 intro n
 induction n with
 | zero =>
  intro i hi hf s' e0 e1 jt e13;have ba:¬ ((i:Int)<rs.length):=by omega
  refine gA ?_;simp [KB,-J,iB,y0,jt,e13,ba];exact hk _ (hf.1 (by rw [yn (by omega),yn (by omega)]))
 | succ n ih =>
  intro i hi hf s' e0 e1 jt e13;have ba:(i:Int)<rs.length:=by omega
  have jg:i<rs.length:=by omega
  have ne:i<qs.length:=by omega
  have hw:=eB (i:=i);have g1:(rs.map BH)[i]?=some (BH rs[i]):=by simp [jg]
  have g2:(qs.map BH)[i]?=some (BH qs[i]):=by simp [ne]
  rw [yj jg,yj ne] at hf;simp only [List.cons.injEq] at hf;generalize rs[i]=x at *
  generalize qs[i]=y at *
  obtain ⟨xi,xd⟩:=x;obtain ⟨yi,yd⟩:=y;simp only [BH] at g1 g2;simp only [Raw.mk.injEq] at hf;refine gA ?_;by_cases h1:xi=yi
  ·by_cases h2:xd=yd
   ·subst h1 h2;simp [KB,-J,iB,y0,e0,e1,jt,e13,ba,g1,g2,FJ,hw];refine ih (i + 1) (by omega) (by simpa using hf) _ ?_ ?_ ?_ ?_ <;> simp [*]
   ·subst h1;simp [KB,-J,iB,y0,e0,e1,jt,e13,ba,g1,g2,FJ,h2];exact hr _ (fun h=>h2 (hf.2 h).1.2) (by simp)
  ·simp [KB,-J,iB,y0,e0,e1,jt,e13,ba,g1,g2,FJ,h1];exact hr _ (fun h=>h1 (hf.2 h).1.1) (by simp)
theorem raws_ev (rs qs:List Raw) (hl:rs.length<=9223372036854775807) (b1 b2:Bool):wB 154 [.sl b1 (rs.map BH),.sl b2 (qs.map BH)] (.bool (decide (rs=qs))):=by
 refine EA (c:=fD) rfl rfl ?_;by_cases he:rs.length=qs.length
 ·have kh:(rs.length:Int)=qs.length:=by omega
  simp [fD,-J,iB,y0,he];refine raws_lp rs qs hl he b1 b2 _ _ (fun s' hf=>?main) (fun s' hf h4=>?main2) rs.length 0 (by simp) (by simp) _ ?_ ?_ ?_ ?_
  case main=>simp [-J,iB,y0,hf]
  case main2=>simp [-J,iB,y0,hf,h4]
  all_goals simp [he]
 ·have kh:¬ (rs.length:Int)=qs.length:=by omega
  have za:rs≠qs:=fun h=>he (by rw [h])
  simp [fD,-J,iB,y0,kh,za]
theorem eqf_lp (F:Nat) (l m:List Vl) (hl:l.length<=9223372036854775807) (he:l.length=m.length) (hF:∀ x∈l,∀ y∈m,wB F [.agg (dB x),.agg (dB y)] (.bool (x.same y))) (b1 b2:Bool) (r:RV) (k:Ex->pA->Option RV) (hk:∀ s',Vl.sames l m=true->k (.exit 0) s'=some r) (hr:∀ s':pA,Vl.sames l m=false->(s'.env 6).v=.bool false->k .ret s'=some r) :
  ∀ (n i:Nat),i + n=l.length->Vl.sames (l.drop i) (m.drop i)=Vl.sames l m->∀ s':pA,(s'.env 1).v=.sl b2 (m.map dB)->(s'.env 2).v=.fn F []->(s'.env 15).v=.sl b1 (l.map dB)->(s'.env 16).v=.int .i64 l.length->(s'.env 17).v=.int .i64 i->zF lA dA mB s' k=some r:=by
 intro n
 induction n with
 | zero =>
  intro i hi hf s' e1 e2 bj gk sq;have ba:¬ ((i:Int)<l.length):=by omega
  refine gA ?_;simp [mB,-J,iB,y0,gk,sq,ba];refine hk _ ?_;rw [<- hf,yn (by omega),yn (by omega),Vl.sames]
 | succ n ih =>
  intro i hi hf s' e1 e2 bj gk sq;have ba:(i:Int)<l.length:=by omega
  have jg:i<l.length:=by omega
  have ne:i<m.length:=by omega
  have hw:=eB (i:=i);have g1:(l.map dB)[i]?=some (dB l[i]):=by simp [jg]
  have g2:(m.map dB)[i]?=some (dB m[i]):=by simp [ne]
  have hx:=hF l[i] (yF _) m[i] (yF _);rw [yj jg,yj ne,Vl.sames] at hf;generalize l[i]=x at *
  generalize m[i]=y at *
  simp only [wB,WB] at g1 g2 hx;refine gA ?_;cases h1:x.same y with
  | true =>
   rw [h1] at hx hf;simp [mB,-J,iB,y0,e1,e2,bj,gk,sq,ba,g1,g2,ZE,kD,hx,hw];refine ih (i + 1) (by omega) (by simpa using hf) _ ?_ ?_ ?_ ?_ ?_ <;> simp [*]
  | false =>
   rw [h1] at hx hf;simp [mB,-J,iB,y0,e1,e2,bj,gk,sq,ba,g1,g2,ZE,kD,hx];exact hr _ (by simpa using hf.symm) (by simp)
theorem N3 (F:Nat) (l m:List Vl) (hl:l.length<=9223372036854775807) (hF:∀ x∈l,∀ y∈m,wB F [.agg (dB x),.agg (dB y)] (.bool (x.same y))) (b1 b2:Bool):wB 155 [.sl b1 (l.map dB),.sl b2 (m.map dB),.fn F []] (.bool (Vl.sames l m)):=by
 refine EA (c:=NB) rfl rfl ?_;by_cases he:l.length=m.length
 ·simp [NB,-J,iB,y0,he];refine eqf_lp F l m hl he hF b1 b2 _ _ (fun s' hf=>?main) (fun s' hf h4=>?main2) l.length 0 (by simp) (by simp) _ ?_ ?_ ?_ ?_ ?_
  case main=>simp [-J,iB,y0,hf]
  case main2=>simp [-J,iB,y0,hf,h4]
  all_goals simp [he]
 ·have kh:¬ (l.length:Int)=m.length:=by omega
  simp [NB,-J,iB,y0,kh,Vl.sames_len l m he]
theorem same_ev:∀ (n:Nat) (v w:Vl),SizeOf.sizeOf v<n->v.ok->wB 147 [.agg (dB v),.agg (dB w)] (.bool (v.same w)):=by
 intro n
 induction n with
 | zero=>intro v w h; omega
 | succ n ih =>
  intro v w hn hv;rw [Vl.ok_def] at hv;obtain ⟨o1,o2,o3,o4,o5,o6⟩:=hv;have hr:=raws_ev v.rest w.rest o3 v.rn w.rn;have ue:=N3 147 v.keys w.keys o1 (fun x hx y _=>ih x y (by have:=Vl.keys_lt v x hx; omega) (o5 x hx)) v.kn w.kn;have lc:=N3 147 v.items w.items o2 (fun x hx y _=>ih x y (by have:=Vl.items_lt v x hx; omega) (o6 x hx)) v.xn w.xn;simp only [wB] at hr ue lc;refine EA (c:=DC) rfl rfl ?_;rw [WB,WB,Vl.same_def];by_cases h1:v.kind=w.kind
  ·by_cases h2:v.b=w.b
   ·by_cases h3:v.i=w.i
    ·by_cases h4:v.s=w.s
     ·by_cases h5:v.id=w.id
      ·by_cases h6:v.rest=w.rest
       ·cases h7:Vl.sames v.keys w.keys with
        | true=>rw [h7] at ue; simp [DC,-J,iB,y0,h1,h2,h3,h4,h5,h6 ▸ hr,h6,ZE,kD,ue,lc,h7]
        | false=>rw [h7] at ue; simp [DC,-J,iB,y0,h1,h2,h3,h4,h5,h6 ▸ hr,h6,ZE,kD,ue,h7]
       ·simp [DC,-J,iB,y0,h1,h2,h3,h4,h5,hr,h6]
      ·simp [DC,-J,iB,y0,h1,h2,h3,h4,h5]
     ·simp [DC,-J,iB,y0,h1,h2,h3,h4]
    ·simp [DC,-J,iB,y0,h1,h2,h3]
   ·simp [DC,-J,iB,y0,h1,h2]
  ·simp [DC,-J,iB,y0,h1]
abbrev WE (v:Vl):List rA:=[⟨.int .i64 v.kind,.no⟩,⟨.bool v.b,.no⟩,⟨.int .i64 v.i,.no⟩,⟨.str v.s,.no⟩,⟨.int .i64 v.id,.no⟩,⟨.sl v.kn (v.keys.map dB),.no⟩,⟨.sl v.xn (v.items.map dB),.no⟩,⟨.sl v.rn (v.rest.map BH),.no⟩]
theorem rrest_lp (v w:Vl) (hl:v.rest.length<=9223372036854775807) (he:v.rest.length=w.rest.length) (m:Nat) (r:RV) (k:Ex->pA->Option RV)
  (hk:∀ s':pA,v.rest=w.rest->(s'.env 2).v=.ptr 2 m 0->(s'.env 3).v=.ptr 3 m 0->s'.mem 2 m=some (WE v)->s'.mem 3 m=some (WE w)->k (.exit 0) s'=some r) (hr:∀ s':pA,v.rest≠w.rest->(s'.env 4).v=.bool false->k .ret s'=some r) :
  ∀ (n i:Nat),i + n=v.rest.length->(v.rest.drop i=w.rest.drop i ↔ v.rest=w.rest)->∀ s':pA,(s'.env 2).v=.ptr 2 m 0->(s'.env 3).v=.ptr 3 m 0->s'.mem 2 m=some (WE v)->s'.mem 3 m=some (WE w)->(s'.env 5).v=.int .i64 i->zF lA dA tD s' k=some r:=by
 intro n
 induction n with
 | zero =>
  intro i hi hf s' e2 e3 m2 m3 e5;have ba:¬ ((i:Int)<v.rest.length):=by omega
  refine gA ?_;simp [tD,-J,iB,y0,e2,e3,m2,m3,e5,ba];exact hk _ (hf.1 (by rw [yn (by omega),yn (by omega)])) (by simp [e2]) (by simp [e3]) (by simp [m2]) (by simp [m3])
 | succ n ih =>
  intro i hi hf s' e2 e3 m2 m3 e5;have ba:(i:Int)<v.rest.length:=by omega
  have jg:i<v.rest.length:=by omega
  have ne:i<w.rest.length:=by omega
  have hw:=eB (i:=i);have g1:(v.rest.map BH)[i]?=some (BH v.rest[i]):=by simp [jg]
  have g2:(w.rest.map BH)[i]?=some (BH w.rest[i]):=by simp [ne]
  rw [yj jg,yj ne] at hf;simp only [List.cons.injEq] at hf;generalize v.rest[i]=x at *
  generalize w.rest[i]=y at *
  obtain ⟨xi,xd⟩:=x;obtain ⟨yi,yd⟩:=y;simp only [BH] at g1 g2;simp only [Raw.mk.injEq] at hf;refine gA ?_;by_cases h1:xi=yi
  ·by_cases h2:xd=yd
   ·subst h1 h2;simp [tD,-J,iB,y0,e2,e3,m2,m3,e5,ba,g1,g2,FJ,hw];refine ih (i + 1) (by omega) (by simpa using hf) _ ?_ ?_ ?_ ?_ ?_ <;> simp [*]
   ·subst h1;simp [tD,-J,iB,y0,e2,e3,m2,m3,e5,ba,g1,g2,FJ,h2];exact hr _ (fun h=>h2 (hf.2 h).1.2) (by simp)
  ·simp [tD,-J,iB,y0,e2,e3,m2,m3,e5,ba,g1,g2,FJ,h1];exact hr _ (fun h=>h1 (hf.2 h).1.1) (by simp)
theorem rsames_lp (l m:List Vl) (hl:l.length<=9223372036854775807) (he:l.length=m.length) (hF:∀ x∈l,∀ y∈m,wB 119 [.agg (dB x),.agg (dB y)] (.bool (x.same y))) (b1 b2:Bool) (r:RV) (k:Ex->pA->Option RV) (hk:∀ s',Vl.sames l m=true->k (.exit 0) s'=some r) (hr:∀ s':pA,Vl.sames l m=false->(s'.env 4).v=.bool false->k .ret s'=some r) :
  ∀ (n i:Nat),i + n=l.length->Vl.sames (l.drop i) (m.drop i)=Vl.sames l m->∀ s':pA,(s'.env 0).v=.sl b1 (l.map dB)->(s'.env 1).v=.sl b2 (m.map dB)->(s'.env 5).v=.int .i64 i->zF lA dA UD s' k=some r:=by
 intro n
 induction n with
 | zero =>
  intro i hi hf s' e0 e1 e5;have ba:¬ ((i:Int)<l.length):=by omega
  refine gA ?_;simp [UD,-J,iB,y0,e0,e5,ba];refine hk _ ?_;rw [<- hf,yn (by omega),yn (by omega),Vl.sames]
 | succ n ih =>
  intro i hi hf s' e0 e1 e5;have ba:(i:Int)<l.length:=by omega
  have jg:i<l.length:=by omega
  have ne:i<m.length:=by omega
  have hw:=eB (i:=i);have g1:(l.map dB)[i]?=some (dB l[i]):=by simp [jg]
  have g2:(m.map dB)[i]?=some (dB m[i]):=by simp [ne]
  have hx:=hF l[i] (yF _) m[i] (yF _);rw [yj jg,yj ne,Vl.sames] at hf;generalize l[i]=x at *
  generalize m[i]=y at *
  simp only [wB,WB] at g1 g2 hx;refine gA ?_;cases h1:x.same y with
  | true =>
   rw [h1] at hx hf;simp [UD,-J,iB,y0,e0,e1,e5,ba,g1,g2,ZE,hx,hw];refine ih (i + 1) (by omega) (by simpa using hf) _ ?_ ?_ ?_ <;> simp [*]
  | false =>
   rw [h1] at hx hf;simp [UD,-J,iB,y0,e0,e1,e5,ba,g1,g2,ZE,hx];exact hr _ (by simpa using hf.symm) (by simp)
theorem i3 (l m:List Vl) (hl:l.length<=9223372036854775807) (hF:∀ x∈l,∀ y∈m,wB 119 [.agg (dB x),.agg (dB y)] (.bool (x.same y))) (b1 b2:Bool):wB 153 [.sl b1 (l.map dB),.sl b2 (m.map dB)] (.bool (Vl.sames l m)):=by
 refine EA (c:=cE) rfl rfl ?_;by_cases he:l.length=m.length
 ·simp [cE,-J,iB,y0,he];refine rsames_lp l m hl he hF b1 b2 _ _ (fun s' hf=>?main) (fun s' hf h4=>?main2) l.length 0 (by simp) (by simp) _ ?_ ?_ ?_
  case main=>simp [-J,iB,y0,hf]
  case main2=>simp [-J,iB,y0,hf,h4]
  all_goals simp [he]
 ·have kh:¬ (l.length:Int)=m.length:=by omega
  simp [cE,-J,iB,y0,kh,Vl.sames_len l m he]
theorem i7:∀ (n:Nat) (v w:Vl),SizeOf.sizeOf v<n->v.ok->wB 119 [.agg (dB v),.agg (dB w)] (.bool (v.same w)):=by
 intro n
 induction n with
 | zero=>intro v w h; omega
 | succ n ih =>
  intro v w hn hv;rw [Vl.ok_def] at hv;obtain ⟨o1,o2,o3,o4,o5,o6⟩:=hv;have ue:=i3 v.keys w.keys o1 (fun x hx y _=>ih x y (by have:=Vl.keys_lt v x hx; omega) (o5 x hx)) v.kn w.kn;have lc:=i3 v.items w.items o2 (fun x hx y _=>ih x y (by have:=Vl.items_lt v x hx; omega) (o6 x hx)) v.xn w.xn;simp only [wB] at ue lc;refine EA (c:=FB) rfl rfl ?_;rw [WB,WB,Vl.same_def];by_cases h1:v.kind=w.kind
  ·by_cases h2:v.b=w.b
   ·by_cases h3:v.i=w.i
    ·by_cases h4:v.s=w.s
     ·by_cases h5:v.id=w.id
      ·by_cases he:v.rest.length=w.rest.length
       ·simp [FB,-J,iB,y0,h1,h2,h3,h4,h5,he];refine rrest_lp v w o3 he 1 _ _ (fun s' h6 e2 e3 m2 m3=>?main) (fun s' h6 e4=>?main2) v.rest.length 0 (by simp) (by simp) _ ?_ ?_ ?_ ?_ ?_
        case main =>
         cases h7:Vl.sames v.keys w.keys with
         | true=>rw [h7] at ue; simp [-J,iB,y0,e2,e3,m2,m3,ZE,ue,lc,h6]
         | false=>rw [h7] at ue; simp [-J,iB,y0,e2,e3,m2,m3,ZE,ue,h6]
        case main2=>simp [-J,iB,y0,e4,h6]
        all_goals simp [h1,h2,h3,h4,h5]
       ·have kh:¬ (v.rest.length:Int)=w.rest.length:=by omega
        have h6:¬ v.rest=w.rest:=fun h=>he (by rw [h])
        simp [FB,-J,iB,y0,h1,h2,h3,h4,h5,kh,h6]
      ·simp [FB,-J,iB,y0,h1,h2,h3,h4,h5]
     ·simp [FB,-J,iB,y0,h1,h2,h3,h4]
    ·simp [FB,-J,iB,y0,h1,h2,h3]
   ·simp [FB,-J,iB,y0,h1,h2]
  ·simp [FB,-J,iB,y0,h1]
def fB.same (m m':fB):Bool:=decide (m.id=m'.id)&&decide (m.name=m'.name)&&decide (m.ty=m'.ty)&&(m.crit == m'.crit)&&(m.has == m'.has)&&m.dflt.same m'.dflt
def MB:List fB->List fB->Bool
 | [],[]=>true
 | m :: r,m' :: r'=>m.same m'&&MB r r'
 | [],_ :: _=>false
 | _ :: _,[]=>false
theorem TN:∀ l m:List fB,l.length≠m.length->MB l m=false
 | [],[],h=>absurd rfl h
 | [],_ :: _,_=>rfl
 | _ :: _,[],_=>rfl
 | v :: r,w :: r',h=>by rw [MB,TN r r' (by simpa using h)]; simp
def QA.same (t u:QA):Bool:=decide (t.kind=u.kind)&&decide (t.name=u.name)&&decide (t.low=u.low)&&decide (t.high=u.high)&&decide (t.max=u.max)&&decide (t.key=u.key)&&decide (t.elem=u.elem)&&(t.opn == u.opn)&&decide (t.syms=u.syms)&&MB t.mems u.mems
theorem msame_ev (m m':fB) (hm:m.ok):wB 146 [.agg (fA m),.agg (fA m')] (.bool (m.same m')):=by
 have hs:=same_ev _ m.dflt m'.dflt (Nat.lt_succ_self _) hm.1;simp only [wB,WB] at hs;refine EA (c:=uC) rfl rfl ?_;unfold fB.same fA;by_cases h1:m.id=m'.id
 ·by_cases h2:m.name=m'.name
  ·by_cases h3:m.ty=m'.ty
   ·by_cases h4:m.crit=m'.crit
    ·by_cases h5:m.has=m'.has
     ·simp [uC,-J,iB,y0,h1,h2,h3,h4,h5,hs]
     ·simp [uC,-J,iB,y0,h1,h2,h3,h4,h5]
    ·simp [uC,-J,iB,y0,h1,h2,h3,h4]
   ·simp [uC,-J,iB,y0,h1,h2,h3]
  ·simp [uC,-J,iB,y0,h1,h2]
 ·simp [uC,-J,iB,y0,h1]
theorem rmsame_ev (m m':fB) (hm:m.ok):wB 80 [.agg (fA m),.agg (fA m')] (.bool (m.same m')):=by
 have hs:=i7 _ m.dflt m'.dflt (Nat.lt_succ_self _) hm.1;simp only [wB,WB] at hs;refine EA (c:=ZB) rfl rfl ?_;unfold fB.same fA;by_cases h1:m.id=m'.id
 ·by_cases h2:m.name=m'.name
  ·by_cases h3:m.ty=m'.ty
   ·by_cases h4:m.crit=m'.crit
    ·by_cases h5:m.has=m'.has
     ·simp [ZB,-J,iB,y0,h1,h2,h3,h4,h5,hs]
     ·simp [ZB,-J,iB,y0,h1,h2,h3,h4,h5]
    ·simp [ZB,-J,iB,y0,h1,h2,h3,h4]
   ·simp [ZB,-J,iB,y0,h1,h2,h3]
  ·simp [ZB,-J,iB,y0,h1,h2]
 ·simp [ZB,-J,iB,y0,h1]
theorem syms_lp (rs qs:List LC) (hl:rs.length<=9223372036854775807) (he:rs.length=qs.length) (b1 b2:Bool) (r:RV) (k:Ex->pA->Option RV) (hk:∀ s',rs=qs->k (.exit 0) s'=some r) (hr:∀ s':pA,rs≠qs->(s'.env 4).v=.bool false->k .ret s'=some r) :
  ∀ (n i:Nat),i + n=rs.length->(rs.drop i=qs.drop i ↔ rs=qs)->∀ s':pA,(s'.env 0).v=.sl b1 (rs.map jA)->(s'.env 1).v=.sl b2 (qs.map jA)->(s'.env 12).v=.int .i64 rs.length->(s'.env 13).v=.int .i64 i->zF lA dA jB s' k=some r:=by
 intro n
 induction n with
 | zero =>
  intro i hi hf s' e0 e1 jt e13;have ba:¬ ((i:Int)<rs.length):=by omega
  refine gA ?_;simp [jB,-J,iB,y0,jt,e13,ba];exact hk _ (hf.1 (by rw [yn (by omega),yn (by omega)]))
 | succ n ih =>
  intro i hi hf s' e0 e1 jt e13;have ba:(i:Int)<rs.length:=by omega
  have jg:i<rs.length:=by omega
  have ne:i<qs.length:=by omega
  have hw:=eB (i:=i);have g1:(rs.map jA)[i]?=some (jA rs[i]):=by simp [jg]
  have g2:(qs.map jA)[i]?=some (jA qs[i]):=by simp [ne]
  rw [yj jg,yj ne] at hf;simp only [List.cons.injEq] at hf;generalize rs[i]=x at *
  generalize qs[i]=y at *
  obtain ⟨xi,xd⟩:=x;obtain ⟨yi,yd⟩:=y;simp only [jA] at g1 g2;simp only [LC.mk.injEq] at hf;refine gA ?_;by_cases h1:xi=yi
  ·by_cases h2:xd=yd
   ·subst h1 h2;simp [jB,-J,iB,y0,e0,e1,jt,e13,ba,g1,g2,FJ,hw];refine ih (i + 1) (by omega) (by simpa using hf) _ ?_ ?_ ?_ ?_ <;> simp [*]
   ·subst h1;simp [jB,-J,iB,y0,e0,e1,jt,e13,ba,g1,g2,FJ,h2];exact hr _ (fun h=>h2 (hf.2 h).1.2) (by simp)
  ·simp [jB,-J,iB,y0,e0,e1,jt,e13,ba,g1,g2,FJ,h1];exact hr _ (fun h=>h1 (hf.2 h).1.1) (by simp)
theorem syms_ev (rs qs:List LC) (hl:rs.length<=9223372036854775807) (b1 b2:Bool):wB 144 [.sl b1 (rs.map jA),.sl b2 (qs.map jA)] (.bool (decide (rs=qs))):=by
 refine EA (c:=RC) rfl rfl ?_;by_cases he:rs.length=qs.length
 ·simp [RC,-J,iB,y0,he];refine syms_lp rs qs hl he b1 b2 _ _ (fun s' hf=>?main) (fun s' hf h4=>?main2) rs.length 0 (by simp) (by simp) _ ?_ ?_ ?_ ?_
  case main=>simp [-J,iB,y0,hf]
  case main2=>simp [-J,iB,y0,hf,h4]
  all_goals simp [he]
 ·have kh:¬ (rs.length:Int)=qs.length:=by omega
  have za:rs≠qs:=fun h=>he (by rw [h])
  simp [RC,-J,iB,y0,kh,za]
theorem eqm_lp (l m:List fB) (hl:l.length<=9223372036854775807) (he:l.length=m.length) (hF:∀ x∈l,x.ok) (b1 b2:Bool) (r:RV) (k:Ex->pA->Option RV) (hk:∀ s',MB l m=true->k (.exit 0) s'=some r) (hr:∀ s':pA,MB l m=false->(s'.env 6).v=.bool false->k .ret s'=some r) :
  ∀ (n i:Nat),i + n=l.length->MB (l.drop i) (m.drop i)=MB l m->∀ s':pA,(s'.env 1).v=.sl b2 (m.map fA)->(s'.env 2).v=.fn 146 []->(s'.env 15).v=.sl b1 (l.map fA)->(s'.env 16).v=.int .i64 l.length->(s'.env 17).v=.int .i64 i->zF lA dA zB s' k=some r:=by
 intro n
 induction n with
 | zero =>
  intro i hi hf s' e1 e2 bj gk sq;have ba:¬ ((i:Int)<l.length):=by omega
  refine gA ?_;simp [zB,-J,iB,y0,gk,sq,ba];refine hk _ ?_;rw [<- hf,yn (by omega),yn (by omega),MB]
 | succ n ih =>
  intro i hi hf s' e1 e2 bj gk sq;have ba:(i:Int)<l.length:=by omega
  have jg:i<l.length:=by omega
  have ne:i<m.length:=by omega
  have hw:=eB (i:=i);have g1:(l.map fA)[i]?=some (fA l[i]):=by simp [jg]
  have g2:(m.map fA)[i]?=some (fA m[i]):=by simp [ne]
  have hx:=msame_ev l[i] m[i] (hF l[i] (yF _));rw [yj jg,yj ne,MB] at hf;generalize l[i]=x at *
  generalize m[i]=y at *
  simp only [wB,fA] at g1 g2 hx;refine gA ?_;cases h1:x.same y with
  | true =>
   rw [h1] at hx hf;simp [zB,-J,iB,y0,e1,e2,bj,gk,sq,ba,g1,g2,ZE,kD,hx,hw];refine ih (i + 1) (by omega) (by simpa using hf) _ ?_ ?_ ?_ ?_ ?_ <;> simp [*]
  | false =>
   rw [h1] at hx hf;simp [zB,-J,iB,y0,e1,e2,bj,gk,sq,ba,g1,g2,ZE,kD,hx];exact hr _ (by simpa using hf.symm) (by simp)
theorem eqm_ev (l m:List fB) (hl:l.length<=9223372036854775807) (hF:∀ x∈l,x.ok) (b1 b2:Bool):wB 145 [.sl b1 (l.map fA),.sl b2 (m.map fA),.fn 146 []] (.bool (MB l m)):=by
 refine EA (c:=JB) rfl rfl ?_;by_cases he:l.length=m.length
 ·simp [JB,-J,iB,y0,he];refine eqm_lp l m hl he hF b1 b2 _ _ (fun s' hf=>?main) (fun s' hf h4=>?main2) l.length 0 (by simp) (by simp) _ ?_ ?_ ?_ ?_ ?_
  case main=>simp [-J,iB,y0,hf]
  case main2=>simp [-J,iB,y0,hf,h4]
  all_goals simp [he]
 ·have kh:¬ (l.length:Int)=m.length:=by omega
  simp [JB,-J,iB,y0,kh,TN l m he]
theorem tsame_ev (t u:QA) (ht:t.ok):wB 104 [.agg (iA t),.agg (iA u)] (.bool (t.same u)):=by
 have hs:=syms_ev t.syms u.syms ht.1 t.sn u.sn;have hm:=eqm_ev t.mems u.mems ht.2.1 ht.2.2 t.mn u.mn;simp only [wB] at hs hm;refine EA (c:=AB) rfl rfl ?_;unfold QA.same iA;by_cases h1:t.kind=u.kind
 ·by_cases h2:t.name=u.name
  ·by_cases h3:t.low=u.low
   ·by_cases h4:t.high=u.high
    ·by_cases h5:t.max=u.max
     ·by_cases h6:t.key=u.key
      ·by_cases h7:t.elem=u.elem
       ·by_cases h8:t.opn=u.opn
        ·by_cases h9:t.syms=u.syms
         ·rw [decide_eq_true h9] at hs;simp [AB,-J,iB,y0,h1,h2,h3,h4,h5,h6,h7,h8,hs,h9 ▸ hs,h9,ZE,kD,hm]
         ·rw [decide_eq_false h9] at hs;simp [AB,-J,iB,y0,h1,h2,h3,h4,h5,h6,h7,h8,hs,h9]
        ·simp [AB,-J,iB,y0,h1,h2,h3,h4,h5,h6,h7,h8]
       ·simp [AB,-J,iB,y0,h1,h2,h3,h4,h5,h6,h7]
      ·simp [AB,-J,iB,y0,h1,h2,h3,h4,h5,h6]
     ·simp [AB,-J,iB,y0,h1,h2,h3,h4,h5]
    ·simp [AB,-J,iB,y0,h1,h2,h3,h4]
   ·simp [AB,-J,iB,y0,h1,h2,h3]
  ·simp [AB,-J,iB,y0,h1,h2]
 ·simp [AB,-J,iB,y0,h1]
abbrev wE (t:QA):List rA:=[⟨.int .i64 t.kind,.no⟩,⟨.str t.name,.no⟩,⟨.int .i64 t.low,.no⟩,⟨.int .i64 t.high,.no⟩,⟨.int .i64 t.max,.no⟩,⟨.sl t.sn (t.syms.map jA),.no⟩,⟨.sl t.mn (t.mems.map fA),.no⟩,⟨.int .i64 t.key,.no⟩,⟨.int .i64 t.elem,.no⟩,⟨.bool t.opn,.no⟩]
theorem rsyms_lp (v w:QA) (hl:v.syms.length<=9223372036854775807) (he:v.syms.length=w.syms.length) (m:Nat) (r:RV) (k:Ex->pA->Option RV)
  (hk:∀ s':pA,v.syms=w.syms->(s'.env 2).v=.ptr 2 m 0->(s'.env 3).v=.ptr 3 m 0->s'.mem 2 m=some (wE v)->s'.mem 3 m=some (wE w)->k (.exit 0) s'=some r) (hr:∀ s':pA,v.syms≠w.syms->(s'.env 4).v=.bool false->k .ret s'=some r) :
  ∀ (n i:Nat),i + n=v.syms.length->(v.syms.drop i=w.syms.drop i ↔ v.syms=w.syms)->∀ s':pA,(s'.env 2).v=.ptr 2 m 0->(s'.env 3).v=.ptr 3 m 0->s'.mem 2 m=some (wE v)->s'.mem 3 m=some (wE w)->(s'.env 5).v=.int .i64 i->zF lA dA bD s' k=some r:=by
 intro n
 induction n with
 | zero =>
  intro i hi hf s' e2 e3 m2 m3 e5;have ba:¬ ((i:Int)<v.syms.length):=by omega
  refine gA ?_;simp [bD,-J,iB,y0,e2,e3,m2,m3,e5,ba];exact hk _ (hf.1 (by rw [yn (by omega),yn (by omega)])) (by simp [e2]) (by simp [e3]) (by simp [m2]) (by simp [m3])
 | succ n ih =>
  intro i hi hf s' e2 e3 m2 m3 e5;have ba:(i:Int)<v.syms.length:=by omega
  have jg:i<v.syms.length:=by omega
  have ne:i<w.syms.length:=by omega
  have hw:=eB (i:=i);have g1:(v.syms.map jA)[i]?=some (jA v.syms[i]):=by simp [jg]
  have g2:(w.syms.map jA)[i]?=some (jA w.syms[i]):=by simp [ne]
  rw [yj jg,yj ne] at hf;simp only [List.cons.injEq] at hf;generalize v.syms[i]=x at *
  generalize w.syms[i]=y at *
  obtain ⟨xi,xd⟩:=x;obtain ⟨yi,yd⟩:=y;simp only [jA] at g1 g2;simp only [LC.mk.injEq] at hf;refine gA ?_;by_cases h1:xi=yi
  ·by_cases h2:xd=yd
   ·subst h1 h2;simp [bD,-J,iB,y0,e2,e3,m2,m3,e5,ba,g1,g2,FJ,hw];refine ih (i + 1) (by omega) (by simpa using hf) _ ?_ ?_ ?_ ?_ ?_ <;> simp [*]
   ·subst h1;simp [bD,-J,iB,y0,e2,e3,m2,m3,e5,ba,g1,g2,FJ,h2];exact hr _ (fun h=>h2 (hf.2 h).1.2) (by simp)
  ·simp [bD,-J,iB,y0,e2,e3,m2,m3,e5,ba,g1,g2,FJ,h1];exact hr _ (fun h=>h1 (hf.2 h).1.1) (by simp)
theorem rmems_lp (v w:QA) (hl:v.mems.length<=9223372036854775807) (hF:∀ x∈v.mems,x.ok) (he:v.mems.length=w.mems.length) (m:Nat) (r:RV) (k:Ex->pA->Option RV)
  (hk:∀ s':pA,MB v.mems w.mems=true->k (.exit 2) s'=some r) (hr:∀ s':pA,MB v.mems w.mems=false->(s'.env 4).v=.bool false->k .ret s'=some r) :
  ∀ (n i:Nat),i + n=v.mems.length->MB (v.mems.drop i) (w.mems.drop i)=MB v.mems w.mems->∀ s':pA,(s'.env 2).v=.ptr 2 m 0->(s'.env 3).v=.ptr 3 m 0->s'.mem 2 m=some (wE v)->s'.mem 3 m=some (wE w)->(s'.env 6).v=.int .i64 i->zF lA dA eE s' k=some r:=by
 intro n
 induction n with
 | zero =>
  intro i hi hf s' e2 e3 m2 m3 e6;have ba:¬ ((i:Int)<v.mems.length):=by omega
  refine gA ?_;simp [eE,-J,iB,y0,e2,e3,m2,m3,e6,ba];refine hk _ ?_;rw [<- hf,yn (by omega),yn (by omega),MB]
 | succ n ih =>
  intro i hi hf s' e2 e3 m2 m3 e6;have ba:(i:Int)<v.mems.length:=by omega
  have jg:i<v.mems.length:=by omega
  have ne:i<w.mems.length:=by omega
  have hw:=eB (i:=i);have g1:(v.mems.map fA)[i]?=some (fA v.mems[i]):=by simp [jg]
  have g2:(w.mems.map fA)[i]?=some (fA w.mems[i]):=by simp [ne]
  have hx:=rmsame_ev v.mems[i] w.mems[i] (hF _ (yF _));rw [yj jg,yj ne,MB] at hf;generalize v.mems[i]=x at *
  generalize w.mems[i]=y at *
  simp only [wB,fA] at g1 g2 hx;refine gA ?_;cases h1:x.same y with
  | true =>
   rw [h1] at hx hf;simp [eE,-J,iB,y0,e2,e3,m2,m3,e6,ba,g1,g2,ZE,hx,hw];refine ih (i + 1) (by omega) (by simpa using hf) _ ?_ ?_ ?_ ?_ ?_ <;> simp [*]
  | false =>
   rw [h1] at hx hf;simp [eE,-J,iB,y0,e2,e3,m2,m3,e6,ba,g1,g2,ZE,hx];exact hr _ (by simpa using hf.symm) (by simp)
theorem lV (t u:QA) (ht:t.ok):wB 40 [.agg (iA t),.agg (iA u)] (.bool (t.same u)):=by
 refine EA (c:=CA) rfl rfl ?_;unfold QA.same iA;by_cases h1:t.kind=u.kind
 ·by_cases h2:t.name=u.name
  ·by_cases h3:t.low=u.low
   ·by_cases h4:t.high=u.high
    ·by_cases h5:t.max=u.max
     ·by_cases h6:t.key=u.key
      ·by_cases h7:t.elem=u.elem
       ·by_cases h8:t.opn=u.opn
        ·by_cases h9:t.syms.length=u.syms.length
         ·by_cases sw:t.mems.length=u.mems.length
          ·simp [CA,-J,iB,y0,h1,h2,h3,h4,h5,h6,h7,h8,h9,sw];refine rsyms_lp t u ht.1 h9 1 _ _ (fun s' uw e2 e3 m2 m3=>?main) (fun s' uw e4=>?main2) t.syms.length 0 (by simp) (by simp) _ ?_ ?_ ?_ ?_ ?_
           case main =>
            simp [-J,iB,y0,uw];refine rmems_lp t u ht.2.1 ht.2.2 sw 1 _ _ (fun s' h12=>?a) (fun s' h12 e4=>?b) t.mems.length 0 (by simp) (by simp) _ ?_ ?_ ?_ ?_ ?_
            case a=>simp [-J,iB,y0,h12]
            case b=>simp [-J,iB,y0,h12,e4]
            all_goals simp [e2,e3,m2,m3]
           case main2=>simp [-J,iB,y0,uw,e4]
           all_goals simp [h1,h2,h3,h4,h5,h6,h7,h8]
          ·have h10':¬ (t.mems.length:Int)=u.mems.length:=by omega
           simp [CA,-J,iB,y0,h1,h2,h3,h4,h5,h6,h7,h8,h9,h10',TN _ _ sw]
         ·have sk:¬ (t.syms.length:Int)=u.syms.length:=by omega
          have uw:¬ t.syms=u.syms:=fun h=>h9 (by rw [h])
          simp [CA,-J,iB,y0,h1,h2,h3,h4,h5,h6,h7,h8,sk,uw]
        ·simp [CA,-J,iB,y0,h1,h2,h3,h4,h5,h6,h7,h8]
       ·simp [CA,-J,iB,y0,h1,h2,h3,h4,h5,h6,h7]
      ·simp [CA,-J,iB,y0,h1,h2,h3,h4,h5,h6]
     ·simp [CA,-J,iB,y0,h1,h2,h3,h4,h5]
    ·simp [CA,-J,iB,y0,h1,h2,h3,h4]
   ·simp [CA,-J,iB,y0,h1,h2,h3]
  ·simp [CA,-J,iB,y0,h1,h2]
 ·simp [CA,-J,iB,y0,h1]
theorem anN_t (a:An):iB true a=.ex:=rfl
theorem anN_f (a:An):iB false a=a:=rfl
theorem anN_ex (b:Bool):iB b .ex=.ex:=by cases b <;> rfl
attribute [simp] anN_t anN_f anN_ex
theorem IB {b:C} {r:RV} (n:Nat) (I:Nat->pA->Prop) (E:Ex->pA->Prop)
  (step:∀ i,i<=n->∀ s k,I i s->(i<n->∀ s',I (i + 1) s'->zF lA dA b s' k=some r)->(∀ e s',E e s'->k e s'=some r)->zF lA dA b s k=some r)
  (s:pA) (k:Ex->pA->Option RV) (h:I 0 s) (hk:∀ e s',E e s'->k e s'=some r):zF lA dA b s k=some r:=by
 have:∀ m i,i + m=n->∀ s,I i s->zF lA dA b s k=some r:=by
  intro m
  induction m with
  | zero=>intro i hi s h; exact step i (by omega) s k h (fun ba=>absurd ba (by omega)) hk
  | succ m ih=>intro i hi s h; exact step i (by omega) s k h (fun _ s' h'=>ih (i + 1) (by omega) s' h') hk
 exact this n 0 (by omega) s h
instance memStr (s:ByteArray) (l:List ByteArray):Decidable (s∈l):=@List.instDecidableMemOfLawfulBEq _ instBEqOfDecidableEq _ s l
def WR (s:ByteArray) (l:List ByteArray):Bool:=decide (s∈l)
theorem MS {s:ByteArray} {l:List ByteArray} (h:s∈l):WR s l=true:=decide_eq_true h
theorem gY {s:ByteArray} {l:List ByteArray} (h:¬ s∈l):WR s l=false:=decide_eq_false h
def qT (b n:Int):Bool:=decide (b<n)&&decide (1<=n)&&decide (n<=1000)
def UC:Int->List ByteArray->List (Int × ByteArray)->Bool
 | _,_,[]=>true
 | b,seen,(n,s) :: r=>qT b n&&!WR s seen&&cG s&&UC n (seen++[s]) r
def M3 (x:Int × ByteArray):List AV:=[.int .i64 x.1]
def nmC (x:Int × ByteArray):List AV:=[.str x.2]
def ZH (s:ByteArray):List AV:=[.str s,.bool true]
theorem EZ (s:ByteArray):∀ l:List ByteArray,MI (l.map ZH) (.str s)=if s∈l then some (AV.bool true) else none
 | []=>rfl
 | x :: r=>by
  simp only [yk,ZH,MI,lR];by_cases h:x=s
  ·simp [h]
  ·have h':¬ s=x:=fun e=>h e.symm
   have:=EZ s r;simp [h,h',this]
theorem RZ (s:ByteArray):∀ l:List ByteArray,¬ s∈l->IH (l.map ZH) (.str s) (.bool true)=(l++[s]).map ZH
 | [],_=>rfl
 | x :: r,hn=>by
  have h:¬ x=s:=fun e=>hn (by simp [e])
  have:=RZ s r fun e=>hn (by simp [e])
  simp [ZH,IH,lR,h,this]
theorem p5:∀ l:List ByteArray,aM .none (l.map ZH)=true
 | []=>rfl
 | x :: r=>by
  have:=p5 r;simp only [aM] at this;simp [aM,ZH,GH,AV.flat,AV.scal]
def ZD (l:List (Int × ByteArray)):Nat->Int
 | 0=>0
 | i + 1=>match l[i]? with
  | some x=>x.1
  | none=>0
theorem ids_ev (l:List (Int × ByteArray)) (hl:l.length<=9223372036854775807) (b1 b2:Bool):wB 142 [.sl b1 (l.map M3),.sl b2 (l.map nmC)] (.bool (UC 0 [] l&&decide (l.length<=16))):=by
 refine EA (c:=gK) rfl rfl ?_;simp [gK,-J,-y6,-y5,y0];refine IB l.length (fun i s=>(s.env 0).v=.sl b1 (l.map M3)/\(s.env 1).v=.sl b2 (l.map nmC)/\(s.env 5).v=.mp 8 2/\(s.env 9).v=.sl b1 (l.map M3)/\(s.env 10).v=.int .i64 l.length/\(s.env 11).v=.int .i64 i/\s.obj 8 2=some (QG (((l.take i).map (·.2)).map ZH))/\UC (ZD l i) ((l.take i).map (·.2)) (l.drop i)=UC 0 [] l)
  (fun e s=>(e=.exit 0/\UC 0 [] l=true/\(s.env 0).v=.sl b1 (l.map M3))\/(e=.ret/\UC 0 [] l=false/\(s.env 4).v=.bool false)) (fun i hi s k h ih hk=>?_) _ _ ?_ (fun e s h=>?_)
 ·obtain ⟨e0,e1,e5,e9,mf,dt,o,hs⟩:=h;refine gA ?_;by_cases ba:i<l.length
  ·have ea:(i:Int)<l.length:=by omega
   have g1:(l.map M3)[i]?=some (M3 l[i]):=by simp [ba]
   have g2:(l.map nmC)[i]?=some (nmC l[i]):=by simp [ba]
   have hw:=eB (i:=i);have ht:l.take (i + 1)=l.take i++[l[i]]:=(Y08 ba).symm;have hp:ZD l (i + 1)=l[i].1:=by simp [ZD,ba]
   have hn:=name_ev l[i].2;rw [yj ba,UC] at hs;generalize hx:l[i]=x at *
   generalize gr:(l.take i).map (·.2)=seen at *
   have hg:=EZ x.2 seen;have cw:=p5 seen;simp only [M3,nmC] at g1 g2;have hprev:(0<(i:Int)->∃ p,(l.map M3)[i - 1]?=some [.int .i64 p]/\ZD l i=p):=fun h0=>by
    obtain ⟨j,rfl⟩:∃ j,i=j + 1:=⟨i - 1,by omega⟩;exact ⟨l[j].1,by simp [M3,show j<l.length from by omega],by simp [ZD,show j<l.length from by omega]⟩
   have fail:∀ s',(s'.env 4).v=.bool false->(qT (ZD l i) x.1&&!WR x.2 seen&&cG x.2)=false->k .ret s'=some (.bool (UC 0 [] l&&decide (l.length<=16)),none):=fun s' h4 hf=>hk _ _ (.inr ⟨rfl,by rw [<- hs,hf]; rfl,h4⟩)
   obtain ⟨z,hz⟩:∃ z:Int,z=i:=⟨_,rfl⟩;have je:0<=z:=by omega
   have hzt:z.toNat=i:=by omega
   have zx:z<l.length:=by omega
   have hwz:IntKind.i64.wrap (z + 1)=((i + 1:Nat):Int):=by rw [hz]; exact hw
   rw [<- hz] at dt;rw [<- hzt] at g1 g2;by_cases c1:x.1<1
   ·simp [gB,-J,-y6,-y5,y0,e0,e1,e5,e9,mf,dt,zx,je,g1,c1];exact fail _ (by simp) (by simp [qT,show ¬ 1<=x.1 from by omega])
   by_cases c2:1000<x.1
   ·simp [gB,-J,-y6,-y5,y0,e0,e1,e5,e9,mf,dt,zx,je,g1,c1,c2];exact fail _ (by simp) (by simp [qT,show ¬ x.1<=1000 from by omega])
   have rest:(¬ 0<z\/∃ y p,0<z/\IntKind.i64.wrap (z - 1)=y/\0<=y/\(l.map M3)[y.toNat]?=some [.int .i64 p]/\¬ x.1<=p)->ZD l i<x.1->gB.run (rD lA dA) (IF lA dA) s (RK (zF lA dA) gB k)=some (.bool (UC 0 [] l&&decide (l.length<=16)),none):=by
    intro h0 hlast;by_cases c5:x.2∈seen
    ·rw [if_pos c5] at hg;rcases h0 with c3 | ⟨y,p,c3,hy,br,zn,hp3⟩
     ·simp [gB,-J,-y6,-y5,y0,e0,e1,e5,e9,mf,dt,zx,je,g1,g2,c1,c2,c3,o,aI,cw,GH,AV.flat,AV.scal,hg];exact fail _ (by simp) (by simp [MS c5])
     ·simp [gB,-J,-y6,-y5,y0,e0,e1,e5,e9,mf,dt,zx,je,g1,g2,c1,c2,c3,hy,br,zn,hp3,o,aI,cw,GH,AV.flat,AV.scal,hg];exact fail _ (by simp) (by simp [MS c5])
    ·rw [if_neg c5] at hg;have ac:=RZ x.2 seen c5;cases c6:cG x.2 with
     | false =>
      rw [c6] at hn;rcases h0 with c3 | ⟨y,p,c3,hy,br,zn,hp3⟩
      ·simp [gB,-J,-y6,-y5,y0,e0,e1,e5,e9,mf,dt,zx,je,g1,g2,c1,c2,c3,o,aI,cw,GH,AV.flat,AV.scal,hg,hn];exact fail _ (by simp) (by simp [c6])
      ·simp [gB,-J,-y6,-y5,y0,e0,e1,e5,e9,mf,dt,zx,je,g1,g2,c1,c2,c3,hy,br,zn,hp3,o,aI,cw,GH,AV.flat,AV.scal,hg,hn];exact fail _ (by simp) (by simp [c6])
     | true =>
      rw [c6] at hn;have ky:UC x.1 (seen++[x.2]) (l.drop (i + 1))=UC 0 [] l:=by rw [<- hs]; simp [qT,gY c5,c6,hlast,show 1<=x.1 from by omega,show x.1<=1000 from by omega]
      rcases h0 with c3 | ⟨y,p,c3,hy,br,zn,hp3⟩
      ·simp [gB,-J,-y6,-y5,y0,e0,e1,e5,e9,mf,dt,zx,je,g1,g2,c1,c2,c3,o,aI,cw,GH,AV.flat,AV.scal,hg,hn,ac,hwz];refine ih ba _ ⟨?_,?_,?_,?_,?_,?_,?_,?_⟩ <;> simp [ht,gr,hp,ky,e0,e1,e5,e9,mf]
      ·simp [gB,-J,-y6,-y5,y0,e0,e1,e5,e9,mf,dt,zx,je,g1,g2,c1,c2,c3,hy,br,zn,hp3,o,aI,cw,GH,AV.flat,AV.scal,hg,hn,ac,hwz];refine ih ba _ ⟨?_,?_,?_,?_,?_,?_,?_,?_⟩ <;> simp [ht,gr,hp,ky,e0,e1,e5,e9,mf]
   by_cases c3:0<(i:Int)
   ·obtain ⟨p,hp1,zn⟩:=hprev c3;have c3z:0<z:=by omega
    have hwm:IntKind.i64.wrap (z - 1)=((i - 1:Nat):Int):=by rw [IntWalk.i64_in _ (by omega)]; omega
    obtain ⟨y,hy⟩:∃ y:Int,y=((i - 1:Nat):Int):=⟨_,rfl⟩;have br:0<=y:=by omega
    rw [<- hy] at hwm;rw [show i - 1=y.toNat from by omega] at hp1;by_cases c4:x.1<=p
    ·simp [gB,-J,-y6,-y5,y0,e0,e1,e5,e9,mf,dt,zx,je,g1,c1,c2,c3z,hwm,br,hp1,c4];exact fail _ (by simp) (by simp [qT,zn,show ¬ p<x.1 from by omega])
    ·exact rest (.inr ⟨y,p,c3z,hwm,br,hp1,c4⟩) (by rw [zn]; omega)
   ·have h0:i=0:=by omega
    subst h0;exact rest (.inl (by omega)) (by simp only [ZD]; omega)
  ·have ea:¬ (i:Int)<l.length:=by omega
   simp [gB,-J,-y6,-y5,y0,mf,dt,ea];refine hk _ _ (.inl ⟨rfl,?_,by simp [e0]⟩);rw [<- hs,yn (by omega),UC]
 ·simp [QG,ZD]
 ·rcases h with ⟨rfl,h1,h2⟩ | ⟨rfl,h1,h2⟩ <;> simp [-J,-y6,-y5,y0,h1,h2]
  omega
def eH (x:LC):Int × ByteArray:=(x.id,x.name)
def HF (x:fB):Int × ByteArray:=(x.id,x.name)
def CP (l:List LC):Bool:=decide (0<l.length)&&(UC 0 [] (l.map eH)&&decide (l.length<=16))
theorem o9 (l:List LC) (hl:l.length<=8796093022206) (b:Bool):wB 102 [.sl b (l.map jA)] (.bool (CP l)):=by
 refine EA (c:=LG) rfl rfl ?_;have kr:=fun b1 b2=>ids_ev (l.map eH) (by simp; omega) b1 b2
 simp only [wB] at kr;simp [LG,-J,-y6,-y5,y0];refine IB l.length (fun i s=>(s.env 0).v=.sl b (l.map jA)/\(s.env 7).v=.sl b (l.map jA)/\(s.env 8).v=.int .i64 l.length/\(s.env 9).v=.int .i64 i/\(s.env 3).v=.sl (l.take i).isEmpty (((l.take i).map eH).map M3)/\(s.env 4).v=.sl (l.take i).isEmpty (((l.take i).map eH).map nmC)/\((s.env 3).a=.ex/\(s.env 4).a=.ex\/(l.take i).isEmpty=false/\(s.env 3).a=.own 17 3/\(s.env 4).a=.own 22 9))
  (fun e s=>e=.exit 0/\(s.env 0).v=.sl b (l.map jA)/\(s.env 3).v=.sl l.isEmpty ((l.map eH).map M3)/\(s.env 4).v=.sl l.isEmpty ((l.map eH).map nmC)) (fun i hi s k h ih hk=>?_) _ _ ?_ (fun e s h=>?_)
 ·obtain ⟨e0,e7,e8,e9,e3,e4,an⟩:=h;refine gA ?_;by_cases ba:i<l.length
  ·have ea:(i:Int)<l.length:=by omega
   have g1:(l.map jA)[i]?=some (jA l[i]):=by simp [ba]
   have hw:=eB (i:=i);have ht:l.take (i + 1)=l.take i++[l[i]]:=(Y08 ba).symm;generalize l[i]=x at *
   simp only [jA] at g1;have da:(l.take i).length=i:=by simp; omega
   generalize l.take i=t at *
   have jk:RA 8 (t.length + 1)=true:=by rw [sA]; omega
   have pk:RA 16 (t.length + 1)=true:=by rw [sA]; omega
   have q1:AA 1 ((t.map eH).map M3)=true:=SD _ _ _ fun _=>rfl
   have q2:AA 1 ((t.map eH).map nmC)=true:=SD _ _ _ fun _=>rfl
   rcases an with ⟨a3,a4⟩ | ⟨a0,a3,a4⟩
   ·simp [NE,-J,-y6,-y5,y0,e0,e7,e8,e9,e3,e4,a3,a4,ea,g1,hw,jk,pk,q1,q2];refine ih ba _ ⟨?_,?_,?_,?_,?_,?_,?_⟩ <;> simp [ht,e0,e7,e8,M3,nmC,eH]
   ·simp [NE,-J,-y6,-y5,y0,e0,e7,e8,e9,e3,e4,a0,a3,a4,ea,g1,hw,jk,pk,q1,q2];refine ih ba _ ⟨?_,?_,?_,?_,?_,?_,?_⟩ <;> simp [ht,e0,e7,e8,M3,nmC,eH]
  ·have ea:¬ (i:Int)<l.length:=by omega
   simp [NE,-J,-y6,-y5,y0,e8,e9,ea];rw [yS (by omega)] at e3 e4;exact hk _ _ ⟨rfl,by simp [e0],by simp [e3],by simp [e4]⟩
 ·simp
 ·obtain ⟨rfl,e0,e3,e4⟩:=h;unfold CP;by_cases h0:0<l.length
  ·have fh:(0:Int)<l.length:=by omega
   simp [-J,-y6,-y5,y0,e0,e3,e4,h0,fh,kr]
  ·have fh:¬ (0:Int)<l.length:=by omega
   simp [-J,-y6,-y5,y0,e0,e3,e4,h0,fh]
theorem rid_ev (b n:Int):wB 152 [.int .i64 b,.int .i64 n] (.bool (qT b n)):=by
 refine EA (c:=xN) rfl rfl ?_;unfold qT;by_cases h1:b<n <;> by_cases h2:1<=n <;> simp [xN,-J,-y6,-y5,y0,h1,h2]
theorem o7 (l:List LC) (hl:l.length<=8796093022206) (b:Bool):wB 115 [.sl b (l.map jA)] (.bool (CP l)):=by
 refine EA (c:=bH) rfl rfl ?_;simp [bH,-J,-y6,-y5,y0];have g0:∀ j,j<l.length->∃ x,l[j]?=some x:=fun j hj=>⟨l[j],by simp [hj]⟩
 refine IB l.length (fun i s=>(s.env 0).v=.sl b (l.map jA)/\(s.env 3).v=.int .i64 (ZD (l.map eH) i)/\(s.env 4).v=.int .i64 i/\UC (ZD (l.map eH) i) ((l.map eH).take i |>.map (·.2)) ((l.map eH).drop i)=UC 0 [] (l.map eH))
  (fun e s=>(e=.exit 0/\UC 0 [] (l.map eH)=true/\(s.env 0).v=.sl b (l.map jA))\/(e=.ret/\UC 0 [] (l.map eH)=false/\(s.env 2).v=.bool false)) (fun i hi s k h ih hk=>?_) _ _ ?_ (fun e s h=>?_)
 ·obtain ⟨e0,e3,e4,hs⟩:=h;refine gA ?_;by_cases ba:i<l.length
  ·have ea:(i:Int)<l.length:=by omega
   have g1:(l.map jA)[i]?=some (jA l[i]):=by simp [ba]
   have hw:=eB (i:=i);have bi:i<(l.map eH).length:=by simpa using ba
   have hp:ZD (l.map eH) (i + 1)=l[i].id:=by simp [ZD,ba,eH]
   have hn:=nZ l[i].name;have dN:=rid_ev (ZD (l.map eH) i) l[i].id;have th:(l.map eH)[i]=eH l[i]:=by simp
   have ht:((l.map eH).take (i + 1)).map (·.2)=((l.map eH).take i).map (·.2)++[l[i].name]:=by rw [<- Y08 bi,th]; simp [eH]
   rw [yj bi,th] at hs;obtain ⟨x,hx⟩:∃ x,x=l[i]:=⟨_,rfl⟩;rw [<- hx] at g1 hp hn dN ht hs;simp only [eH,UC] at hs;have fail:∀ s',(s'.env 2).v=.bool false->(qT (ZD (l.map eH) i) x.id&&!WR x.name (((l.map eH).take i).map (·.2))&&cG x.name)=false->k .ret s'=some (.bool (CP l),none):=fun s' h4 hf=>hk _ _ (.inr ⟨rfl,by rw [<- hs,hf]; rfl,h4⟩)
   simp only [wB] at hn dN;simp only [jA] at g1;cases c1:qT (ZD (l.map eH) i) x.id with
   | false =>
    rw [c1] at dN;simp [nE,-J,-y6,-y5,y0,e0,e3,e4,ea,g1,dN];exact fail _ (by simp) (by simp [c1])
   | true =>
    rw [c1] at dN;cases c2:cG x.name with
    | false =>
     rw [c2] at hn;simp [nE,-J,-y6,-y5,y0,e0,e3,e4,ea,g1,dN,hn];exact fail _ (by simp) (by simp [c2])
    | true =>
     rw [c2] at hn;simp [nE,-J,-y6,-y5,y0,e0,e3,e4,ea,g1,dN,hn];have oo:((l.map eH).take i).map (·.2)=(l.take i).map LC.name:=by simp [<- List.map_take,eH,Function.comp_def]
     refine IB i (fun j s=>(s.env 0).v=.sl b (l.map jA)/\(s.env 4).v=.int .i64 i/\(s.env 5).v=.int .i64 j/\¬ x.name∈(l.take j).map LC.name)
      (fun e s=>(e=.exit 2/\¬ x.name∈(l.take i).map LC.name/\(s.env 0).v=.sl b (l.map jA)/\(s.env 4).v=.int .i64 i)\/(e=.ret/\x.name∈(l.take i).map LC.name/\(s.env 2).v=.bool false)) (fun j hj s k' h wa rg=>?_) _ _ ?_ (fun e s h=>?_)
     ·obtain ⟨e0,e4,e5,hm⟩:=h;refine gA ?_;by_cases gt:j<i
      ·have pm:(j:Int)<i:=by omega
       have g2:(l.map jA)[j]?=some (jA l[j]):=by simp [show j<l.length from by omega]
       have xr:=eB (i:=j);have htj:l.take (j + 1)=l.take j++[l[j]]:=(Y08 (by omega)).symm;simp only [jA] at g2;by_cases rh:l[j].name=x.name
       ·simp [RF,-J,-y6,-y5,y0,e0,e4,e5,pm,g1,g2,rh];refine rg _ _ (.inr ⟨rfl,?_,by simp⟩);rw [<- rh];exact List.mem_map_of_mem (List.mem_take_iff_getElem.2 ⟨j,by omega,rfl⟩)
       ·simp [RF,-J,-y6,-y5,y0,e0,e4,e5,pm,g1,g2,rh,xr];refine wa gt _ ⟨?_,?_,?_,?_⟩
        ·simp [e0]
        ·simp [e4]
        ·simp
        ·rw [htj,List.map_append,yq];rintro (h | h)
         ·exact hm h
         ·simp at h; exact rh h.symm
      ·have pm:¬ (j:Int)<i:=by omega
       have iT:j=i:=by omega
       simp [RF,-J,-y6,-y5,y0,e4,e5,pm];exact rg _ _ (.inl ⟨rfl,iT ▸ hm,by simp [e0],by simp [e4]⟩)
     ·simp [e0,e4]
     ·rcases h with ⟨rfl,h1,e0,e4⟩ | ⟨rfl,h1,e2⟩
      ·simp [-J,-y6,-y5,y0,e0,e4,g1,hw];refine ih ba _ ⟨?_,?_,?_,?_⟩
       ·simp [e0]
       ·simp [hp]
       ·simp
       ·rw [hp,ht,<- hs,c1,c2,oo,gY h1];rfl
      ·simp [-J,-y6,-y5,y0];exact fail _ e2 (by rw [oo,MS h1]; simp)
  ·have ea:¬ (i:Int)<l.length:=by omega
   simp [nE,-J,-y6,-y5,y0,e0,e4,ea];refine hk _ _ (.inl ⟨rfl,?_,by simp [e0]⟩);rw [<- hs,yn (by simp; omega),UC]
 ·simp [ZD]
 ·unfold CP;rcases h with ⟨rfl,h1,e0⟩ | ⟨rfl,h1,e2⟩
  ·by_cases h0:0<l.length
   ·have fh:(1:Int)<=l.length:=by omega
    simp [-J,-y6,-y5,y0,e0,h0,fh,h1];omega
   ·have fh:¬ (1:Int)<=l.length:=by omega
    simp [-J,-y6,-y5,y0,e0,h0,fh,h1]
  ·simp [-J,-y6,-y5,y0,h1,e2]
theorem blank_ev (v:Vl) (hv:v.ok):wB 143 [.agg (dB v)] (.bool (v.same Vl.zero)):=by
 have h:=same_ev _ v Vl.zero (Nat.lt_succ_self _) hv;refine EA (c:=tI) rfl rfl ?_;simp only [wB,WB,Vl.zero,Vl.kind,Vl.b,Vl.i,Vl.s,Vl.id,Vl.kn,Vl.keys,Vl.xn,Vl.items,Vl.rn,Vl.rest,yR] at h ⊢;simp [tI,-J,-y6,-y5,y0,h]
theorem rblank_ev (v:Vl) (hv:v.ok):wB 119 [.agg (dB v),.agg [.int .i64 0,.bool false,.int .i64 0,.str ⟨#[]⟩,.int .i64 0,.sl true [],.sl true [],.sl true []]] (.bool (v.same Vl.zero)):=by
 have h:=i7 _ v Vl.zero (Nat.lt_succ_self _) hv;simp only [wB,WB,Vl.zero,Vl.kind,Vl.b,Vl.i,Vl.s,Vl.id,Vl.kn,Vl.keys,Vl.xn,Vl.items,Vl.rn,Vl.rest,yR] at h ⊢;exact h
def kC (rec:Bool) (m:fB):Bool:=!(!rec&&(m.crit||m.has))&&!(m.crit&&m.has)&&(m.has||m.dflt.same Vl.zero)
def dI (rec:Bool) (l:List fB):Bool:=l.all (kC rec)&&((rec||decide (0<l.length))&&(UC 0 [] (l.map HF)&&decide (l.length<=16)))
theorem T8 (t:QA) (ht:t.ok) (hl:t.mems.length<=8796093022206) (hk:t.kind=5\/t.kind=6):wB 103 [.agg (iA t)] (.bool (dI (decide (t.kind=5)) t.mems)):=by
 obtain ⟨rc,hrc⟩:∃ rc,rc=decide (t.kind=5):=⟨_,rfl⟩;have hk:t.kind=5/\rc=true\/t.kind=6/\rc=false:=by
  rcases hk with h | h
  ·exact .inl ⟨h,by rw [hrc,h]; rfl⟩
  ·exact .inr ⟨h,by rw [hrc,h]; rfl⟩
 rw [<- hrc];clear hrc;refine EA (c:=KG) rfl rfl ?_;have kr:=fun b1 b2=>ids_ev (t.mems.map HF) (by simp; omega) b1 b2
 simp only [wB] at kr;simp [KG,-J,-y6,-y5,y0,iA];refine IB t.mems.length (fun i s=>(s.env 1).v=.ptr 1 1 0/\s.mem 1 1=some (wE t)/\(s.env 8).v=.sl t.mn (t.mems.map fA)/\(s.env 9).v=.int .i64 t.mems.length/\(s.env 10).v=.int .i64 i/\(s.env 3).v=.sl (t.mems.take i).isEmpty (((t.mems.take i).map HF).map M3)/\(s.env 4).v=.sl (t.mems.take i).isEmpty (((t.mems.take i).map HF).map nmC)/\((t.mems.take i).isEmpty=(t.mems.take i).isEmpty/\(s.env 3).a=.ex/\(s.env 4).a=.ex\/(t.mems.take i).isEmpty=false/\(s.env 3).a=.own 18 3/\(s.env 4).a=.own 23 9)/\(t.mems.drop i).all (kC rc)=t.mems.all (kC rc))
  (fun e s=>(e=.exit 0/\t.mems.all (kC rc)=true/\(s.env 1).v=.ptr 1 1 0/\s.mem 1 1=some (wE t)/\(s.env 3).v=.sl t.mems.isEmpty ((t.mems.map HF).map M3)/\(s.env 4).v=.sl t.mems.isEmpty ((t.mems.map HF).map nmC))\/(e=.ret/\t.mems.all (kC rc)=false/\(s.env 2).v=.bool false)) (fun i hi s k h ih rg=>?_) _ _ ?_ (fun e s h=>?_)
 ·obtain ⟨e1,m1,e8,e9,mf,e3,e4,an,hs⟩:=h;refine gA ?_;by_cases ba:i<t.mems.length
  ·have ea:(i:Int)<t.mems.length:=by omega
   have g1:(t.mems.map fA)[i]?=some (fA t.mems[i]):=by simp [ba]
   have hw:=eB (i:=i);have ro:t.mems.take (i + 1)=t.mems.take i++[t.mems[i]]:=(Y08 ba).symm;have fk:=blank_ev t.mems[i].dflt (ht.2.2 _ (yF _)).1;rw [yj ba,List.all_cons] at hs;generalize t.mems[i]=x at *
   simp only [fA] at g1;simp only [wB,WB] at fk;have da:(t.mems.take i).length=i:=by simp; omega
   generalize hq:t.mems.take i=q at *
   have jk:RA 8 (q.length + 1)=true:=by rw [sA]; omega
   have pk:RA 16 (q.length + 1)=true:=by rw [sA]; omega
   have q1:AA 1 ((q.map HF).map M3)=true:=SD _ _ _ fun _=>rfl
   have q2:AA 1 ((q.map HF).map nmC)=true:=SD _ _ _ fun _=>rfl
   have fail:∀ s',(s'.env 2).v=.bool false->kC rc x=false->k .ret s'=some (.bool (dI rc t.mems),none):=fun s' h4 hf=>rg _ _ (.inr ⟨rfl,by rw [<- hs,hf]; rfl,h4⟩)
   have good:kC rc x=true->(t.mems.drop (i + 1)).all (kC rc)=t.mems.all (kC rc):=fun h=>by rw [<- hs,h]; rfl
   generalize hB:t.mems.all (kC rc)=B at *
   cases hg:kC rc x with
   | false =>
    cases hz:x.dflt.same Vl.zero <;> rw [hz] at fk <;> rcases hk with ⟨h5,rfl⟩ | ⟨h5,rfl⟩ <;> cases hc:x.crit <;> cases hh:x.has <;> first | (simp [kC,hc,hh,hz] at hg; done) | skip
    all_goals rcases an with ⟨a0,a3,a4⟩ | ⟨a0,a3,a4⟩ <;>
     simp [BE,-J,-y6,-y5,y0,e1,m1,e8,e9,mf,e3,e4,a0,a3,a4,ea,g1,hw,jk,pk,q1,q2,hc,hh,h5,fk]
    all_goals exact fail _ (by simp) hg
   | true =>
    have good:=good hg;cases hz:x.dflt.same Vl.zero <;> rw [hz] at fk <;> rcases hk with ⟨h5,rfl⟩ | ⟨h5,rfl⟩ <;> cases hc:x.crit <;> cases hh:x.has <;> first | (simp [kC,hc,hh,hz] at hg; done) | skip
    all_goals rcases an with ⟨a0,a3,a4⟩ | ⟨a0,a3,a4⟩ <;>
     simp [BE,-J,-y6,-y5,y0,e1,m1,e8,e9,mf,e3,e4,a0,a3,a4,ea,g1,hw,jk,pk,q1,q2,hc,hh,h5,fk]
    all_goals refine ih ba _ ⟨?_,?_,?_,?_,?_,?_,?_,?_,good⟩
    all_goals simp [ro,e1,m1,e8,e9,M3,nmC,HF,An.strip]
  ·have ea:¬ (i:Int)<t.mems.length:=by omega
   simp [BE,-J,-y6,-y5,y0,e9,mf,ea];rw [yS (by omega)] at e3 e4;rw [yn (by omega)] at hs;exact rg _ _ (.inl ⟨rfl,hs.symm,by simp [e1],by simp [m1],by simp [e3],by simp [e4]⟩)
 ·simp
 ·unfold dI;rcases h with ⟨rfl,h1,e1,m1,e3,e4⟩ | ⟨rfl,h1,e2⟩
  ·rw [h1];rcases hk with ⟨h5,rfl⟩ | ⟨h5,rfl⟩
   ·simp [-J,-y6,-y5,y0,e1,m1,e3,e4,h5,kr]
   ·by_cases h0:0<t.mems.length
    ·have fh:(0:Int)<t.mems.length:=by omega
     simp [-J,-y6,-y5,y0,e1,m1,e3,e4,h5,h0,fh,kr]
    ·have fh:¬ (0:Int)<t.mems.length:=by omega
     simp [-J,-y6,-y5,y0,e1,m1,e3,e4,h5,h0,fh]
  ·simp [-J,-y6,-y5,y0,h1,e2]
theorem u7 (l:List fB) (hl:l.length<=8796093022206) (sa:∀ m∈l,m.ok) (b rec:Bool):wB 116 [.sl b (l.map fA),.bool rec] (.bool (dI rec l)):=by
  refine EA (c:=lH) rfl rfl ?_;simp [lH,-J,-y6,-y5,y0];refine IB l.length (fun i s=>(s.env 0).v=.sl b (l.map fA)/\(s.env 1).v=.bool rec/\(s.env 5).v=.int .i64 (ZD (l.map HF) i)/\(s.env 6).v=.int .i64 i/\(UC (ZD (l.map HF) i) ((l.map HF).take i |>.map (·.2)) ((l.map HF).drop i)&&(l.drop i).all (kC rec))=(UC 0 [] (l.map HF)&&l.all (kC rec)))
    (fun e s=>(e=.exit 0/\(UC 0 [] (l.map HF)&&l.all (kC rec))=true/\(s.env 0).v=.sl b (l.map fA)/\(s.env 1).v=.bool rec)\/(e=.ret/\(UC 0 [] (l.map HF)&&l.all (kC rec))=false/\(s.env 4).v=.bool false)) (fun i hi s k h ih hk=>?_) _ _ ?_ (fun e s h=>?_)
  · obtain ⟨e0,e1,e5,e6,hs⟩:=h
    refine gA ?_;by_cases ba:i<l.length
    · have ea:(i:Int)<l.length:=by omega
      have g1:(l.map fA)[i]?=some (fA l[i]):=by simp [ba]
      have hw:=eB (i:=i);have bi:i<(l.map HF).length:=by simpa using ba
      have hp:ZD (l.map HF) (i + 1)=l[i].id:=by simp [ZD,ba,HF]
      have hn:=nZ l[i].name;have dN:=rid_ev (ZD (l.map HF) i) l[i].id;have fk:=rblank_ev l[i].dflt (sa _ (yF _)).1;have th:(l.map HF)[i]=HF l[i]:=by simp
      have ht:((l.map HF).take (i + 1)).map (·.2)=((l.map HF).take i).map (·.2)++[l[i].name]:=by rw [<- Y08 bi,th]; simp [HF]
      rw [yj bi,th,yj ba,List.all_cons] at hs;obtain ⟨x,hx⟩:∃ x,x=l[i]:=⟨_,rfl⟩;rw [<- hx] at g1 hp hn dN ht hs fk;simp only [UC] at hs;have eo:((qT (ZD (l.map HF) i) x.id&&!WR x.name (((l.map HF).take i).map (·.2))&&cG x.name&&kC rec x)&&(UC x.id (((l.map HF).take i).map (·.2)++[x.name]) ((l.map HF).drop (i + 1))&&(l.drop (i + 1)).all (kC rec)))=(UC 0 [] (l.map HF)&&l.all (kC rec)):=by
        rw [<- hs];simp only [HF,Bool.and_assoc];congr 1;congr 1;congr 1;rw [<- Bool.and_assoc,<- Bool.and_assoc,Bool.and_comm (kC rec x)]
      clear hs;have fail:∀ s',(s'.env 4).v=.bool false->(qT (ZD (l.map HF) i) x.id&&!WR x.name (((l.map HF).take i).map (·.2))&&cG x.name&&kC rec x)=false->k .ret s'=some (.bool (dI rec l),none):=fun s' h4 hf=>hk _ _ (.inr ⟨rfl,by rw [<- eo,hf]; rfl,h4⟩)
      simp only [wB,WB] at hn dN fk;simp only [fA] at g1;cases c1:qT (ZD (l.map HF) i) x.id with
      | false =>
        rw [c1] at dN;simp [AD,-J,-y6,-y5,y0,e0,e1,e5,e6,ea,g1,dN];exact fail _ (by simp) (by simp [c1])
      | true =>
        rw [c1] at dN;cases c2:cG x.name with
        | false =>
          rw [c2] at hn;simp [AD,-J,-y6,-y5,y0,e0,e1,e5,e6,ea,g1,dN,hn];exact fail _ (by simp) (by simp [c2])
        | true =>
          rw [c2] at hn;have oo:((l.map HF).take i).map (·.2)=(l.take i).map fB.name:=by simp [<- List.map_take,HF,Function.comp_def]
          have inner:∀ s:pA,kC rec x=true->(s.env 0).v=.sl b (l.map fA)->(s.env 1).v=.bool rec->(s.env 6).v=.int .i64 i->(s.env 8).v=.int .i64 0->∀ p,(s.env 7).v=.ptr 7 p 0->s.mem 7 p=some ((fA x).map (⟨·,.no⟩)) →
              ∀ k2:Ex->pA->Option RV,(∀ s',(s'.env 4).v=.bool false->k2 .ret s'=k .ret s')->(∀ s',(s'.env 0).v=.sl b (l.map fA)->(s'.env 1).v=.bool rec->(s'.env 6).v=.int .i64 i->(s'.env 7).v=.ptr 7 p 0->s'.mem 7 p=some ((fA x).map (⟨·,.no⟩))->¬ x.name∈(l.take i).map fB.name->k2 (.exit 2) s'=some (.bool (dI rec l),none)) →
              zF lA dA bE s k2=some (.bool (dI rec l),none):=by
            intro s hgood e0 e1 e6 e8 p e7 m7 k2 nu hk3;refine IB i (fun j s=>(s.env 0).v=.sl b (l.map fA)/\(s.env 1).v=.bool rec/\(s.env 6).v=.int .i64 i/\(s.env 7).v=.ptr 7 p 0/\s.mem 7 p=some ((fA x).map (⟨·,.no⟩))/\(s.env 8).v=.int .i64 j/\¬ x.name∈(l.take j).map fB.name)
              (fun e s=>(e=.exit 2/\¬ x.name∈(l.take i).map fB.name/\(s.env 0).v=.sl b (l.map fA)/\(s.env 1).v=.bool rec/\(s.env 6).v=.int .i64 i/\(s.env 7).v=.ptr 7 p 0/\s.mem 7 p=some ((fA x).map (⟨·,.no⟩)))\/(e=.ret/\x.name∈(l.take i).map fB.name/\(s.env 4).v=.bool false)) (fun j hj s k' h wa rg=>?_) _ _ ?_ (fun e s h=>?_)
            · obtain ⟨e0,e1,e6,e7,m7,e8,hm⟩:=h
              refine gA ?_;by_cases gt:j<i
              · have pm:(j:Int)<i:=by omega
                have g2:(l.map fA)[j]?=some (fA l[j]):=by simp [show j<l.length from by omega]
                have xr:=eB (i:=j);have htj:l.take (j + 1)=l.take j++[l[j]]:=(Y08 (by omega)).symm;simp only [fA,yk,yR] at g2 m7;by_cases rh:l[j].name=x.name
                · simp [bE,-J,-y6,-y5,y0,e0,e1,e6,e7,m7,e8,pm,g1,g2,rh]
                  refine rg _ _ (.inr ⟨rfl,?_,by simp⟩);rw [<- rh];exact List.mem_map_of_mem (List.mem_take_iff_getElem.2 ⟨j,by omega,rfl⟩)
                · simp [bE,-J,-y6,-y5,y0,e0,e1,e6,e7,m7,e8,pm,g1,g2,rh,xr]
                  refine wa gt _ ⟨?_,?_,?_,?_,?_,?_,?_⟩
                  · simp [e0]
                  · simp [e1]
                  · simp [e6]
                  · simp [e7]
                  · simp [m7,fA]
                  · simp
                  · rw [htj,List.map_append,yq]
                    rintro (h | h)
                    · exact hm h
                    · simp at h; exact rh h.symm
              · have pm:¬ (j:Int)<i:=by omega
                have iT:j=i:=by omega
                simp [bE,-J,-y6,-y5,y0,e6,e8,pm];exact rg _ _ (.inl ⟨rfl,iT ▸ hm,by simp [e0],by simp [e1],by simp [e6],by simp [e7],by simp [m7]⟩)
            · simp [e0,e1,e6,e7,e8,m7]
            · rcases h with ⟨rfl,h1,e0,e1,e6,e7,m7⟩ | ⟨rfl,h1,e4⟩
              · exact hk3 s e0 e1 e6 e7 m7 h1
              · rw [nu _ e4]
                exact fail _ e4 (by rw [oo,MS h1]; simp)
          have next:∀ s',(s'.env 0).v=.sl b (l.map fA)->(s'.env 1).v=.bool rec->(s'.env 5).v=.int .i64 x.id->(s'.env 6).v=.int .i64 ((i + 1:Nat):Int)->kC rec x=true->¬ x.name∈(l.take i).map fB.name->zF lA dA AD s' k=some (.bool (dI rec l),none):=fun s' f0 f1 f5 f6 hg gd=>ih ba _ ⟨f0,f1,by rw [hp]; exact f5,f6,by rw [hp,ht,<- eo,c1,c2,hg,oo,gY gd]; rfl⟩
          cases hz:x.dflt.same Vl.zero <;> rw [hz] at fk <;> cases rec <;> cases hc:x.crit <;> cases hh:x.has <;>
            simp [AD,-J,-y6,-y5,y0,e0,e1,e5,e6,ea,g1,dN,hn,hc,hh,fk] <;>
            first
            | exact fail _ (by simp) (by simp [kC,hc,hh,hz])
            | (refine inner _ (by simp [kC,hc,hh,hz]) ?_ ?_ ?_ ?_ (s.next + 1) ?_ ?_ _ ?_ ?_
               · simp [e0]
               · simp [e1]
               · simp [e6]
               · simp
               · simp
               · simp [fA,hc,hh]
               · intro s' _; rfl
               · intro s' f0 f1 f6 f7 fm gd
                 simp only [fA,yk,yR] at fm;simp [-J,-y6,-y5,y0,f0,f1,f6,f7,fm,hw];refine next _ ?_ ?_ ?_ ?_ (by simp [kC,hc,hh,hz]) gd <;> simp [f0,f1])
    · have ea:¬ (i:Int)<l.length:=by omega
      simp [AD,-J,-y6,-y5,y0,e0,e6,ea];refine hk _ _ (.inl ⟨rfl,?_,by simp [e0],by simp [e1]⟩);rw [<- hs,yn (by simp; omega),yn (by omega),UC];rfl
  · simp [ZD]
  · unfold dI
    rcases h with ⟨rfl,h1,e0,e1⟩ | ⟨rfl,h1,e2⟩
    · rw [ye] at h1
      rw [h1.1,h1.2];by_cases h16:l.length<=16
      · have rt:(l.length:Int)<=16:=by omega
        cases rec
        · by_cases h0:0<l.length
          · have fh:(1:Int)<=l.length:=by omega
            simp [-J,-y6,-y5,y0,e0,e1,h0,fh,h16,rt]
          · have fh:¬ (1:Int)<=l.length:=by omega
            simp [-J,-y6,-y5,y0,e0,e1,h0,fh,h16,rt]
        · simp [-J,-y6,-y5,y0,e0,e1,h16,rt]
      · have rt:¬ (l.length:Int)<=16:=by omega
        simp [-J,-y6,-y5,y0,e0,e1,h16,rt]
    · have:(l.all (kC rec)&&((rec||decide (0<l.length))&&(UC 0 [] (l.map HF)&&decide (l.length<=16))))=false:=by
        rw [Bool.and_eq_false_iff] at h1;rcases h1 with h1 | h1 <;> simp [h1]
      rw [this];simp [-J,-y6,-y5,y0,e2]
mutual
theorem Vl.same_refl:∀ v:Vl,v.same v=true
 | .mk k b i s d kn ks xn xs rn rs=>by rw [Vl.same]; simp [Vl.sames_refl ks,Vl.sames_refl xs]
theorem Vl.sames_refl:∀ l:List Vl,Vl.sames l l=true
 | []=>by rw [Vl.sames]
 | v :: r=>by rw [Vl.sames]; simp [Vl.same_refl v,Vl.sames_refl r]
end
theorem fB.same_refl (m:fB):m.same m=true:=by simp [fB.same,Vl.same_refl]
theorem sM:∀ l:List fB,MB l l=true
 | []=>rfl
 | m :: r=>by simp [MB,fB.same_refl,sM r]
def xD:QA:=⟨0,⟨#[]⟩,0,0,0,true,[],true,[],0,0,false⟩
def QA.left (t:QA):QA :=
 if t.kind=1 then { t with kind:=0 }
 else if t.kind=2 then { t with kind:=0,low:=0,high:=0 }
 else if t.kind=3 then { t with kind:=0,max:=0 }
 else if t.kind=4 then { t with kind:=0,name:=⟨#[]⟩,sn:=true,syms:=[],opn:=false }
 else if t.kind=5 then { t with kind:=0,name:=⟨#[]⟩,mn:=true,mems:=[] }
 else if t.kind=6 then { t with kind:=0,name:=⟨#[]⟩,mn:=true,mems:=[],opn:=false }
 else if t.kind=7 then { t with kind:=0,max:=0,elem:=0 }
 else if t.kind=8 then { t with kind:=0,max:=0,elem:=0,key:=0 }
 else { t with kind:=0,elem:=0 }
def GO (t:QA):Bool :=
 if t.kind=2 then decide (t.low<=t.high)
 else if t.kind=3 then decide (0<=t.max)&&decide (t.max<=200)
 else if t.kind=4 then cG t.name&&CP t.syms
 else if t.kind=5 then cG t.name&&dI true t.mems
 else if t.kind=6 then cG t.name&&dI false t.mems
 else if t.kind=7\/t.kind=8 then decide (0<=t.max)&&decide (t.max<=50)
 else true
def zD (t:QA):Bool:=decide (1<=t.kind/\t.kind<=9)&&(GO t&&t.left.same xD)
def QA.fine (t:QA):Prop:=t.ok/\t.syms.length<=8796093022206/\t.mems.length<=8796093022206
theorem RT {t u:QA} (h:t.ok) (h1:u.syms=t.syms\/u.syms=[]) (h2:u.mems=t.mems\/u.mems=[]):u.ok:=by
 refine ⟨?_,?_,?_⟩
 ·rcases h1 with h1 | h1
  ·rw [h1]; exact h.1
  ·rw [h1]; simp
 ·rcases h2 with h2 | h2
  ·rw [h2]; exact h.2.1
  ·rw [h2]; simp
 ·rcases h2 with h2 | h2
  ·rw [h2]; exact h.2.2
  ·rw [h2]; simp
theorem left_ok {t:QA} (h:t.ok):t.left.ok:=by
 unfold QA.left;by_cases h1:t.kind=1
 ·rw [if_pos h1]; exact RT h (.inl rfl) (.inl rfl)
 by_cases h2:t.kind=2
 ·rw [if_neg h1,if_pos h2]; exact RT h (.inl rfl) (.inl rfl)
 by_cases h3:t.kind=3
 ·rw [if_neg h1,if_neg h2,if_pos h3]; exact RT h (.inl rfl) (.inl rfl)
 by_cases h4:t.kind=4
 ·rw [if_neg h1,if_neg h2,if_neg h3,if_pos h4]; exact RT h (.inr rfl) (.inl rfl)
 by_cases h5:t.kind=5
 ·rw [if_neg h1,if_neg h2,if_neg h3,if_neg h4,if_pos h5]; exact RT h (.inl rfl) (.inr rfl)
 by_cases h6:t.kind=6
 ·rw [if_neg h1,if_neg h2,if_neg h3,if_neg h4,if_neg h5,if_pos h6]; exact RT h (.inl rfl) (.inr rfl)
 rw [if_neg h1,if_neg h2,if_neg h3,if_neg h4,if_neg h5,if_neg h6];by_cases h7:t.kind=7
 ·rw [if_pos h7]; exact RT h (.inl rfl) (.inl rfl)
 by_cases h8:t.kind=8
 ·rw [if_neg h7,if_pos h8]; exact RT h (.inl rfl) (.inl rfl)
 rw [if_neg h7,if_neg h8]; exact RT h (.inl rfl) (.inl rfl)
theorem kinds (k:Int):k=1\/k=2\/k=3\/k=4\/k=5\/k=6\/k=7\/k=8\/k=9\/¬ (1<=k/\k<=9):=by omega
def CG (n:Int):List AV:=[.int .i64 n]
def QA.usesL (t:QA):List Int:=(t.mems.map fB.ty++(if t.kind=8 then [t.key] else []))++(if 7<=t.kind then [t.elem] else [])
section
variable (t:QA) (hl:t.mems.length<=8796093022206)
include t hl
theorem uses_lp (r:RV) (k:Ex->pA->Option RV)
  (hk:∀ s':pA,(s'.env 1).v=.ptr 1 1 0->s'.mem 1 1=some (wE t)->(s'.env 3).v=.sl t.mems.isEmpty ((t.mems.map fB.ty).map CG)->(t.mems.isEmpty=t.mems.isEmpty/\(s'.env 3).a=.ex\/t.mems.isEmpty=false/\(s'.env 3).a=.own 17 3)->k (.exit 0) s'=some r)
  (s:pA) (h1:(s.env 1).v=.ptr 1 1 0) (h2:s.mem 1 1=some (wE t)) (h3:(s.env 7).v=.sl t.mn (t.mems.map fA)) (h4:(s.env 8).v=.int .i64 t.mems.length) (h5:(s.env 9).v=.int .i64 0) (h6:(s.env 3).v=.sl true []) (h7:(s.env 3).a=.ex):zF lA dA aF s k=some r:=by
 refine IB t.mems.length (fun i s=>(s.env 1).v=.ptr 1 1 0/\s.mem 1 1=some (wE t)/\(s.env 7).v=.sl t.mn (t.mems.map fA)/\(s.env 8).v=.int .i64 t.mems.length/\(s.env 9).v=.int .i64 i/\(s.env 3).v=.sl (t.mems.take i).isEmpty (((t.mems.take i).map fB.ty).map CG)/\((t.mems.take i).isEmpty=(t.mems.take i).isEmpty/\(s.env 3).a=.ex\/(t.mems.take i).isEmpty=false/\(s.env 3).a=.own 17 3))
  (fun e s=>e=.exit 0/\(s.env 1).v=.ptr 1 1 0/\s.mem 1 1=some (wE t)/\(s.env 3).v=.sl t.mems.isEmpty ((t.mems.map fB.ty).map CG)/\(t.mems.isEmpty=t.mems.isEmpty/\(s.env 3).a=.ex\/t.mems.isEmpty=false/\(s.env 3).a=.own 17 3)) (fun i hi s k h ih hk=>?_) _ _ ?_ (fun e s h=>?_)
 ·obtain ⟨e1,m1,e7,e8,e9,e3,an⟩:=h;refine gA ?_;by_cases ba:i<t.mems.length
  ·have ea:(i:Int)<t.mems.length:=by omega
   have g1:(t.mems.map fA)[i]?=some (fA t.mems[i]):=by simp [ba]
   have hw:=eB (i:=i);have ht:t.mems.take (i + 1)=t.mems.take i++[t.mems[i]]:=(Y08 ba).symm;generalize t.mems[i]=x at *
   simp only [fA] at g1;have da:(t.mems.take i).length=i:=by simp; omega
   generalize t.mems.take i=q at *
   have jk:RA 8 (q.length + 1)=true:=by rw [sA]; omega
   have q1:AA 1 ((q.map fB.ty).map CG)=true:=SD _ _ _ fun _=>rfl
   rcases an with ⟨a0,a3⟩ | ⟨a0,a3⟩
   ·simp [aF,-J,-y6,-y5,y0,e1,m1,e7,e8,e9,e3,a0,a3,ea,g1,hw,jk,q1];refine ih ba _ ⟨?_,?_,?_,?_,?_,?_,?_⟩ <;> simp [ht,e1,m1,e7,e8,CG,An.strip]
   ·simp [aF,-J,-y6,-y5,y0,e1,m1,e7,e8,e9,e3,a0,a3,ea,g1,hw,jk,q1];refine ih ba _ ⟨?_,?_,?_,?_,?_,?_,?_⟩ <;> simp [ht,e1,m1,e7,e8,CG,An.strip]
  ·have ea:¬ (i:Int)<t.mems.length:=by omega
   simp [aF,-J,-y6,-y5,y0,e8,e9,ea];rw [yS (by omega)] at e3 an;exact hk _ _ ⟨rfl,by simp [e1],by simp [m1],by simp [e3],by simpa using an⟩
 ·simp [h1,h2,h3,h4,h5,h6,h7]
 ·obtain ⟨rfl,e1,m1,e3,an⟩:=h;exact hk s e1 m1 e3 an
theorem uses_ev (b:Bool) (hb:b=t.usesL.isEmpty):wB 58 [.agg (iA t)] (.sl b (t.usesL.map CG)):=by
 subst hb;refine EA (c:=fJ) rfl rfl ?_;simp [fJ,-J,-y6,-y5,y0,iA];refine uses_lp t hl _ _ (fun s e1 m1 e3 an=>?_) _ ?_ ?_ ?_ ?_ ?_ ?_ ?_
 ·have q1:AA 1 ((t.mems.map fB.ty).map CG)=true:=SD _ _ _ fun _=>rfl
  have jk:RA 8 (t.mems.length + 1)=true:=by rw [sA]; omega
  have pk:RA 8 (t.mems.length + 1 + 1)=true:=by rw [sA]; omega
  unfold QA.usesL;by_cases h8:t.kind=8
  ·rcases an with ⟨a0,a3⟩ | ⟨a0,a3⟩
   ·simp [-J,-y6,-y5,y0,e1,m1,e3,a0,a3,h8,q1,jk,pk,CG]
   ·simp [-J,-y6,-y5,y0,e1,m1,e3,a0,a3,h8,q1,jk,pk,CG]
  ·by_cases h7:7<=t.kind
   ·rcases an with ⟨a0,a3⟩ | ⟨a0,a3⟩
    ·simp [-J,-y6,-y5,y0,e1,m1,e3,a0,a3,h8,h7,q1,jk,pk,CG]
    ·simp [-J,-y6,-y5,y0,e1,m1,e3,a0,a3,h8,h7,q1,jk,pk,CG]
   ·simp [-J,-y6,-y5,y0,e1,m1,e3,h8,h7]
 all_goals simp
theorem ruses_lp (r:RV) (k:Ex->pA->Option RV)
  (hk:∀ s':pA,(s'.env 1).v=.ptr 1 1 0->s'.mem 1 1=some (wE t)->(s'.env 3).v=.sl t.mems.isEmpty ((t.mems.map fB.ty).map CG)->(t.mems.isEmpty=t.mems.isEmpty/\(s'.env 3).a=.ex\/t.mems.isEmpty=false/\(s'.env 3).a=.own 20 3)->k (.exit 0) s'=some r)
  (s:pA) (h1:(s.env 1).v=.ptr 1 1 0) (h2:s.mem 1 1=some (wE t)) (h5:(s.env 4).v=.int .i64 0) (h6:(s.env 3).v=.sl true []) (h7:(s.env 3).a=.ex):zF lA dA AF s k=some r:=by
 refine IB t.mems.length (fun i s=>(s.env 1).v=.ptr 1 1 0/\s.mem 1 1=some (wE t)/\(s.env 4).v=.int .i64 i/\(s.env 3).v=.sl (t.mems.take i).isEmpty (((t.mems.take i).map fB.ty).map CG)/\((t.mems.take i).isEmpty=(t.mems.take i).isEmpty/\(s.env 3).a=.ex\/(t.mems.take i).isEmpty=false/\(s.env 3).a=.own 20 3))
  (fun e s=>e=.exit 0/\(s.env 1).v=.ptr 1 1 0/\s.mem 1 1=some (wE t)/\(s.env 3).v=.sl t.mems.isEmpty ((t.mems.map fB.ty).map CG)/\(t.mems.isEmpty=t.mems.isEmpty/\(s.env 3).a=.ex\/t.mems.isEmpty=false/\(s.env 3).a=.own 20 3)) (fun i hi s k h ih hk=>?_) _ _ ?_ (fun e s h=>?_)
 ·obtain ⟨e1,m1,e9,e3,an⟩:=h;refine gA ?_;by_cases ba:i<t.mems.length
  ·have ea:(i:Int)<t.mems.length:=by omega
   have g1:(t.mems.map fA)[i]?=some (fA t.mems[i]):=by simp [ba]
   have hw:=eB (i:=i);have ht:t.mems.take (i + 1)=t.mems.take i++[t.mems[i]]:=(Y08 ba).symm;generalize t.mems[i]=x at *
   simp only [fA] at g1;have da:(t.mems.take i).length=i:=by simp; omega
   generalize t.mems.take i=q at *
   have jk:RA 8 (q.length + 1)=true:=by rw [sA]; omega
   have q1:AA 1 ((q.map fB.ty).map CG)=true:=SD _ _ _ fun _=>rfl
   rcases an with ⟨a0,a3⟩ | ⟨a0,a3⟩
   ·simp [AF,-J,-y6,-y5,y0,e1,m1,e9,e3,a0,a3,ea,g1,hw,jk,q1];refine ih ba _ ⟨?_,?_,?_,?_,?_⟩ <;> simp [ht,e1,m1,CG,An.strip]
   ·simp [AF,-J,-y6,-y5,y0,e1,m1,e9,e3,a0,a3,ea,g1,hw,jk,q1];refine ih ba _ ⟨?_,?_,?_,?_,?_⟩ <;> simp [ht,e1,m1,CG,An.strip]
  ·have ea:¬ (i:Int)<t.mems.length:=by omega
   simp [AF,-J,-y6,-y5,y0,e1,m1,e9,ea];rw [yS (by omega)] at e3 an;exact hk _ _ ⟨rfl,by simp [e1],by simp [m1],by simp [e3],by simpa using an⟩
 ·simp [h1,h2,h5,h6,h7]
 ·obtain ⟨rfl,e1,m1,e3,an⟩:=h;exact hk s e1 m1 e3 an
theorem ruses_ev (h9:t.kind<=9) (b:Bool) (hb:b=t.usesL.isEmpty):wB 76 [.agg (iA t)] (.sl b (t.usesL.map CG)):=by
 subst hb;refine EA (c:=dK) rfl rfl ?_;simp [dK,-J,-y6,-y5,y0,iA];refine ruses_lp t hl _ _ (fun s e1 m1 e3 an=>?_) _ ?_ ?_ ?_ ?_ ?_
 ·have q1:AA 1 ((t.mems.map fB.ty).map CG)=true:=SD _ _ _ fun _=>rfl
  have jk:RA 8 (t.mems.length + 1)=true:=by rw [sA]; omega
  have pk:RA 8 (t.mems.length + 1 + 1)=true:=by rw [sA]; omega
  unfold QA.usesL;have hc:t.kind=8\/t.kind=7\/t.kind=9\/(¬ t.kind=8/\¬ t.kind=7/\¬ t.kind=9/\¬ 7<=t.kind):=by omega
  rcases hc with h | h | h | ⟨h8,h7,h9,h⟩
  ·rcases an with ⟨a0,a3⟩ | ⟨a0,a3⟩ <;> simp [-J,-y6,-y5,y0,e1,m1,e3,a0,a3,h,q1,jk,pk,CG]
  ·rcases an with ⟨a0,a3⟩ | ⟨a0,a3⟩ <;> simp [-J,-y6,-y5,y0,e1,m1,e3,a0,a3,h,q1,jk,pk,CG]
  ·rcases an with ⟨a0,a3⟩ | ⟨a0,a3⟩ <;> simp [-J,-y6,-y5,y0,e1,m1,e3,a0,a3,h,q1,jk,pk,CG]
  ·simp [-J,-y6,-y5,y0,e1,m1,e3,h8,h7,h9,h]
 all_goals simp
end
def Vl.bare (v:Vl):Vl:=.mk v.kind (if v.kind=1 then v.b else false) (if v.kind=2 then v.i else 0) (if v.kind=3 then v.s else ⟨#[]⟩) (if v.kind=4\/v.kind=6 then v.id else 0)
 (if v.kind=8 then v.kn else true) (if v.kind=8 then v.keys else []) (if 5<=v.kind then v.xn else true) (if 5<=v.kind then v.items else []) (if v.kind=5\/v.kind=6 then v.rn else true) (if v.kind=5\/v.kind=6 then v.rest else [])




section
open Go Go.RowKit
section
variable {P:Program}
theorem NH (w:World) (t ty e:TypeId) (i:TypeInfo) (size:Nat) (ht:P.underlying t=some (.slice e)) (hi:P.info? e=some i) (hs:i.size=size) (g off n c:Nat) (cur:Array Value) (te:TypeId)
  (hg:w.heap[g]?=some (.cells cur te (0,0))) (a:Addr) (m c':Nat) (news:List Value) (hl:news.length=m * size) (zb:∀ j u,news[j]?=some u->w.cell? (a.add j)=some u) (h1:∀ u∈news,u.oneCell'=true) (ga:n + m<=c) (zh:off + n * size + news.length<=cur.size) :
  (Builtin.append_ #[t,t] ty #[.slice (some ⟨g,off,none⟩) n c,.slice (some a) m c']).run P w=.ok (.slice (some ⟨g,off,none⟩) (n + m) c) (w.setRow g (cur.toList.take (off + n * size)++news++cur.toList.drop (off + n * size + news.length)).toArray):=by
 have wx:=run_loadCells_list (P:=P) w a news zb;rw [hl] at wx;have ac:=run_storeCells_at P g (off + n * size) te news 0 cur w hg (by simpa using zh) h1;simp only [yJ] at ac;simp [Builtin.append_,run_underlying ht,sizeOf,typeInfo,hi,hs,Builtin.lenOf,Builtin.firstCells,ga,wx,Addr.add_lit,ac]
theorem eF (w:World) (t ty e:TypeId) (i:TypeInfo) (z:Value) (size bytes:Nat) (ht:P.underlying t=some (.slice e)) (hi:P.info? e=some i) (hz:i.zero=some z) (hs:i.size=size) (hby:i.bytes=bytes) (ti:z.cells.size=size) (A:Option Addr) (n c:Nat) (olds:List Value) (uy:olds.length=n * size)
  (cv:0<n->∃ b,A=some b/\∀ j u,olds[j]?=some u->w.cell? (b.add j)=some u) (tk:A=none->n=0/\c=0) (a:Addr) (m c':Nat) (news:List Value) (hl:news.length=m * size) (zb:∀ j u,news[j]?=some u->w.cell? (a.add j)=some u) (ga:c<n + m) (hnc:n<=c) (hb:n + m<=1000) (hbb:bytes<=1000) :
  ∃ cap ua,n + m<=cap/\cap<=maxLen/\ua.size=cap * size/\ua.toList.take ((n + m) * size)=olds++news/\(Builtin.append_ #[t,t] ty #[.slice A n c,.slice (some a) m c']).run P w=.ok (.slice (some ⟨w.heap.size,0,none⟩) (n + m) cap) (w.drew.alloc (.cells ua e)):=by
 subst hs;have bz:Builtin.nextslicecap (n + m) c * i.bytes<=281474976710656:=by
  have h1:Builtin.nextslicecap (n + m) c<=2 * (n + m):=nextslicecap_le ga
  calc _<=(2 * (n + m)) * i.bytes:=Y02 _ h1
   _<=2000 * 1000:=Nat.mul_le_mul (by omega) (by omega)
   _<=_:=by decide
 cases A with
 | none =>
  obtain ⟨hn,wq⟩:=tk rfl;subst hn; subst wq;have:olds=[]:=Y00 (by simpa using uy);subst this;have ff:=grownCap_ge w m 0 e;have ud:m * i.bytes<=1000 * 1000:=Nat.mul_le_mul (by omega) (by omega);have hr:=run_append_nil (P:=P) w t ty e i z ht hi hz a m c' news hl zb (by omega) (by omega) (by omega);rw [yr];refine ⟨_,_,ff,grownCap_le_maxLen w _ _ e (by have:maxLen=9223372036854775807:=rfl; omega),?_,?_,hr⟩
  ·rw [Array.size_append,size_zeroCells,yO,hl,ti,<- yK]; congr 1; omega
  ·rw [Array.toList_append,<- hl]; exact List.take_left
 | some b =>
  have ff:=grownCap_ge w (n + m) c e;have holds':∀ j u,olds[j]?=some u->w.cell? (b.add j)=some u:=fun j u hu=>by
   have hj:j<olds.length:=(yh.1 hu).1;have hn:0<n:=by
    rcases yT n with h | h
    ·subst h; omega
    ·exact h
   obtain ⟨b',jb,h⟩:=cv hn;injection jb with jb;subst jb;exact h j u hu
  have hr:=run_append_grow (P:=P) w t ty e i z ht hi hz b n c olds uy holds' a m c' news hl zb ga (by omega) bz;refine ⟨_,_,ff,grownCap_le_maxLen w _ _ e (by have:maxLen=9223372036854775807:=rfl; omega),?_,?_,hr⟩
  ·rw [Array.size_append,Array.size_append,size_zeroCells,yO,yO,hl,uy,ti,<- yK,<- yK]; congr 1; omega
  ·have sb:(olds++news).length=(n + m) * i.size:=by rw [yb,uy,hl,yK]
   rw [Array.toList_append,Array.toList_append,<- sb]; exact List.take_left
theorem copy_at (w:World) (dT sT ty e:TypeId) (size:Nat) (hu:P.underlying dT=some (.slice e)) (hs:(P.info? e).map (·.size)=some size) (g off dLen dCap:Nat) (a:Addr) (sLen sCap:Nat) (cur:Array Value) (t:TypeId) (cs:List Value)
  (hg:w.heap[g]?=some (.cells cur t (0,0))) (hn:cs.length=Nat.min sLen dLen * size) (lv:∀ j v,cs[j]?=some v->w.cell? (a.add j)=some v) (zh:off + cs.length<=cur.size) (h1:∀ v∈cs,v.oneCell'=true) :
  (Builtin.copy_ #[dT,sT] ty #[.slice (some ⟨g,off,none⟩) dLen dCap,.slice (some a) sLen sCap]).run P w=.ok (goInt (Nat.min sLen dLen:Nat)) (w.setRow g (cur.toList.take off++cs++cur.toList.drop (off + cs.length)).toArray):=by
 have hl:=run_loadCells_list (P:=P) w a cs lv;have ac:=run_storeCells_at P g off t cs 0 cur w hg (by simpa using zh) h1;rw [hn] at hl;cases hq:P.info? e with
 | none=>simp [hq] at hs
 | some i =>
  have hi:i.size=size:=by simpa [hq] using hs
  simp only [yJ] at ac;simp [Builtin.copy_,run_underlying hu,Builtin.lenOf,Builtin.firstCells,sizeOf,typeInfo,hq,hi,hl,ac]
end
theorem nI {P:Program} (w:World) {ops:Array Oper} {rest:List Oper} {o:Oper} {a:Act} {Q:Exit->Act->World->Prop} (bw:o.guard=none) (s x:Operand) (t t':TypeId)
  (ho:o.op=.call { callee:=.builtin .append,args:=#[s,x],argTypes:=#[t,t'] }) (v u:Value) (hs:a.eval s=v) (hx:a.eval x=u) {v':Value} {w':World}
  (hr:(Builtin.append_ #[t,t'] o.type #[v,u]).run P w=.ok v' w') (h:wpList P ops Q rest (a.put o.dst v') w'):wpList P ops Q (o :: rest) a w:=by
 refine wpList_plain bw fun K hK=>?_
 unfold Oper.wp execOp;simp only [ho,resolve,invoke,builtin,Sem.run_bind,Sem.run_pure,Result.andThen_ok,List.map_toArray,yk,yR,hs,hx,hr];exact hK _ _ h
theorem KT {P:Program} {w:World} {ops:Array Oper} {o:Oper} {a:Act} {K:Act->World->Prop} {Q:Exit->Act->World->Prop} {E:Prop} (bw:o.guard=none) (s x:Operand) (t t':TypeId)
  (ho:o.op=.call { callee:=.builtin .append,args:=#[s,x],argTypes:=#[t,t'] }) (v u:Value) (hs:a.eval s=v) (hx:a.eval x=u) {v':Value} {w':World}
  (hr:(Builtin.append_ #[t,t'] o.type #[v,u]).run P w=.ok v' w') (h:K (a.put o.dst v') w'):if Region.wanted o (yielded ops a.tmps)=true then Oper.wp P o a w K Q else E:=by
 have hw:Region.wanted o (yielded ops a.tmps)=true:=by simp [Region.wanted,bw]
 rw [if_pos hw];unfold Oper.wp execOp;simp only [ho,resolve,invoke,builtin,Sem.run_bind,Sem.run_pure,Result.andThen_ok,List.map_toArray,yk,yR,hs,hx,hr];exact h
theorem TH {P:Program} (w:World) {ops:Array Oper} {rest:List Oper} {o:Oper} {a:Act} {Q:Exit->Act->World->Prop} (bw:o.guard=none) (s x:Operand) (t t':TypeId)
  (ho:o.op=.call { callee:=.builtin .copy,args:=#[s,x],argTypes:=#[t,t'] }) (v u:Value) (hs:a.eval s=v) (hx:a.eval x=u) {v':Value} {w':World}
  (hr:(Builtin.copy_ #[t,t'] o.type #[v,u]).run P w=.ok v' w') (h:wpList P ops Q rest (a.put o.dst v') w'):wpList P ops Q (o :: rest) a w:=by
 refine wpList_plain bw fun K hK=>?_
 unfold Oper.wp execOp;simp only [ho,resolve,invoke,builtin,Sem.run_bind,Sem.run_pure,Result.andThen_ok,List.map_toArray,yk,yR,hs,hx,hr];exact hK _ _ h
theorem jJ {P:Program} {w:World} {ops:Array Oper} {o:Oper} {a:Act} {K:Act->World->Prop} {Q:Exit->Act->World->Prop} {E:Prop} (bw:o.guard=none) (s x:Operand) (t t':TypeId)
  (ho:o.op=.call { callee:=.builtin .copy,args:=#[s,x],argTypes:=#[t,t'] }) (v u:Value) (hs:a.eval s=v) (hx:a.eval x=u) {v':Value} {w':World}
  (hr:(Builtin.copy_ #[t,t'] o.type #[v,u]).run P w=.ok v' w') (h:K (a.put o.dst v') w'):if Region.wanted o (yielded ops a.tmps)=true then Oper.wp P o a w K Q else E:=by
 have hw:Region.wanted o (yielded ops a.tmps)=true:=by simp [Region.wanted,bw]
 rw [if_pos hw];unfold Oper.wp execOp;simp only [ho,resolve,invoke,builtin,Sem.run_bind,Sem.run_pure,Result.andThen_ok,List.map_toArray,yk,yR,hs,hx,hr];exact h
def lay (L:List Value) (o:Nat) (X:List Value):List Value:=L.take o++X++L.drop (o + X.length)
theorem QH {L X:List Value} {o:Nat} (h:o + X.length<=L.length):(lay L o X).length=L.length:=by
 simp only [lay,yb,ym,yC]; omega
theorem NL (L X:List Value) (o j:Nat) (h:o + X.length<=L.length):(lay L o X)[j]?=if o<=j/\j<o + X.length then X[j - o]? else L[j]?:=by
 have ht:(L.take o).length=o:=by rw [ym]; omega
 unfold lay;rcases Nat.lt_or_ge j o with h1 | h1
 ·rw [if_neg (by omega),yo,yL (by omega),yy,if_pos h1]
 ·rcases Nat.lt_or_ge j (o + X.length) with h2 | h2
  ·rw [if_pos ⟨h1,h2⟩,yL (by rw [yb]; omega),yE (by omega),ht]
  ·rw [if_neg (by omega),yE (by rw [yb]; omega),yb,ht,yu];congr 1; omega
def qO:Value->Option Nat
 | .slice (some a) _ _=>some a.block
 | _=>none
theorem cN {w:World} {a:Addr} {u:Value} (h:w.cell? a=some u):∃ c ty fz,w.heap[a.block]?=some (.cells c ty fz)/\0<c.size:=by
 unfold World.cell? at h;split at h
 ·rename_i c ty fz hc;split at h
  ·cases h
  ·have:=(Array.getElem?_eq_some_iff.1 h).1;exact ⟨c,ty,fz,hc,by omega⟩
 ·cases h
theorem GP {P:Program} (w:World) (tS tR e:TypeId) (ht:P.underlying tS=some (.slice e)) (size:Nat) (hz:∀ w,(Go.sizeOf e).run P w=.ok size w)
  (a b:Addr) (la ca lb cb:Nat) (za:a.block≠b.block) (u:Value) (ha:w.cell? a=some u) (cur:Array Value) (ty:TypeId) (hb:w.heap[b.block]?=some (.cells cur ty (0,0))) (fg:cur.size≠0) :
  (Extern.SlicesOverlaps.overlaps #[tS,tS] #[tR] #[.slice (some a) la ca,.slice (some b) lb cb]).run P w=.ok (.bool false) w:=by
 obtain ⟨ca',ta,fz,hca,pb⟩:=cN ha;have jw:w.shape? a.block=some (ta,ca'.size):=by simp [World.shape?,hca]
 have ft:w.shape? b.block=some (ty,cur.size):=by simp [World.shape?,hb]
 have hfb:w.frozen? b=false:=by simp [World.frozen?,hb]
 have hfe:w.frozen? { block:=b.block,off:=cur.size }=false:=by simp [World.frozen?,hb]
 have ep:(a.block != b.block)=true:=by simpa using za
 have hnb':(a.block == b.block)=false:=by simpa using za
 change Sem.run P (α:=Value) (do
  let some t:=(#[tS,tS]:Array TypeId)[0]? | stuck "slices.overlaps: no parameter types"
  let .slice elem <- underlying t | stuck "slices.overlaps: slice type expected"
  let size <- sizeOf elem
  match (some a:Option Addr),(some b:Option Addr) with
  | some a,some b =>
   if la=0\/lb=0\/size=0 then pure (Value.bool false)
   else if a.block != b.block&&(<- frozen a)&&(<- frozen b) then unsupported .addressObserved
   else do
    if a.block != b.block then do
     noView a; noView b
     if <- mayBeOne a b then return Value.bool ((<- choose (.extern "sameAddr.stringBytes" 2)) == 1)
    pure (Value.bool (a.block == b.block&&a.off<b.off + lb * size&&b.off<a.off + la * size))
  | _,_=>pure (Value.bool false)) w=_
 by_cases h0:la=0\/lb=0\/size=0
 ·simp [run_underlying ht,hz,h0]
 ·obtain ⟨k,hk⟩:∃ k,ca'.size=k + 1:=⟨ca'.size - 1,by omega⟩;obtain ⟨m,hm⟩:∃ m,cur.size=m + 1:=⟨cur.size - 1,by omega⟩;rw [hk] at jw;rw [hm] at ft hfe;cases hfa:w.frozen? a <;> cases hfk:w.frozen? { block:=a.block,off:=k + 1 } <;>
   simp [run_underlying ht,hz,h0,ep,hnb',frozen,noView,viewAt,mayBeOne,stringish,shape,Sem.run,jw,ft,hfb,hfe,hfa,hfk]
theorem C1 {P:Program} (w:World) (t e e0 ty:TypeId) (z:Value) (ht:P.underlying t=some (.slice e)) (hz:(zeroValue e).run P w=.ok z w) (h1:∀ u∈z.cells.toList,u.oneCell'=true)
  (g off n c:Nat) (cur:Array Value) (hg:w.heap[g]?=some (.cells cur e0 (0,0))) (sb:off + n * z.cells.size<=cur.size) :
  ∃ w' ua,(Builtin.clear_ #[t] ty #[.slice (some ⟨g,off,none⟩) n c]).run P w=.ok (.tuple #[]) w'/\w'.heap[g]?=some (.cells ua e0 (0,0))/\ua.size=cur.size/\ua.toList.take off=cur.toList.take off/\ZA (fun b=>b=g) w w':=by
 cases n with
 | zero =>
  refine ⟨w,cur,?_,hg,rfl,rfl,ZA.refl _ w⟩;simp [Builtin.clear_,run_underlying ht]
 | succ n =>
  have hzc:∀ u∈(Builtin.zeroCells z.cells (n + 1)).toList,u.oneCell'=true:=by
   intro u hu;simp only [Builtin.zeroCells,Array.toList_map,yQ,Array.toList_range,List.mem_range] at hu;obtain ⟨j,hj,rfl⟩:=hu;have pb:0<z.cells.size:=by
    rcases yT z.cells.size with h | h
    ·rw [h] at hj; simp at hj
    ·exact h
   have ba:=Nat.mod_lt j pb;rw [getElem!_pos z.cells _ ba];exact h1 _ (by simp)
  have oc:(Builtin.zeroCells z.cells (n + 1)).toList.length=(n + 1) * z.cells.size:=by simp [size_zeroCells]
  have ac:=run_storeCells_at P g off e0 (Builtin.zeroCells z.cells (n + 1)).toList 0 cur w hg (by rw [oc]; simpa using sb) hzc;simp only [yJ] at ac;obtain ⟨nw,hnw⟩:∃ nw,nw=(cur.toList.take off++(Builtin.zeroCells z.cells (n + 1)).toList++cur.toList.drop (off + (Builtin.zeroCells z.cells (n + 1)).toList.length)).toArray:=⟨_,rfl⟩;rw [<- hnw] at ac;refine ⟨w.setRow g nw,nw,?_,setRow_heap w g cur _ e0 _ hg,?_,?_,?_⟩
  ·simp [Builtin.clear_,run_underlying ht,hz,ac]
  ·rw [hnw];simp only [yO,yb,ym,yC,yP,oc];omega
  ·rw [hnw,yo];exact List.take_left' (by simp; omega)
  ·exact ⟨rfl,rfl,rfl,by simp,fun k hk hF=>setRow_other w g k _ hF⟩
end
section
open Go Go.RowKit
structure tL where
 cells:List Value
 len:cells.length=13
 one:∀ u∈cells,u.oneCell'=true
def PG (l:List tL):List Value:=l.flatMap tL.cells
theorem RD (l:List tL):(PG l).length=l.length * 13:=by
 induction l with
 | nil=>rfl
 | cons q l ih=>simp only [PG,List.flatMap_cons,yb,yA,q.len] at ih ⊢; rw [ih]; omega
theorem eL (l r:List tL):PG (l++r)=PG l++PG r:=by simp [PG]
theorem CM (q:tL) (r:List tL):PG (q :: r)=q.cells++PG r:=by simp [PG]
theorem IP (l:List tL) (k:Nat):(PG l).take (k * 13)=PG (l.take k):=by
 induction l generalizing k with
 | nil=>simp [PG]
 | cons q l ih =>
  cases k with
  | zero=>simp [PG]
  | succ k =>
   have h4:=q.len;rw [CM,List.take_succ_cons,CM,List.take_append,h4,show (k + 1) * 13 - 13=k * 13 from by omega,ih,yS (by rw [h4]; omega)]
theorem rL (l:List tL) (k:Nat):(PG l).drop (k * 13)=PG (l.drop k):=by
 induction l generalizing k with
 | nil=>simp [PG]
 | cons q l ih =>
  cases k with
  | zero=>simp [PG]
  | succ k =>
   have h4:=q.len;rw [CM,List.drop_succ_cons,List.drop_append,h4,show (k + 1) * 13 - 13=k * 13 from by omega,ih,yn (by rw [h4]; omega),yW]
theorem sX (l:List tL):∀ u∈PG l,u.oneCell'=true:=by
 intro u hu;simp only [PG,yV] at hu;obtain ⟨q,_,hq⟩:=hu;exact q.one u hq
theorem myC_of:∀ (n:Nat) (vs:List Value),vs.length=n * 13->(∀ u∈vs,u.oneCell'=true)->∃ l:List tL,l.length=n/\PG l=vs
 | 0,vs,h,_=>⟨[],rfl,(Y00 (by omega)).symm⟩
 | n + 1,vs,h,h1=>by
  obtain ⟨l,hl,hc⟩:=myC_of n (vs.drop 13) (by rw [yC]; omega) (fun u hu=>h1 u (List.mem_of_mem_drop hu));exact ⟨⟨vs.take 13,by rw [ym]; omega,fun u hu=>h1 u (List.mem_of_mem_take hu)⟩ :: l,by simp [hl],by rw [CM,hc]; exact Y05 _ _⟩
def myZ:Value:=.agg #[.int .i64 0,.string ⟨#[]⟩,.int .i64 0,.bool false,.bool false,.int .i64 0,.bool false,.int .i64 0,.string ⟨#[]⟩,.int .i64 0,.slice none 0 0,.slice none 0 0,.slice none 0 0]
theorem myu:Tryz.prog.underlying 66=some (.slice 48):=by kernel_rfl
theorem myi:(Tryz.prog.info? 48).map (fun i=>(i.zero,i.size,i.bytes))=some (some myZ,13,160):=by kernel_rfl
theorem mysz:(Tryz.prog.info? 48).map (·.size)=some 13:=by kernel_rfl
theorem myzv (w:World):(zeroValue 48).run Tryz.prog w=.ok myZ w:=by kernel_rfl
theorem myhi (A:Option Addr) (n c k:Nat) (hk:k<=c) (w:World):(Instr.slice 66 (.slice A n c) none (some (.int .i64 k)) none).run Tryz.prog w=.ok (.slice A k c) w:=by
 obtain ⟨i,hi,je,eh,gj⟩:=info_parts myi;exact cut_hi w _ _ i myu hi A n c k hk
theorem O8 (A:Option Addr) (n c k:Nat) (hk:k<=n) (w:World):(Instr.slice 66 (.slice A n c) (some (.int .i64 k)) none none).run Tryz.prog w=.ok (.slice (if c=k then A else A.map (·.add (k * 13))) (n - k) (c - k)) w:=by
 obtain ⟨i,hi,je,eh,gj⟩:=info_parts myi;exact cut_lo w _ _ i 13 myu hi eh A n c k hk
theorem mylh (A:Option Addr) (n c k h:Nat) (hk:k<=h) (hh:h<=c) (w:World):(Instr.slice 66 (.slice A n c) (some (.int .i64 k)) (some (.int .i64 h)) none).run Tryz.prog w=.ok (.slice (if c=k then A else A.map (·.add (k * 13))) (h - k) (c - k)) w:=by
 obtain ⟨i,hi,je,eh,gj⟩:=info_parts myi;exact cut_lh w _ _ i 13 myu hi eh A n c k h hk hh
theorem mysiz (w:World):(Go.sizeOf 48).run Tryz.prog w=.ok 13 w:=by kernel_rfl
structure ML (w:World) (g off c N:Nat) (l:List tL):Prop where
 blk:∃ cur ty,w.heap[g]?=some (.cells cur ty (0,0))/\cur.size=N/\off + c * 13<=N/\(cur.toList.drop off).take (l.length * 13)=PG l
 len:l.length<=c
def myO (w:World) (v:Value) (l:List tL):Prop:=(v=.slice none 0 0/\l=[])\/∃ g c N,v=.slice (some ⟨g,0,none⟩) l.length c/\ML w g 0 c N l
section
variable {w w':World} {g off c N:Nat} {l:List tL} {v:Value}
theorem ML.keep {F:Nat->Prop} (h:ML w g off c N l) (hk:ZA F w w') (hF:¬ F g):ML w' g off c N l:=by
 obtain ⟨⟨cur,ty,h1,h2,h3⟩,h4⟩:=h;exact ⟨⟨cur,ty,(hk.block g (cA h1) hF).trans h1,h2,h3⟩,h4⟩
theorem ML.lt (h:ML w g off c N l):g<w.heap.size:=by obtain ⟨⟨cur,ty,h1,_⟩,_⟩:=h; exact cA h1
theorem ML.cells (h:ML w g off c N l) (j:Nat) (u:Value) (hu:(PG l)[j]?=some u):w.cell? ⟨g,off + j,none⟩=some u:=by
 obtain ⟨⟨cur,ty,h1,h2,ug,h3⟩,h4⟩:=h;rw [cell_of_row w g (off + j) cur _ (0,0) h1];rw [<- h3,yy] at hu;split at hu
 ·rw [yu] at hu; simpa using hu
 ·cases hu
theorem ML.drop (h:ML w g off c N l) {k:Nat} (hk:k<=l.length):ML w g (if c=k then off else off + k * 13) (c - k) N (l.drop k):=by
 obtain ⟨⟨cur,ty,h1,h2,ug,h3⟩,h4⟩:=h;have h6:=rL l k;refine ⟨⟨cur,ty,h1,h2,?_,?_⟩,by rw [yC]; omega⟩
 ·split <;> omega
 ·rw [yC,<- h6,<- h3];split
  ·rename_i e;have:l.length=k:=by omega
   rw [this,Nat.sub_self,Nat.zero_mul,List.take_zero,yn (by rw [ym]; omega)]
  ·rw [<- List.drop_drop,List.drop_take,Nat.sub_mul]
theorem ML.take (h:ML w g off c N l) {k:Nat} (hk:k<=l.length):ML w g off c N (l.take k):=by
 obtain ⟨⟨cur,ty,h1,h2,ug,h3⟩,h4⟩:=h;refine ⟨⟨cur,ty,h1,h2,ug,?_⟩,by rw [ym]; omega⟩;rw [<- IP,<- h3,List.take_take,ym,yU hk,yU (by omega)]
end
theorem ML.app {w:World} {g off c:Nat} {l r:List tL} {cur:Array Value} {ty:TypeId} (hg:w.heap[g]?=some (.cells cur ty (0,0))) (h2:off + c * 13<=cur.size) (h3:(cur.toList.drop off).take (l.length * 13)=PG l) (ga:l.length + r.length<=c) :
  ML (w.setRow g (cur.toList.take (off + l.length * 13)++PG r++cur.toList.drop (off + l.length * 13 + (PG r).length)).toArray) g off c cur.size (l++r):=by
 have hr:=RD r;have al:cur.toList.length=cur.size:=by simp
 refine ⟨⟨_,_,setRow_heap w g cur _ _ _ hg,?_,h2,?_⟩,by rw [yb]; exact ga⟩
 ·simp only [yO,yb,ym,yC,yP,hr];omega
 ·have ht:(cur.toList.take (off + l.length * 13)).length=off + l.length * 13:=by rw [ym]; omega
  have e1:(cur.toList.take (off + l.length * 13)).drop off=PG l:=by rw [List.drop_take,Nat.add_sub_cancel_left,h3]
  simp only;rw [yo,List.drop_append_of_le_length (by omega),e1,eL,yb,yK,<- RD l,<- hr,<- yo,<- yb];exact List.take_left
theorem ML.clear {w:World} {g off c N:Nat} {l:List tL} (h:ML w g off c N l) (ty:TypeId) (n m:Nat) (hn:l.length + n<=c) :
  ∃ w',(Builtin.clear_ #[66] ty #[.slice (some ⟨g,off + l.length * 13,none⟩) n m]).run Tryz.prog w=.ok (.tuple #[]) w'/\ML w' g off c N l/\ZA (fun b=>b=g) w w':=by
 obtain ⟨⟨cur,t0,h1,h2,ug,h3⟩,h4⟩:=h;have ii:∀ u∈myZ.cells.toList,u.oneCell'=true:=fun u hu=>y8.1 (show myZ.cells.toList.all (fun u=>u.oneCell')=true by rfl) u hu
 have ti:myZ.cells.size=13:=rfl;obtain ⟨w',ua,r1,r2,r3,r4,r5⟩:=C1 (P:=Tryz.prog) w 66 48 t0 ty _ myu (myzv w) ii g (off + l.length * 13) n m cur h1 (by rw [ti]; omega);refine ⟨w',r1,⟨⟨ua,_,r2,by omega,ug,?_⟩,h4⟩,r5⟩;have e:∀ L:List Value,(L.drop off).take (l.length * 13)=(L.take (off + l.length * 13)).drop off:=fun L=>by rw [List.drop_take,Nat.add_sub_cancel_left]
 rw [e,r4,<- e,h3]
theorem U4 (w:World) (ty t0:TypeId) (g off dLen dCap:Nat) (a:Addr) (sLen sCap:Nat) (L:List Value) (cs:List Value)
  (hg:w.heap[g]?=some (.cells L.toArray t0 (0,0))) (hn:cs.length=Nat.min sLen dLen * 13) (lv:∀ j v,cs[j]?=some v->w.cell? (a.add j)=some v) (zh:off + cs.length<=L.length) (h1:∀ v∈cs,v.oneCell'=true) :
  (Builtin.copy_ #[66,66] ty #[.slice (some ⟨g,off,none⟩) dLen dCap,.slice (some a) sLen sCap]).run Tryz.prog w=.ok (goInt (Nat.min sLen dLen:Nat)) (w.setRow g (lay L off cs).toArray):=by
 have:=copy_at (P:=Tryz.prog) w 66 66 ty 48 13 myu mysz g off dLen dCap a sLen sCap L.toArray t0 cs hg hn lv (by simpa using zh) h1;exact this
theorem ML.list {w:World} {g off c N:Nat} {l:List tL} (h:ML w g off c N l):∃ (L:List Value) (ty:TypeId),w.heap[g]?=some (.cells L.toArray ty (0,0))/\L.length=N/\off + c * 13<=L.length/\∀ j,j<l.length * 13->L[off + j]?=(PG l)[j]?:=by
 obtain ⟨⟨cur,ty,h1,h2,ug,h3⟩,h4⟩:=h;refine ⟨cur.toList,ty,h1,by simpa using h2,by rw [yP]; omega,fun j hj=>?_⟩;rw [<- h3,yy,if_pos hj,yu]
theorem ML.of_list {w:World} {g off c:Nat} {l:List tL} {L:List Value} {ty:TypeId} (h1:w.heap[g]?=some (.cells L.toArray ty (0,0))) (h2:off + c * 13<=L.length) (h3:∀ j,j<l.length * 13->L[off + j]?=(PG l)[j]?) (h4:l.length<=c):ML w g off c L.length l:=by
 refine ⟨⟨_,_,h1,by simp,h2,?_⟩,h4⟩;apply List.ext_getElem?;intro j;rw [yy];split
 ·rename_i hj;rw [yu];exact h3 j hj
 ·rename_i hj;rw [Y07 (by rw [RD]; omega)]
theorem myC_ins (l:List tL) (x:tL) (i j:Nat) (hi:i<=l.length):(PG (l.take i++x :: l.drop i))[j]?=if j<i * 13 then (PG l)[j]? else if j<i * 13 + 13 then x.cells[j - i * 13]? else (PG l)[j - 13]?:=by
 have ht:(PG (l.take i)).length=i * 13:=by rw [RD,ym,yU hi]
 have hx:=x.len;rw [eL,CM];split
 ·rw [yL (by omega),<- IP,yy,if_pos (by omega)]
 ·split
  ·rw [yE (by omega),ht,yL (by omega)]
  ·rw [yE (by omega),ht,yE (by omega),hx,<- rL,yu];congr 1; omega
theorem ML.ins {w:World} {g off c:Nat} {l:List tL} {x:tL} {L:List Value} {i:Nat} {ty:TypeId} (hi:i<=l.length) (hL:off + c * 13<=L.length) (hc:∀ j,j<l.length * 13->L[off + j]?=(PG l)[j]?) (ga:l.length + 1<=c) (hg:w.heap[g]?=some (.cells (lay (lay L (off + (i + 1) * 13) (PG (l.drop i))) (off + i * 13) x.cells).toArray ty (0,0))) :
  ML w g off c L.length (l.take i++x :: l.drop i):=by
 have hx:=x.len;have hd:(PG (l.drop i)).length=(l.length - i) * 13:=by rw [RD,yC]
 have da:(l.take i++x :: l.drop i).length=l.length + 1:=by simp; omega
 have h1:off + (i + 1) * 13 + (PG (l.drop i)).length<=L.length:=by omega
 have uf:=QH h1;have h2:off + i * 13 + x.cells.length<=(lay L (off + (i + 1) * 13) (PG (l.drop i))).length:=by rw [uf,hx]; omega
 have rm:=QH h2;have:=ML.of_list hg (c:=c) (off:=off) (l:=l.take i++x :: l.drop i) (by rw [rm,uf]; exact hL) (fun j hj=>?_) (by omega)
 ·rwa [rm,uf] at this
 rw [da] at hj;rw [myC_ins l x i j hi,NL _ _ _ _ h2,NL _ _ _ _ h1,hx,hd];by_cases c1:j<i * 13
 ·rw [if_pos c1,if_neg (by omega),if_neg (by omega)];exact hc j (by omega)
 ·rw [if_neg c1];by_cases c2:j<i * 13 + 13
  ·rw [if_pos c2,if_pos (by omega)];congr 1; omega
  ·rw [if_neg c2,if_neg (by omega),if_pos (by omega),<- rL,yu];congr 1; omega
theorem ML.ins2 {w:World} {g c:Nat} {l:List tL} {x:tL} {L:List Value} {i:Nat} {ty:TypeId} (hi:i<=l.length) (hL:c * 13<=L.length) (hc:∀ j,j<i * 13->L[j]?=(PG l)[j]?) (ga:l.length + 1<=c) (hg:w.heap[g]?=some (.cells (lay (lay L (i * 13) x.cells) ((i + 1) * 13) (PG (l.drop i))).toArray ty (0,0))) :
  ML w g 0 c L.length (l.take i++x :: l.drop i):=by
 have hx:=x.len;have hd:(PG (l.drop i)).length=(l.length - i) * 13:=by rw [RD,yC]
 have da:(l.take i++x :: l.drop i).length=l.length + 1:=by simp; omega
 have h1:i * 13 + x.cells.length<=L.length:=by omega
 have uf:=QH h1;have h2:(i + 1) * 13 + (PG (l.drop i)).length<=(lay L (i * 13) x.cells).length:=by rw [uf,hd]; omega
 have rm:=QH h2;have:=ML.of_list hg (c:=c) (off:=0) (l:=l.take i++x :: l.drop i) (by rw [rm,uf]; omega) (fun j hj=>?_) (by omega)
 ·rwa [rm,uf] at this
 rw [da] at hj;rw [yr,myC_ins l x i j hi,NL _ _ _ _ h2,NL _ _ _ _ h1,hx,hd];by_cases c1:j<i * 13
 ·rw [if_pos c1,if_neg (by omega),if_neg (by omega)];exact hc j c1
 ·rw [if_neg c1];by_cases c2:j<i * 13 + 13
  ·rw [if_pos c2,if_neg (by omega),if_pos (by omega)]
  ·rw [if_neg c2,if_pos (by omega),<- rL,yu];congr 1; omega
end
section
open Go Go.RowKit
def myCut (g off N:Nat) (w:World) (l:List tL) (e:Ending) (w':World):Prop:=∃ c,e=.returned (.slice (some ⟨g,off,none⟩) l.length c)/\ML w' g off c N l/\ZA (fun b=>b=g) w w'
set_option maxHeartbeats 400000 in
theorem mydelete (g off c N:Nat) (l:List tL) (n i:Nat) (w:World) (hn:l.length=n) (hi:i<n) (da:n<=1000) (h:ML w g off c N l) :
  Calls Tryz.prog 69 #[.slice (some ⟨g,off,none⟩) n c,.int .i64 i,.int .i64 ((i:Int) + 1)] w (myCut g off N w (l.eraseIdx i)):=by
 have ff:n<=c:=by have:=h.len; omega
 have za:((i:Int) == (i:Int) + 1)=false:=by simp; omega
 obtain ⟨⟨cur,t0,hg,hN,oc,hc3⟩,_⟩:=h.take (k:=i) (by omega);have so:(l.take i).length=i:=by rw [ym]; omega
 have pg:(l.drop (i + 1)).length=n - (i + 1):=by rw [yC,hn]
 have hd:=h.drop (k:=i + 1) (by omega);obtain ⟨to,kw⟩:∃ to:Nat,to=(if c=i + 1 then off else off + (i + 1) * 13):=⟨_,rfl⟩;rw [<- kw] at hd;have htA:(if c=i + 1 then some (⟨g,off,none⟩:Addr) else (some (⟨g,off,none⟩:Addr)).map (·.add ((i + 1) * 13)))=some ⟨g,to,none⟩:=by
  rw [kw]; split <;> simp [Addr.add_lit]
 have pf:=myhi (some ⟨g,off,none⟩) n c i (by omega);have eo:=O8 (some ⟨g,off,none⟩) n c (i + 1) (by omega);rw [htA] at eo;simp only [Int.natCast_add,Int.cast_ofNat_Int] at eo;obtain ⟨inf,jf,je,eh,gj⟩:=info_parts myi;have hr:=fun ty=>NH (P:=Tryz.prog) w.drew 66 ty 48 inf 13 myu jf eh g off i c cur _ hg ⟨g,to,none⟩ (n - (i + 1)) (c - (i + 1)) (PG (l.drop (i + 1))) (by rw [RD,pg]) (fun j u hu=>by rw [Addr.add_lit]; exact hd.cells j u hu) (sX _) (by omega) (by rw [RD,pg]; omega)
 have hE:=ML.app (w:=w.drew) (c:=c) (off:=off) (l:=l.take i) (r:=l.drop (i + 1)) hg (by omega) hc3 (by rw [so,pg]; omega);rw [so,hN] at hE;obtain ⟨w1,wl⟩:∃ w1,w1=w.drew.setRow g (cur.toList.take (off + i * 13)++PG (l.drop (i + 1))++cur.toList.drop (off + i * 13 + (PG (l.drop (i + 1))).length)).toArray:=⟨_,rfl⟩;have ge:ZA (fun b=>b=g) w w1:=by rw [wl]; exact ((ZA.refl (fun b=>b=g) w).drew).setRow (fun _=>rfl) _
 rw [<- wl] at hE;simp only [<- wl] at hr;clear wl kw hd hg hN oc hc3 htA;have HE:=dN hE;have HK:=dN ge;have HT:=dN so;have HD:=dN pg;have HN:=dN hn;clear h hE ge so pg hn
 go_enter Tryz.func69,Tryz.ntmps69
 go_wp2_with fail
 go_region_held3 (fun _=>True) (trivial) (refine KT rfl _ _ _ _ rfl _ _ rfl rfl (hr _) ?_)
 have ge:i + (n - (i + 1)) + 1=n:=by omega
 have ec:(l.take i++l.drop (i + 1)).length=i + (n - (i + 1)):=by rw [yb,HT.out,HD.out]
 have gb:l.eraseIdx i=l.take i++l.drop (i + 1):=List.eraseIdx_eq_take_drop_succ l i;generalize i + (n - (i + 1))=k at *
 generalize l.take i++l.drop (i + 1)=l' at *
 subst ec;have sr:=mylh (some ⟨g,off,none⟩) l'.length c l'.length n (by omega) (by omega);rw [if_neg (by omega),yt,Addr.add_lit] at sr;obtain ⟨w2,hclr,ho2,nu⟩:=HE.out.clear 0 (n - l'.length) (c - l'.length) (by omega);have HO2:=dN ho2;have HEL:=dN gb;clear ho2 gb pf eo hr HE HT HD HN
 go_wp2_with fail
 go_ret
 rw [HEL.out];exact ⟨c,rfl,HO2.out,HK.out.trans nu (fun _ _ h=>h)⟩
end
section
open Go Go.RowKit
def myIns (w:World) (v:Value) (l:List tL) (e:Ending) (w':World):Prop:=∃ g c N,e=.returned (.slice (some ⟨g,0,none⟩) l.length c)/\ML w' g 0 c N l/\ZA (fun b=>qO v=some b) w w'/\(w.heap.size<=g\/qO v=some g/\∃ cur ty,w.heap[g]?=some (.cells cur ty (0,0))/\cur.size=N)
def JO (w:World) (vb vo:Nat) (x:tL):Prop:=∀ (j:Nat) (u:Value),x.cells[j]?=some u->w.cell? ⟨vb,vo + j,none⟩=some u
theorem JO.congr {w w':World} {vb vo:Nat} {x:tL} (h:JO w vb vo x) (he:w'.heap[vb]?=w.heap[vb]?):JO w' vb vo x:=fun j u hu=>by
 have:=h j u hu;unfold World.cell? at this ⊢;simp only [he];exact this
theorem JO.first {w:World} {vb vo:Nat} {x:tL} (h:JO w vb vo x):∃ u,w.cell? ⟨vb,vo,none⟩=some u:=by
 have hl:=x.len;obtain ⟨u,hu⟩:∃ u,x.cells[0]?=some u:=⟨_,yg (by omega)⟩;exact ⟨u,h 0 u hu⟩
theorem JO.lt {w:World} {vb vo:Nat} {x:tL} (h:JO w vb vo x):vb<w.heap.size:=by
 obtain ⟨u,hu⟩:=h.first;obtain ⟨c,ty,fz,hc,_⟩:=cN hu;exact cA hc
theorem myapp1 (w:World) (ty:TypeId) (v:Value) (l:List tL) (x:tL) (vb vo mc:Nat) (h:myO w v l) (hx:JO w vb vo x) (da:l.length<=900) :
  ∃ v' w',(Builtin.append_ #[66,66] ty #[v,.slice (some ⟨vb,vo,none⟩) 1 mc]).run Tryz.prog w=.ok v' w'/\myIns w v (l++[x]) (.returned v') w':=by
 obtain ⟨inf,jf,je,eh,gj⟩:=info_parts myi;have zb:∀ j u,(PG [x])[j]?=some u->w.cell? ((⟨vb,vo,none⟩:Addr).add j)=some u:=fun j u hu=>by
  rw [Addr.add_lit];exact hx j u (by simpa [PG] using hu)
 rcases h with ⟨rfl,rfl⟩ | ⟨g,c,N,rfl,hE⟩
 ·obtain ⟨cap,ua,g1,g2,g3,g4,hr⟩:=eF (P:=Tryz.prog) w 66 ty 48 inf _ 13 160 myu jf je eh gj rfl none 0 0 [] rfl (fun h0=>absurd h0 (by omega)) (fun _=>⟨rfl,rfl⟩) ⟨vb,vo,none⟩ 1 mc (PG [x]) (RD _) zb (by omega) (yf _) (by omega) (by omega);refine ⟨_,_,hr,w.heap.size,cap,ua.size,rfl,⟨⟨ua,_,heap_alloc_new w.drew _,rfl,by omega,?_⟩,g1⟩,ZA.of_below (qQ ((Below.refl _ _).alloc (yf _) _)) _,.inl (yf _)⟩;rw [yY];exact g4
 ·have hc:=hE.len;by_cases ga:l.length + 1<=c
  ·obtain ⟨⟨cur,t0,h1,hN,h2,h3⟩,h4⟩:=hE;have hr:=NH (P:=Tryz.prog) w 66 ty 48 inf 13 myu jf eh g 0 l.length c cur _ h1 ⟨vb,vo,none⟩ 1 mc (PG [x]) (RD _) zb (sX _) ga (by rw [RD]; simp; omega);have hE:=ML.app (c:=c) (off:=0) (l:=l) (r:=[x]) h1 (by omega) h3 ga;rw [hN] at hE;exact ⟨_,_,hr,g,c,N,by rw [yb]; rfl,hE,(ZA.refl (fun b=>qO (.slice (some ⟨g,0,none⟩) l.length c)=some b) w).setRow (fun _=>rfl) _,.inr ⟨rfl,cur,t0,h1,hN⟩⟩
  ·obtain ⟨cap,ua,g1,g2,g3,g4,hr⟩:=eF (P:=Tryz.prog) w 66 ty 48 inf _ 13 160 myu jf je eh gj rfl (some ⟨g,0,none⟩) l.length c (PG l) (RD l) (fun h0=>⟨_,rfl,fun j u hu=>by rw [Addr.add_lit]; exact hE.cells j u hu⟩) (fun hA=>nomatch hA) ⟨vb,vo,none⟩ 1 mc (PG [x]) (RD _) zb (by omega) hc (by omega) (by omega);refine ⟨_,_,hr,w.heap.size,cap,ua.size,by rw [yb]; rfl,⟨⟨ua,_,heap_alloc_new w.drew _,rfl,by omega,?_⟩,by rw [yb]; exact g1⟩,ZA.of_below (qQ ((Below.refl _ _).alloc (yf _) _)) _,.inl (yf _)⟩;rw [yY,yb,eL];exact g4
theorem myO.shape {w:World} {v:Value} {l:List tL} (h:myO w v l):∃ A c,v=.slice A l.length c/\l.length<=c/\(A=none->c=0):=by
 rcases h with ⟨rfl,rfl⟩ | ⟨g,c,N,rfl,h⟩
 ·exact ⟨none,0,rfl,yf _,fun _=>rfl⟩
 ·exact ⟨_,c,rfl,h.len,fun h=>by cases h⟩
set_option maxHeartbeats 1000000 in
theorem myendG (A:Option Addr) (n c vb vo mc:Nat) (w:World) (hc:n<=c) (da:n<=900) {v':Value} {w':World} (hr:(Builtin.append_ #[66,66] 66 #[.slice A n c,.slice (some ⟨vb,vo,none⟩) 1 mc]).run Tryz.prog w=.ok v' w') :
  Calls Tryz.prog 68 #[.slice A n c,.int .i64 n,.slice (some ⟨vb,vo,none⟩) 1 mc] w fun e w2=>e=.returned v'/\w2=w':=by
 have pf:=O8 A n c n (yf _);generalize ut:(if c=n then A else A.map (·.add (n * 13)))=A1 at pf;clear ut
 go_enter Tryz.func68,Tryz.ntmps68
 go_wp2_with (at_builtin; refine nI _ rfl _ _ _ _ rfl _ _ rfl rfl hr ?_)
 go_ret
 exact ⟨rfl,rfl⟩
theorem myend (v:Value) (l:List tL) (x:tL) (n vb vo mc:Nat) (w:World) (hn:l.length=n) (h:myO w v l) (hx:JO w vb vo x) (da:n<=900) :
  Calls Tryz.prog 68 #[v,.int .i64 n,.slice (some ⟨vb,vo,none⟩) 1 mc] w (myIns w v (l++[x])):=by
 obtain ⟨v',w',hr,h1⟩:=myapp1 w 66 v l x vb vo mc h hx (by omega);obtain ⟨A,c,hv,hc,tk⟩:=h.shape;rw [hn] at hv hc;subst hv;refine (myendG A n c vb vo mc w hc da hr).mono ?_;rintro e w2 ⟨rfl,rfl⟩;exact h1
theorem myend0 (A:Option Addr) (x:tL) (vb vo mc:Nat) (w:World) (hx:JO w vb vo x) :
  Calls Tryz.prog 68 #[.slice A 0 0,.int .i64 0,.slice (some ⟨vb,vo,none⟩) 1 mc] w fun e w'=>∃ g c N,e=.returned (.slice (some ⟨g,0,none⟩) 1 c)/\ML w' g 0 c N [x]/\ZA (fun _=>False) w w'/\w.heap.size<=g:=by
 obtain ⟨inf,jf,je,eh,gj⟩:=info_parts myi;have zb:∀ j u,(PG [x])[j]?=some u->w.cell? ((⟨vb,vo,none⟩:Addr).add j)=some u:=fun j u hu=>by
  rw [Addr.add_lit];exact hx j u (by simpa [PG] using hu)
 obtain ⟨cap,ua,g1,g2,g3,g4,hr⟩:=eF (P:=Tryz.prog) w 66 66 48 inf _ 13 160 myu jf je eh gj rfl A 0 0 [] rfl (fun h0=>absurd h0 (by omega)) (fun _=>⟨rfl,rfl⟩) ⟨vb,vo,none⟩ 1 mc (PG [x]) (RD _) zb (by omega) (yf _) (by omega) (by omega);refine (myendG A 0 0 vb vo mc w (yf _) (by omega) hr).mono ?_;rintro e w2 ⟨rfl,rfl⟩;refine ⟨w.heap.size,cap,ua.size,rfl,⟨⟨ua,_,heap_alloc_new w.drew _,rfl,by omega,?_⟩,g1⟩,ZA.of_below (qQ ((Below.refl _ _).alloc (yf _) _)) _,yf _⟩;rw [yY];exact g4
set_option maxHeartbeats 1000000 in
theorem myshift (g c N vb vo mc:Nat) (l:List tL) (x:tL) (n i:Nat) (w:World) (hn:l.length=n) (hi:i<n) (da:n<=1000) (h:ML w g 0 c N l) (ga:n + 1<=c) (hx:JO w vb vo x) (za:vb≠g) :
  Calls Tryz.prog 68 #[.slice (some ⟨g,0,none⟩) n c,.int .i64 i,.slice (some ⟨vb,vo,none⟩) 1 mc] w fun e w'=>e=.returned (.slice (some ⟨g,0,none⟩) (n + 1) c)/\ML w' g 0 c N (l.take i++x :: l.drop i)/\ZA (fun b=>b=g) w w':=by
 have uz:=h.lt;have ak:=h.drop (k:=i) (by omega);obtain ⟨L,t0,tq,hLN,jz,hL3⟩:=h.list;obtain ⟨u0,hu0⟩:=hx.first;have hov:∀ lb cb,(callFunc 107 #[.slice (some ⟨vb,vo,none⟩) 1 mc,.slice (some ⟨g,(i + 1) * 13,none⟩) lb cb]).run Tryz.prog w=.ok (.value (.bool false)) w:=fun lb cb=>by
  rw [run_callFunc_extern (P:=Tryz.prog) (e:=Extern.SlicesOverlaps.overlaps #[66,66] #[4]) Tryz.func107 (by kernel_rfl) (by kernel_rfl) (by kernel_rfl) (by kernel_rfl),
   GP w 66 4 48 myu 13 mysiz ⟨vb,vo,none⟩ ⟨g,(i + 1) * 13,none⟩ 1 mc lb cb za u0 hu0 L.toArray t0 tq (by rw [yO]; omega)]
  rfl
 have gj:¬ ((i:Int)=(n:Int)):=by omega
 have mixed:Tryz.prog.follows .mixedOrders=true:=by kernel_rfl
 have pg:(l.drop i).length=n - i:=by rw [yC,hn]
 have wl:IntKind.i64.wrap ((i:Int) + 1)=(i:Int) + 1:=IntWalk.i64_in _ (by omega);have hw2:IntKind.i64.wrap ((n:Int) + 1)=(n:Int) + 1:=IntWalk.i64_in _ (by omega);have hA:∀ k,k<c->(if c=k then some (⟨g,0,none⟩:Addr) else (some (⟨g,0,none⟩:Addr)).map (·.add (k * 13)))=some ⟨g,k * 13,none⟩:=fun k hk=>by rw [if_neg (by omega)]; simp [Addr.add_lit]
 have pf:=O8 (some ⟨g,0,none⟩) n c i (by omega);have eo:=myhi (some ⟨g,0,none⟩) n c (n + 1) (by omega);have sr:=O8 (some ⟨g,0,none⟩) (n + 1) c (i + 1) (by omega);have hs4:=O8 (some ⟨g,0,none⟩) (n + 1) c i (by omega);rw [hA i (by omega)] at pf hs4;rw [hA (i + 1) (by omega)] at sr;rw [Nat.add_sub_add_right] at sr;simp only [Int.natCast_add,Int.cast_ofNat_Int] at eo sr;have xh:∀ ty dc sc,(Builtin.copy_ #[66,66] ty #[.slice (some ⟨g,(i + 1) * 13,none⟩) (n - i) dc,.slice (some ⟨g,i * 13,none⟩) (n + 1 - i) sc]).run Tryz.prog w.drew=.ok (goInt (Nat.min (n + 1 - i) (n - i):Nat)) (w.drew.setRow g (lay L ((i + 1) * 13) (PG (l.drop i))).toArray):=fun ty dc sc =>
  U4 w.drew ty t0 g ((i + 1) * 13) (n - i) dc ⟨g,i * 13,none⟩ (n + 1 - i) sc L (PG (l.drop i)) tq (by rw [RD,pg]; congr 1; simp only [Nat.min_def]; split <;> omega)
   (fun j v hj=>by
    have:=h.cells (i * 13 + j) v (by rw [<- rL,yu] at hj; exact hj);rw [Addr.add_lit]
    rwa [yr] at this) (by rw [RD,pg]; omega) (sX _)
 have uo:=x.len;have h1l:(i + 1) * 13 + (PG (l.drop i)).length<=L.length:=by rw [RD,pg]; omega
 obtain ⟨L1,cf⟩:∃ L1,L1=lay L ((i + 1) * 13) (PG (l.drop i)):=⟨_,rfl⟩;have iz:L1.length=L.length:=by rw [cf]; exact QH h1l
 rw [<- cf] at xh;obtain ⟨W1,uk⟩:∃ W1,W1=w.drew.setRow g L1.toArray:=⟨_,rfl⟩;have wg:W1.heap[g]?=some (.cells L1.toArray t0 (0,0)):=by rw [uk]; exact setRow_heap w.drew g _ _ _ _ tq
 have xt:JO W1 vb vo x:=hx.congr (by rw [uk,setRow_other _ _ _ _ za]; rfl);have ge:ZA (fun b=>b=g) w W1:=by rw [uk]; exact ((ZA.refl (fun b=>b=g) w).drew).setRow (fun _=>rfl) _
 have im:∀ ty dc,(Builtin.copy_ #[66,66] ty #[.slice (some ⟨g,i * 13,none⟩) (n + 1 - i) dc,.slice (some ⟨vb,vo,none⟩) 1 mc]).run Tryz.prog W1=.ok (goInt (Nat.min 1 (n + 1 - i):Nat)) (W1.setRow g (lay L1 (i * 13) x.cells).toArray):=fun ty dc =>
  U4 W1 ty t0 g (i * 13) (n + 1 - i) dc ⟨vb,vo,none⟩ 1 mc L1 x.cells wg (by rw [uo]; simp only [Nat.min_def]; split <;> omega) (fun j v hj=>by rw [Addr.add_lit]; exact xt j v hj) (by omega) x.one
 rw [<- uk] at xh;have hE:ML (W1.setRow g (lay L1 (i * 13) x.cells).toArray) g 0 c L.length (l.take i++x :: l.drop i):=ML.ins (c:=c) (off:=0) (l:=l) (i:=i) (L:=L) (by omega) jz hL3 (by omega) (by rw [yr,yr,<- cf]; exact setRow_heap W1 g _ _ _ _ wg);rw [hLN] at hE;have HE:=dN hE;have HK:=dN ge;clear hE ge h tq jz hL3 hLN wg xt uk cf hx ak hu0
 go_enter Tryz.func68,Tryz.ntmps68
 go_wp2_with (simp only [hov])
 go_region_law_o (refine jJ rfl _ _ 66 66 rfl _ _ (by simp [Act.eval,Act.put]) (by simp [Act.eval,Act.put]) (xh _ _ _) ?_)
 go_wp2_with (at_builtin; refine TH _ rfl _ _ 66 66 rfl _ _ rfl rfl (im _ _) ?_)
 go_ret
 exact ⟨rfl,HE.out,HK.out.setRow (fun _=>rfl) _⟩
theorem myu3:Tryz.prog.underlying 3=some (.int .i64):=by kernel_rfl
set_option maxHeartbeats 1000000 in
theorem mygrow (g c N vb vo mc:Nat) (l:List tL) (x:tL) (n i:Nat) (w:World) (hn:l.length=n) (hi:i<n) (da:n<=900) (h:ML w g 0 c N l) (ga:¬ n + 1<=c) (hx:JO w vb vo x) :
  Calls Tryz.prog 68 #[.slice (some ⟨g,0,none⟩) n c,.int .i64 i,.slice (some ⟨vb,vo,none⟩) 1 mc] w (myIns w (.slice (some ⟨g,0,none⟩) n c) (l.take i++x :: l.drop i)):=by
 have ff:n<=c:=by have:=h.len; omega
 have uz:=h.lt;have dr:=hx.lt;obtain ⟨inf,jf,je,eh,gj⟩:=info_parts myi;have hz2':¬ ((i:Int)=(n:Int)):=by omega
 have mixed:Tryz.prog.follows .mixedOrders=true:=by kernel_rfl
 have pg:(l.drop i).length=n - i:=by rw [yC,hn]
 have so:(l.take i).length=i:=by rw [ym]; omega
 have wl:IntKind.i64.wrap ((i:Int) + 1)=(i:Int) + 1:=IntWalk.i64_in _ (by omega);have hw2:IntKind.i64.wrap ((n:Int) + 1)=(n:Int) + 1:=IntWalk.i64_in _ (by omega);have hw3:IntKind.i64.wrap ((n:Int) + 1 - (i:Int))=((n + 1 - i:Nat):Int):=by rw [IntWalk.i64_in _ (by omega)]; omega
 have pf:=O8 (some ⟨g,0,none⟩) n c i (by omega);rw [if_neg (by omega),yt,Addr.add_lit,yr] at pf;have eo:=myhi (some ⟨g,0,none⟩) n c i (by omega);have ak:=h.take (k:=i) (by omega);have hfo:=run_firstCells_some (P:=Tryz.prog) w.drew inf.size i ⟨g,0,none⟩ i c (PG (l.take i)) (by rw [RD,so,eh]) (fun j u hu=>by rw [Addr.add_lit]; exact ak.cells j u hu);have bz:Builtin.nextslicecap (i + (n + 1 - i)) c * inf.bytes<=281474976710656:=by
  have h1:Builtin.nextslicecap (i + (n + 1 - i)) c<=2 * (i + (n + 1 - i)):=nextslicecap_le (by omega);rw [gj];omega
 have ju:=fun ty=>Lib.run_append_grow_zeros (P:=Tryz.prog) w 66 3 ty 48 inf _ .i64 .i64 myu myu3 jf je (some ⟨g,0,none⟩) i c (PG (l.take i)) hfo (n + 1 - i) (by omega) (by omega) (by omega) (by omega) (by rw [gj]; omega) bz
 have e1:i + (n + 1 - i)=n + 1:=by omega
 rw [e1] at ju bz;have hcg:=grownCap_ge w (n + 1) c 48;have aw:=grownCap_le_maxLen w (n + 1) c 48 (by have:maxLen=9223372036854775807:=rfl; omega);generalize grownCap w (n + 1) c 48=cap at ju hcg aw;obtain ⟨L,hL⟩:∃ L:List Value,((PG (l.take i)).toArray++Builtin.zeroCells myZ.cells (n + 1 - i)++Builtin.zeroCells myZ.cells (cap - (n + 1)))=L.toArray:=⟨_,rfl⟩;have hLl:L.length=cap * 13:=by
  have:=congrArg Array.size hL;simp only [Array.size_append,size_zeroCells,yO,RD,so] at this;have h5:myZ.cells.size=13:=rfl;rw [h5] at this;omega
 have hLc:∀ j,j<i * 13->L[j]?=(PG l)[j]?:=fun j hj=>by
  have h1:L[j]?=(L.toArray)[j]?:=by simp
  rw [h1,<- hL,Array.append_assoc,Array.getElem?_append_left (by simp [RD,so]; omega)];simp only [List.getElem?_toArray];rw [<- IP,yy,if_pos hj]
 rw [hL] at ju;clear hL;have uo:=x.len;have hsG:∀ k,k<cap->∀ W,(Instr.slice 66 (.slice (some ⟨w.heap.size,0,none⟩) (n + 1) cap) (some (.int .i64 (k:Int))) none none).run Tryz.prog W=(if k<=n + 1 then .ok (.slice (some ⟨w.heap.size,k * 13,none⟩) (n + 1 - k) (cap - k)) W else (Instr.slice 66 (.slice (some ⟨w.heap.size,0,none⟩) (n + 1) cap) (some (.int .i64 (k:Int))) none none).run Tryz.prog W):=fun k hk W=>by
  split
  ·rename_i h;have:=O8 (some ⟨w.heap.size,0,none⟩) (n + 1) cap k h W;rw [if_neg (by omega),yt,Addr.add_lit,yr] at this;exact this
  ·rfl
 have sr:=fun W=>(hsG i (by omega) W).trans (by rw [if_pos (by omega)])
 have hs4:=fun W=>(hsG (i + 1) (by omega) W).trans (by rw [if_pos (by omega)])
 simp only [Nat.add_sub_add_right,Int.natCast_add,Int.cast_ofNat_Int] at hs4;clear hsG;obtain ⟨W0,gx⟩:∃ W0,W0=w.drew.alloc (.cells L.toArray 48):=⟨_,rfl⟩;have xp:W0.heap[w.heap.size]?=some (.cells L.toArray 48 (0,0)):=by rw [gx]; exact heap_alloc_new w.drew _
 have ze:Below w.heap.size w W0:=by rw [gx]; exact qQ ((Below.refl _ _).alloc (yf _) _)
 rw [<- gx] at ju;have wt:JO W0 vb vo x:=hx.congr (ze.block vb dr);have xh:∀ ty dc,(Builtin.copy_ #[66,66] ty #[.slice (some ⟨w.heap.size,i * 13,none⟩) (n + 1 - i) dc,.slice (some ⟨vb,vo,none⟩) 1 mc]).run Tryz.prog W0=.ok (goInt (Nat.min 1 (n + 1 - i):Nat)) (W0.setRow w.heap.size (lay L (i * 13) x.cells).toArray):=fun ty dc =>
  U4 W0 ty _ w.heap.size (i * 13) (n + 1 - i) dc ⟨vb,vo,none⟩ 1 mc L x.cells xp (by rw [uo]; simp only [Nat.min_def]; split <;> omega) (fun j v hj=>by rw [Addr.add_lit]; exact wt j v hj) (by omega) x.one
 have h1l:i * 13 + x.cells.length<=L.length:=by omega
 obtain ⟨L1,cf⟩:∃ L1,L1=lay L (i * 13) x.cells:=⟨_,rfl⟩;have iz:L1.length=L.length:=by rw [cf]; exact QH h1l
 obtain ⟨W1,uk⟩:∃ W1,W1=W0.setRow w.heap.size L1.toArray:=⟨_,rfl⟩;rw [<- cf,<- uk] at xh;have wg:W1.heap[w.heap.size]?=some (.cells L1.toArray 48 (0,0)):=by rw [uk]; exact setRow_heap W0 w.heap.size _ _ _ _ xp
 have ge:Below w.heap.size w W1:=by rw [uk]; exact ze.trans ⟨rfl,rfl,rfl,by simp,fun k hk=>setRow_other W0 w.heap.size k _ (by omega)⟩
 have cz:=(h.drop (k:=i) (by omega)).keep (ZA.of_below ge (fun _=>False)) (fun h=>h);rw [if_neg (by omega),yr] at cz;have im:∀ ty dc sc,(Builtin.copy_ #[66,66] ty #[.slice (some ⟨w.heap.size,(i + 1) * 13,none⟩) (n - i) dc,.slice (some ⟨g,i * 13,none⟩) (n - i) sc]).run Tryz.prog W1.drew=.ok (goInt (Nat.min (n - i) (n - i):Nat)) (W1.drew.setRow w.heap.size (lay L1 ((i + 1) * 13) (PG (l.drop i))).toArray):=fun ty dc sc =>
  U4 W1.drew ty _ w.heap.size ((i + 1) * 13) (n - i) dc ⟨g,i * 13,none⟩ (n - i) sc L1 (PG (l.drop i)) wg (by rw [RD,pg]; congr 1; simp only [Nat.min_def]; split <;> omega)
   (fun j v hj=>by rw [Addr.add_lit]; exact cz.cells j v hj) (by rw [RD,pg]; omega) (sX _)
 obtain ⟨W2,fx⟩:∃ W2,W2=W1.drew.setRow w.heap.size (lay L1 ((i + 1) * 13) (PG (l.drop i))).toArray:=⟨_,rfl⟩;have hE:ML W2 w.heap.size 0 cap L.length (l.take i++x :: l.drop i):=ML.ins2 (c:=cap) (l:=l) (i:=i) (L:=L) (by omega) (by omega) hLc (by omega) (by rw [fx,<- cf]; exact setRow_heap W1.drew w.heap.size _ _ _ _ wg);have nu:Below w.heap.size w W2:=by rw [fx]; exact ge.trans ⟨rfl,rfl,rfl,by simp,fun k hk=>setRow_other W1.drew w.heap.size k _ (by have:=ge.size; omega)⟩
 rw [<- fx] at im;have wb:(l.take i++x :: l.drop i).length=n + 1:=by simp; omega
 have HE:=dN hE;have HK:=dN nu;have HL:=dN wb;clear hE nu ge ze cz h ak hfo xp wt wg gx uk fx cf hx wb hLc
 go_enter Tryz.func68,Tryz.ntmps68
 go_wp2_with (first | (at_builtin; refine nI _ rfl _ _ _ _ rfl _ _ rfl rfl (ju _) ?_) | (at_builtin; refine TH _ rfl _ _ 66 66 rfl _ _ rfl rfl (xh _ _) ?_))
 go_region_law_o (refine jJ rfl _ _ 66 66 rfl _ _ (by simp [Act.eval,Act.put]) (by simp [Act.eval,Act.put]) (im _ _ _) ?_)
 go_wp2_with fail
 go_ret
 exact ⟨w.heap.size,cap,_,congrArg (fun k=>Ending.returned (Value.slice (some ⟨w.heap.size,0,none⟩) k cap)) HL.out.symm,HE.out,ZA.of_below HK.out _,.inl (yf _)⟩
theorem myinsert (v:Value) (l:List tL) (x:tL) (i vb vo mc:Nat) (w:World) (hi:i<=l.length) (h:myO w v l) (hx:JO w vb vo x) (za:qO v≠some vb) (da:l.length<=900) :
  Calls Tryz.prog 68 #[v,.int .i64 i,.slice (some ⟨vb,vo,none⟩) 1 mc] w (myIns w v (l.take i++x :: l.drop i)):=by
 by_cases hn:i=l.length
 ·have:=myend v l x l.length vb vo mc w rfl h hx da;rw [hn,List.take_length,List.drop_length];exact this
 ·rcases h with ⟨rfl,rfl⟩ | ⟨g,c,N,rfl,hE⟩
  ·exact absurd (Nat.le_zero.1 hi) hn
  ·by_cases ga:l.length + 1<=c
   ·obtain ⟨⟨cur,ty,h1,h2,_⟩,_⟩:=id hE;refine (myshift g c N vb vo mc l x l.length i w rfl (by omega) (by omega) hE ga hx (fun h=>za (by rw [h]; rfl))).mono ?_;rintro e w' ⟨rfl,h3,h4⟩;refine ⟨g,c,N,?_,h3,h4.mono fun i _ h=>by subst h; rfl,.inr ⟨rfl,cur,ty,h1,h2⟩⟩;congr 2;simp; omega
   ·exact mygrow g c N vb vo mc l x l.length i w rfl (by omega) da hE ga hx
end
section
open Go Go.RowKit
variable {w w':World}
theorem xM {av:Av}:∀ {xs:List AV} {us:List Value} (k:Nat),rB av w xs us->rB av w (xs.take k) (us.take k)
 | [],_,_,h=>by simp only [rB] at h; subst h; simp [rB]
 | x :: r,_,0,h=>by simp [rB]
 | x :: r,_,k + 1,h=>by
  simp only [rB] at h;obtain ⟨u,db,rfl,h0,h1,h⟩:=h;exact ⟨u,db.take k,rfl,h0,h1,xM k h⟩
theorem lM {av:Av}:∀ {xs:List AV} {us:List Value} (k:Nat),rB av w xs us->rB av w (xs.drop k) (us.drop k)
 | [],_,_,h=>by simp only [rB] at h; subst h; simp [rB]
 | x :: r,_,0,h=>h
 | x :: r,_,k + 1,h=>by
  simp only [rB] at h;obtain ⟨u,db,rfl,h0,h1,h⟩:=h;exact lM k h
theorem XG {z:Nat}:∀ {l:List (List AV)},AA z l=true->l.flatten.length=l.length * z
 | [],_=>by simp
 | c :: l,h=>by
  rw [cB,ye,decide_eq_true_eq] at h;rw [yv,yb,XG h.2,h.1,yA,yK]; omega
theorem NK {z:Nat}:∀ {l:List (List AV)} (k:Nat),AA z l=true->(l.take k).flatten=l.flatten.take (k * z)
 | [],k,_=>by simp
 | c :: l,0,_=>by simp
 | c :: l,k + 1,h=>by
  rw [cB,ye,decide_eq_true_eq] at h;have e:(k + 1) * z=c.length + k * z:=by rw [h.1,yK]; omega
  rw [List.take_succ_cons,yv,yv,NK k h.2,e,List.take_length_add_append]
theorem BK {z:Nat}:∀ {l:List (List AV)} (k:Nat),AA z l=true->(l.drop k).flatten=l.flatten.drop (k * z)
 | [],k,_=>by simp
 | c :: l,0,_=>by simp
 | c :: l,k + 1,h=>by
  rw [cB,ye,decide_eq_true_eq] at h;have e:(k + 1) * z=c.length + k * z:=by rw [h.1,yK]; omega
  rw [List.drop_succ_cons,yv,BK k h.2,e,List.drop_length_add_append]
theorem LM {av:Av} {g0:Nat->Prop} {g:Nat} (hK:ZA g0 w w') (pd:∀ b,g0 b->∀ o,av b o) (hg:w.heap.size<=g\/g0 g):FA av (fun b o=>av b o\/b=g) w w':=by
 refine ⟨fun b o u hc hn=>?_⟩;have ba:b<w.heap.size:=by
  unfold World.cell? at hc;split at hc
  ·rename_i h;exact (Array.getElem?_eq_some_iff.1 h).1
  ·cases hc
 have hng:¬ g0 b:=fun h=>hn (pd b h o)
 refine ⟨?_,fun h=>?_⟩
 ·have:=hK.block b ba hng;unfold World.cell? at hc ⊢;simp only [this];exact hc
 ·rcases h with h | h
  ·exact hn h
  ·subst h;rcases hg with hg | hg
   ·omega
   ·exact hng hg
end
section
open Go Go.RowKit
theorem I8 {av:Av} {w:World} {v0:Value} {g0:Nat->Prop} {E:List tL} {l:List (List AV)} {x:List AV} {xe:tL} {k vb vo c:Nat} (hk:k<=E.length) (hO:myO w v0 E) (jd:JO w vb vo xe) (hvb:¬ av vb vo) (lc:rB av w x xe.cells) (hl:rB av w l.flatten (PG E)) (gb:AA 13 (x :: l)=true) (da:l.length=E.length) (h9:l.length<=900) (hb:∀ b,qO v0=some b->g0 b) (hg:∀ b,g0 b->∀ o,av b o) :
  Calls Tryz.prog 68 #[v0,.int .i64 k,.slice (some ⟨vb,vo,none⟩) 1 c] w fun e w'=>∃ v,e=.returned v/\H3 w g0 13 av w' (l.take k++x :: l.drop k) v/\ZA g0 w w':=by
 rw [cB,ye,decide_eq_true_eq] at gb;refine (myinsert v0 E xe k vb vo c w hk hO jd (fun h=>hvb (hg vb (hb vb h) vo)) (by omega)).mono ?_;rintro e w' ⟨g,c',N,rfl,⟨⟨ua,uh,e1,e2,e3,e4⟩,e5⟩,hK,eg⟩;have od:ZA g0 w w':=hK.mono (fun i _ h=>hb i h);have wb:(l.take k++x :: l.drop k).length=(E.take k++xe :: E.drop k).length:=by simp [da]
 have hz:AA 13 (l.take k++x :: l.drop k)=true:=by rw [iI,cB,ZI gb.2,CK gb.2,gb.1]; rfl
 have held:=LM od hg (g:=g) (by rcases eg with h | ⟨h,_⟩; exact .inl h; exact .inr (hb g h));refine ⟨_,rfl,⟨g,c',ua,uh,by rw [wb],?_,e1,by rw [wb]; exact e5,by omega,?_⟩,od⟩
 ·rcases eg with h | ⟨h,cur,ty,h1,h2⟩
  ·exact .inl h
  ·exact .inr ⟨hb g h,cur,ty,h1,by omega⟩
 ·rw [yY] at e4;rw [XG hz,wb,e4,List.flatten_append,yv,NK k gb.2,BK k gb.2,eL,CM,<- IP,<- rL];exact rB.held held _ _ (pE (xM _ hl) (pE lc (lM _ hl)))
theorem U8 {av:Av} {w:World} {g0:Nat->Prop} {E:List tL} {l:List (List AV)} {k g c N:Nat} (hk:k<E.length) (hO:ML w g 0 c N E) (hl:rB av w l.flatten (PG E)) (gb:AA 13 l=true) (da:l.length=E.length) (h9:l.length<=900) (hb:∀ b,g0 b ↔ b=g) (hg:∀ o,av g o) :
  Calls Tryz.prog 69 #[.slice (some ⟨g,0,none⟩) E.length c,.int .i64 k,.int .i64 ((k:Int) + 1)] w fun e w'=>∃ v,e=.returned v/\H3 w g0 13 av w' (l.take k++l.drop (k + 1)) v/\ZA g0 w w':=by
 obtain ⟨⟨cur0,lw,c1,c2,_⟩,_⟩:=id hO;refine (mydelete g 0 c N E E.length k w rfl hk (by omega) hO).mono ?_;rintro e w' ⟨c',rfl,⟨⟨ua,uh,e1,e2,e3,e4⟩,e5⟩,hK⟩;have od:ZA g0 w w':=hK.mono (fun i _ h=>(hb i).2 h);rw [List.eraseIdx_eq_take_drop_succ] at e4 e5 ⊢;have wb:(l.take k++l.drop (k + 1)).length=(E.take k++E.drop (k + 1)).length:=by simp [da]
 have hz:AA 13 (l.take k++l.drop (k + 1))=true:=by rw [iI,ZI gb,CK gb]; rfl
 have held:=LM od (fun b h o=>by rw [(hb b).1 h]; exact hg o) (g:=g) (.inr ((hb g).2 rfl));refine ⟨_,rfl,⟨g,c',ua,uh,by rw [wb],.inr ⟨(hb g).2 rfl,cur0,lw,c1,by omega⟩,e1,by rw [wb]; exact e5,by omega,?_⟩,od⟩;rw [yY] at e4;rw [XG hz,wb,e4,List.flatten_append,NK k gb,BK (k + 1) gb,eL,<- IP,<- rL];exact rB.held held _ _ (pE (xM _ hl) (lM _ hl))
theorem mygiven {av:Av} {w:World} {b:Bool} {l:List (List AV)} {v0:Value} {g0:Nat->Prop} (hg:G3 13 av w b l v0 g0) (gb:AA 13 l=true) (h9:l.length<=900) :
  (l=[]/\(∃ A,v0=.slice A 0 0)/\∀ g,¬ g0 g)\/(b=false/\∃ (E:List tL) (g c N:Nat),E.length=l.length/\v0=.slice (some ⟨g,0,none⟩) E.length c/\(∀ b,g0 b ↔ b=g)/\(∀ o,av g o)/\rB av w l.flatten (PG E)/\ML w g 0 c N E):=by
 rcases hg with ⟨h1,h2,_,h3⟩ | ⟨hb,g,c,cur,ty,hv,h0,hh,hc,hz,pd,hr⟩
 ·exact .inl ⟨h1,h2,h3⟩
 ·have wb:=lF hr;have hf:=XG gb;obtain ⟨E,hE,hC⟩:=myC_of l.length (cur.toList.take l.flatten.length) (by rw [<- wb,hf]) (zM hr);refine .inr ⟨hb,E,g,c,cur.size,hE,by rw [hE]; exact hv,h0,pd,by rw [hC]; exact hr,⟨⟨cur,ty,hh,rfl,by omega,?_⟩,by rw [hE]; exact hc⟩⟩;rw [yY,hC,hE,hf]
theorem myins0 {av:Av} {w:World} {g0:Nat->Prop} {x:List AV} {xe:tL} {vb vo c:Nat} (A:Option Addr) (jd:JO w vb vo xe) (lc:rB av w x xe.cells) (gb:AA 13 [x]=true) (hg:∀ b,¬ g0 b) :
  Calls Tryz.prog 68 #[.slice A 0 0,.int .i64 0,.slice (some ⟨vb,vo,none⟩) 1 c] w fun e w'=>∃ v,e=.returned v/\H3 w g0 13 av w' [x] v/\ZA g0 w w':=by
 refine (myend0 A xe vb vo c w jd).mono ?_;rintro e w' ⟨g,c',N,rfl,⟨⟨ua,uh,e1,e2,e3,e4⟩,e5⟩,hK,eg⟩;have od:ZA g0 w w':=hK.mono (fun i _ h=>h.elim);have held:=LM (av:=av) od (fun b h=>absurd h (hg b)) (g:=g) (.inl eg);refine ⟨_,rfl,⟨g,c',ua,uh,rfl,.inl eg,e1,e5,by simp only [List.length_singleton] at e3 e5 ⊢; omega,?_⟩,od⟩;rw [yY] at e4;rw [XG gb];have kt:ua.toList.take ([x].length * 13)=PG [xe]:=e4;rw [kt,List.flatten_singleton];have dk:PG [xe]=xe.cells:=by simp [PG]
 rw [dk];exact rB.held held _ _ lc
theorem myins_ok {O:XE} {b:Bool} {l:List (List AV)} {x:List AV} {i:Int} (h0:0<=i) (h1:i<=l.length) (h9:l.length<=900) (gb:AA 13 (x :: l)=true) :
  LA Tryz.prog O 68 [.undef,.sl b l,.int .i64 i,.sl false [x]] (some (.int .i64 13)) (.sl false (l.take i.toNat++x :: l.drop i.toNat),none):=by
 unfold LA;refine (?_:SG _ _ _ _ _ _);refine ⟨enters_of Tryz.func68 (by kernel_rfl) rfl,?_⟩;intro av w v0 vs g0 pd eb hg;simp only [sG] at eb;obtain ⟨u1,us1,rfl,oq,u2,us2,rfl,dp,rfl⟩:=eb;rw [JA] at oq;subst oq;rw [WC] at dp;simp only [ID] at dp;obtain ⟨A,c,rfl,hc,_,_,hs⟩:=dp;obtain ⟨vb,vo,rfl,ja⟩:=(hs trivial).2 (by simp);rw [XD] at ja;simp only [yv,List.flatten_nil,yz] at ja;obtain ⟨xs,lc,uo⟩:=FI ja;have gq:=gb;rw [cB,ye,decide_eq_true_eq] at gq;have hxl:xs.length=13:=by rw [<- lF lc]; exact gq.1
 have jd:JO w vb vo ⟨xs,hxl,zM lc⟩:=fun j u hu=>(uo j u hu).1
 have hvb:¬ av vb vo:=by
  have:=(uo 0 _ (yg (by omega))).2
  rwa [yJ] at this
 have hi:i=(i.toNat:Int):=by omega
 rcases mygiven hg gq.2 h9 with ⟨rfl,⟨A0,rfl⟩,jr⟩ | ⟨rfl,E,g,cg,N,hE,rfl,jr,fq,hr,hB⟩
 ·have ui:i=0:=by simp at h1; omega
  subst ui;exact myins0 A0 jd lc gb jr
 ·have:=I8 (v0:=.slice (some ⟨g,0,none⟩) E.length cg) (g0:=g0) (E:=E) (k:=i.toNat) (c:=c) (by omega) (.inr ⟨g,cg,N,rfl,hB⟩) jd hvb lc hr gb hE.symm h9 (fun b h=>by simp [qO] at h; exact (jr b).2 h.symm) (fun b h o=>by rw [(jr b).1 h]; exact fq o);rw [<- hi] at this;exact this
theorem mydel_ok {O:XE} {l:List (List AV)} {i:Int} (h0:0<=i) (h1:i + 1<=l.length) (h9:l.length<=900) (gb:AA 13 l=true) :
  LA Tryz.prog O 69 [.undef,.sl false l,.int .i64 i,.int .i64 (i + 1)] (some (.int .i64 13)) (.sl false (l.take i.toNat++l.drop (i + 1).toNat),none):=by
 unfold LA;refine (?_:SG _ _ _ _ _ _);refine ⟨enters_of Tryz.func69 (by kernel_rfl) rfl,?_⟩;intro av w v0 vs g0 pd eb hg;simp only [sG] at eb;obtain ⟨u1,us1,rfl,oq,u2,us2,rfl,dp,rfl⟩:=eb;rw [JA] at oq dp;subst oq;subst dp;have hi:i=(i.toNat:Int):=by omega
 rcases mygiven hg gb h9 with ⟨rfl,_⟩ | ⟨_,E,g,cg,N,hE,rfl,jr,fq,hr,hB⟩
 ·simp at h1; omega
 ·have:=U8 (k:=i.toNat) (by omega) hB hr gb hE.symm h9 jr fq;rw [<- hi] at this;rw [show (i + 1).toNat=i.toNat + 1 from by omega];exact this
end
section
open Go Go.RowKit
structure cL where
 cells:List Value
 len:cells.length=2
 one:∀ u∈cells,u.oneCell'=true
def AG (l:List cL):List Value:=l.flatMap cL.cells
theorem TD (l:List cL):(AG l).length=l.length * 2:=by
 induction l with
 | nil=>rfl
 | cons q l ih=>simp only [AG,List.flatMap_cons,yb,yA,q.len] at ih ⊢; rw [ih]; omega
theorem zL (l r:List cL):AG (l++r)=AG l++AG r:=by simp [AG]
theorem pN (q:cL) (r:List cL):AG (q :: r)=q.cells++AG r:=by simp [AG]
theorem XP (l:List cL) (k:Nat):(AG l).take (k * 2)=AG (l.take k):=by
 induction l generalizing k with
 | nil=>simp [AG]
 | cons q l ih =>
  cases k with
  | zero=>simp [AG]
  | succ k =>
   have h4:=q.len;rw [pN,List.take_succ_cons,pN,List.take_append,h4,show (k + 1) * 2 - 2=k * 2 from by omega,ih,yS (by rw [h4]; omega)]
theorem xL (l:List cL) (k:Nat):(AG l).drop (k * 2)=AG (l.drop k):=by
 induction l generalizing k with
 | nil=>simp [AG]
 | cons q l ih =>
  cases k with
  | zero=>simp [AG]
  | succ k =>
   have h4:=q.len;rw [pN,List.drop_succ_cons,List.drop_append,h4,show (k + 1) * 2 - 2=k * 2 from by omega,ih,yn (by rw [h4]; omega),yW]
theorem lX (l:List cL):∀ u∈AG l,u.oneCell'=true:=by
 intro u hu;simp only [AG,yV] at hu;obtain ⟨q,_,hq⟩:=hu;exact q.one u hq
theorem syC_of:∀ (n:Nat) (vs:List Value),vs.length=n * 2->(∀ u∈vs,u.oneCell'=true)->∃ l:List cL,l.length=n/\AG l=vs
 | 0,vs,h,_=>⟨[],rfl,(Y00 (by omega)).symm⟩
 | n + 1,vs,h,h1=>by
  obtain ⟨l,hl,hc⟩:=syC_of n (vs.drop 2) (by rw [yC]; omega) (fun u hu=>h1 u (List.mem_of_mem_drop hu));exact ⟨⟨vs.take 2,by rw [ym]; omega,fun u hu=>h1 u (List.mem_of_mem_take hu)⟩ :: l,by simp [hl],by rw [pN,hc]; exact Y05 _ _⟩
def syZ:Value:=.agg #[.int .i64 0,.string ⟨#[]⟩]
theorem syu:Tryz.prog.underlying 65=some (.slice 50):=by kernel_rfl
theorem syi:(Tryz.prog.info? 50).map (fun i=>(i.zero,i.size,i.bytes))=some (some syZ,2,24):=by kernel_rfl
theorem sysz:(Tryz.prog.info? 50).map (·.size)=some 2:=by kernel_rfl
theorem syzv (w:World):(zeroValue 50).run Tryz.prog w=.ok syZ w:=by kernel_rfl
theorem syhi (A:Option Addr) (n c k:Nat) (hk:k<=c) (w:World):(Instr.slice 65 (.slice A n c) none (some (.int .i64 k)) none).run Tryz.prog w=.ok (.slice A k c) w:=by
 obtain ⟨i,hi,je,eh,gj⟩:=info_parts syi;exact cut_hi w _ _ i syu hi A n c k hk
theorem u9 (A:Option Addr) (n c k:Nat) (hk:k<=n) (w:World):(Instr.slice 65 (.slice A n c) (some (.int .i64 k)) none none).run Tryz.prog w=.ok (.slice (if c=k then A else A.map (·.add (k * 2))) (n - k) (c - k)) w:=by
 obtain ⟨i,hi,je,eh,gj⟩:=info_parts syi;exact cut_lo w _ _ i 2 syu hi eh A n c k hk
theorem sylh (A:Option Addr) (n c k h:Nat) (hk:k<=h) (hh:h<=c) (w:World):(Instr.slice 65 (.slice A n c) (some (.int .i64 k)) (some (.int .i64 h)) none).run Tryz.prog w=.ok (.slice (if c=k then A else A.map (·.add (k * 2))) (h - k) (c - k)) w:=by
 obtain ⟨i,hi,je,eh,gj⟩:=info_parts syi;exact cut_lh w _ _ i 2 syu hi eh A n c k h hk hh
theorem sysiz (w:World):(Go.sizeOf 50).run Tryz.prog w=.ok 2 w:=by kernel_rfl
structure rM (w:World) (g off c N:Nat) (l:List cL):Prop where
 blk:∃ cur ty,w.heap[g]?=some (.cells cur ty (0,0))/\cur.size=N/\off + c * 2<=N/\(cur.toList.drop off).take (l.length * 2)=AG l
 len:l.length<=c
def syO (w:World) (v:Value) (l:List cL):Prop:=(v=.slice none 0 0/\l=[])\/∃ g c N,v=.slice (some ⟨g,0,none⟩) l.length c/\rM w g 0 c N l
section
variable {w w':World} {g off c N:Nat} {l:List cL} {v:Value}
theorem rM.keep {F:Nat->Prop} (h:rM w g off c N l) (hk:ZA F w w') (hF:¬ F g):rM w' g off c N l:=by
 obtain ⟨⟨cur,ty,h1,h2,h3⟩,h4⟩:=h;exact ⟨⟨cur,ty,(hk.block g (cA h1) hF).trans h1,h2,h3⟩,h4⟩
theorem rM.lt (h:rM w g off c N l):g<w.heap.size:=by obtain ⟨⟨cur,ty,h1,_⟩,_⟩:=h; exact cA h1
theorem rM.cells (h:rM w g off c N l) (j:Nat) (u:Value) (hu:(AG l)[j]?=some u):w.cell? ⟨g,off + j,none⟩=some u:=by
 obtain ⟨⟨cur,ty,h1,h2,ug,h3⟩,h4⟩:=h;rw [cell_of_row w g (off + j) cur _ (0,0) h1];rw [<- h3,yy] at hu;split at hu
 ·rw [yu] at hu; simpa using hu
 ·cases hu
theorem rM.drop (h:rM w g off c N l) {k:Nat} (hk:k<=l.length):rM w g (if c=k then off else off + k * 2) (c - k) N (l.drop k):=by
 obtain ⟨⟨cur,ty,h1,h2,ug,h3⟩,h4⟩:=h;have h6:=xL l k;refine ⟨⟨cur,ty,h1,h2,?_,?_⟩,by rw [yC]; omega⟩
 ·split <;> omega
 ·rw [yC,<- h6,<- h3];split
  ·rename_i e;have:l.length=k:=by omega
   rw [this,Nat.sub_self,Nat.zero_mul,List.take_zero,yn (by rw [ym]; omega)]
  ·rw [<- List.drop_drop,List.drop_take,Nat.sub_mul]
theorem rM.take (h:rM w g off c N l) {k:Nat} (hk:k<=l.length):rM w g off c N (l.take k):=by
 obtain ⟨⟨cur,ty,h1,h2,ug,h3⟩,h4⟩:=h;refine ⟨⟨cur,ty,h1,h2,ug,?_⟩,by rw [ym]; omega⟩;rw [<- XP,<- h3,List.take_take,ym,yU hk,yU (by omega)]
end
theorem rM.app {w:World} {g off c:Nat} {l r:List cL} {cur:Array Value} {ty:TypeId} (hg:w.heap[g]?=some (.cells cur ty (0,0))) (h2:off + c * 2<=cur.size) (h3:(cur.toList.drop off).take (l.length * 2)=AG l) (ga:l.length + r.length<=c) :
  rM (w.setRow g (cur.toList.take (off + l.length * 2)++AG r++cur.toList.drop (off + l.length * 2 + (AG r).length)).toArray) g off c cur.size (l++r):=by
 have hr:=TD r;have al:cur.toList.length=cur.size:=by simp
 refine ⟨⟨_,_,setRow_heap w g cur _ _ _ hg,?_,h2,?_⟩,by rw [yb]; exact ga⟩
 ·simp only [yO,yb,ym,yC,yP,hr];omega
 ·have ht:(cur.toList.take (off + l.length * 2)).length=off + l.length * 2:=by rw [ym]; omega
  have e1:(cur.toList.take (off + l.length * 2)).drop off=AG l:=by rw [List.drop_take,Nat.add_sub_cancel_left,h3]
  simp only;rw [yo,List.drop_append_of_le_length (by omega),e1,zL,yb,yK,<- TD l,<- hr,<- yo,<- yb];exact List.take_left
theorem rM.clear {w:World} {g off c N:Nat} {l:List cL} (h:rM w g off c N l) (ty:TypeId) (n m:Nat) (hn:l.length + n<=c) :
  ∃ w',(Builtin.clear_ #[65] ty #[.slice (some ⟨g,off + l.length * 2,none⟩) n m]).run Tryz.prog w=.ok (.tuple #[]) w'/\rM w' g off c N l/\ZA (fun b=>b=g) w w':=by
 obtain ⟨⟨cur,t0,h1,h2,ug,h3⟩,h4⟩:=h;have ii:∀ u∈syZ.cells.toList,u.oneCell'=true:=fun u hu=>y8.1 (show syZ.cells.toList.all (fun u=>u.oneCell')=true by rfl) u hu
 have ti:syZ.cells.size=2:=rfl;obtain ⟨w',ua,r1,r2,r3,r4,r5⟩:=C1 (P:=Tryz.prog) w 65 50 t0 ty _ syu (syzv w) ii g (off + l.length * 2) n m cur h1 (by rw [ti]; omega);refine ⟨w',r1,⟨⟨ua,_,r2,by omega,ug,?_⟩,h4⟩,r5⟩;have e:∀ L:List Value,(L.drop off).take (l.length * 2)=(L.take (off + l.length * 2)).drop off:=fun L=>by rw [List.drop_take,Nat.add_sub_cancel_left]
 rw [e,r4,<- e,h3]
theorem s5 (w:World) (ty t0:TypeId) (g off dLen dCap:Nat) (a:Addr) (sLen sCap:Nat) (L:List Value) (cs:List Value)
  (hg:w.heap[g]?=some (.cells L.toArray t0 (0,0))) (hn:cs.length=Nat.min sLen dLen * 2) (lv:∀ j v,cs[j]?=some v->w.cell? (a.add j)=some v) (zh:off + cs.length<=L.length) (h1:∀ v∈cs,v.oneCell'=true) :
  (Builtin.copy_ #[65,65] ty #[.slice (some ⟨g,off,none⟩) dLen dCap,.slice (some a) sLen sCap]).run Tryz.prog w=.ok (goInt (Nat.min sLen dLen:Nat)) (w.setRow g (lay L off cs).toArray):=by
 have:=copy_at (P:=Tryz.prog) w 65 65 ty 50 2 syu sysz g off dLen dCap a sLen sCap L.toArray t0 cs hg hn lv (by simpa using zh) h1;exact this
theorem rM.list {w:World} {g off c N:Nat} {l:List cL} (h:rM w g off c N l):∃ (L:List Value) (ty:TypeId),w.heap[g]?=some (.cells L.toArray ty (0,0))/\L.length=N/\off + c * 2<=L.length/\∀ j,j<l.length * 2->L[off + j]?=(AG l)[j]?:=by
 obtain ⟨⟨cur,ty,h1,h2,ug,h3⟩,h4⟩:=h;refine ⟨cur.toList,ty,h1,by simpa using h2,by rw [yP]; omega,fun j hj=>?_⟩;rw [<- h3,yy,if_pos hj,yu]
theorem rM.of_list {w:World} {g off c:Nat} {l:List cL} {L:List Value} {ty:TypeId} (h1:w.heap[g]?=some (.cells L.toArray ty (0,0))) (h2:off + c * 2<=L.length) (h3:∀ j,j<l.length * 2->L[off + j]?=(AG l)[j]?) (h4:l.length<=c):rM w g off c L.length l:=by
 refine ⟨⟨_,_,h1,by simp,h2,?_⟩,h4⟩;apply List.ext_getElem?;intro j;rw [yy];split
 ·rename_i hj;rw [yu];exact h3 j hj
 ·rename_i hj;rw [Y07 (by rw [TD]; omega)]
theorem syC_ins (l:List cL) (x:cL) (i j:Nat) (hi:i<=l.length):(AG (l.take i++x :: l.drop i))[j]?=if j<i * 2 then (AG l)[j]? else if j<i * 2 + 2 then x.cells[j - i * 2]? else (AG l)[j - 2]?:=by
 have ht:(AG (l.take i)).length=i * 2:=by rw [TD,ym,yU hi]
 have hx:=x.len;rw [zL,pN];split
 ·rw [yL (by omega),<- XP,yy,if_pos (by omega)]
 ·split
  ·rw [yE (by omega),ht,yL (by omega)]
  ·rw [yE (by omega),ht,yE (by omega),hx,<- xL,yu];congr 1; omega
theorem rM.ins {w:World} {g off c:Nat} {l:List cL} {x:cL} {L:List Value} {i:Nat} {ty:TypeId} (hi:i<=l.length) (hL:off + c * 2<=L.length) (hc:∀ j,j<l.length * 2->L[off + j]?=(AG l)[j]?) (ga:l.length + 1<=c) (hg:w.heap[g]?=some (.cells (lay (lay L (off + (i + 1) * 2) (AG (l.drop i))) (off + i * 2) x.cells).toArray ty (0,0))) :
  rM w g off c L.length (l.take i++x :: l.drop i):=by
 have hx:=x.len;have hd:(AG (l.drop i)).length=(l.length - i) * 2:=by rw [TD,yC]
 have da:(l.take i++x :: l.drop i).length=l.length + 1:=by simp; omega
 have h1:off + (i + 1) * 2 + (AG (l.drop i)).length<=L.length:=by omega
 have uf:=QH h1;have h2:off + i * 2 + x.cells.length<=(lay L (off + (i + 1) * 2) (AG (l.drop i))).length:=by rw [uf,hx]; omega
 have rm:=QH h2;have:=rM.of_list hg (c:=c) (off:=off) (l:=l.take i++x :: l.drop i) (by rw [rm,uf]; exact hL) (fun j hj=>?_) (by omega)
 ·rwa [rm,uf] at this
 rw [da] at hj;rw [syC_ins l x i j hi,NL _ _ _ _ h2,NL _ _ _ _ h1,hx,hd];by_cases c1:j<i * 2
 ·rw [if_pos c1,if_neg (by omega),if_neg (by omega)];exact hc j (by omega)
 ·rw [if_neg c1];by_cases c2:j<i * 2 + 2
  ·rw [if_pos c2,if_pos (by omega)];congr 1; omega
  ·rw [if_neg c2,if_neg (by omega),if_pos (by omega),<- xL,yu];congr 1; omega
theorem rM.ins2 {w:World} {g c:Nat} {l:List cL} {x:cL} {L:List Value} {i:Nat} {ty:TypeId} (hi:i<=l.length) (hL:c * 2<=L.length) (hc:∀ j,j<i * 2->L[j]?=(AG l)[j]?) (ga:l.length + 1<=c) (hg:w.heap[g]?=some (.cells (lay (lay L (i * 2) x.cells) ((i + 1) * 2) (AG (l.drop i))).toArray ty (0,0))) :
  rM w g 0 c L.length (l.take i++x :: l.drop i):=by
 have hx:=x.len;have hd:(AG (l.drop i)).length=(l.length - i) * 2:=by rw [TD,yC]
 have da:(l.take i++x :: l.drop i).length=l.length + 1:=by simp; omega
 have h1:i * 2 + x.cells.length<=L.length:=by omega
 have uf:=QH h1;have h2:(i + 1) * 2 + (AG (l.drop i)).length<=(lay L (i * 2) x.cells).length:=by rw [uf,hd]; omega
 have rm:=QH h2;have:=rM.of_list hg (c:=c) (off:=0) (l:=l.take i++x :: l.drop i) (by rw [rm,uf]; omega) (fun j hj=>?_) (by omega)
 ·rwa [rm,uf] at this
 rw [da] at hj;rw [yr,syC_ins l x i j hi,NL _ _ _ _ h2,NL _ _ _ _ h1,hx,hd];by_cases c1:j<i * 2
 ·rw [if_pos c1,if_neg (by omega),if_neg (by omega)];exact hc j c1
 ·rw [if_neg c1];by_cases c2:j<i * 2 + 2
  ·rw [if_pos c2,if_neg (by omega),if_pos (by omega)]
  ·rw [if_neg c2,if_pos (by omega),<- xL,yu];congr 1; omega
end
section
open Go Go.RowKit
def syCut (g off N:Nat) (w:World) (l:List cL) (e:Ending) (w':World):Prop:=∃ c,e=.returned (.slice (some ⟨g,off,none⟩) l.length c)/\rM w' g off c N l/\ZA (fun b=>b=g) w w'
set_option maxHeartbeats 400000 in
theorem sydelete (g off c N:Nat) (l:List cL) (n i:Nat) (w:World) (hn:l.length=n) (hi:i<n) (da:n<=1000) (h:rM w g off c N l) :
  Calls Tryz.prog 73 #[.slice (some ⟨g,off,none⟩) n c,.int .i64 i,.int .i64 ((i:Int) + 1)] w (syCut g off N w (l.eraseIdx i)):=by
 have ff:n<=c:=by have:=h.len; omega
 have za:((i:Int) == (i:Int) + 1)=false:=by simp; omega
 obtain ⟨⟨cur,t0,hg,hN,oc,hc3⟩,_⟩:=h.take (k:=i) (by omega);have so:(l.take i).length=i:=by rw [ym]; omega
 have pg:(l.drop (i + 1)).length=n - (i + 1):=by rw [yC,hn]
 have hd:=h.drop (k:=i + 1) (by omega);obtain ⟨to,kw⟩:∃ to:Nat,to=(if c=i + 1 then off else off + (i + 1) * 2):=⟨_,rfl⟩;rw [<- kw] at hd;have htA:(if c=i + 1 then some (⟨g,off,none⟩:Addr) else (some (⟨g,off,none⟩:Addr)).map (·.add ((i + 1) * 2)))=some ⟨g,to,none⟩:=by
  rw [kw]; split <;> simp [Addr.add_lit]
 have pf:=syhi (some ⟨g,off,none⟩) n c i (by omega);have eo:=u9 (some ⟨g,off,none⟩) n c (i + 1) (by omega);rw [htA] at eo;simp only [Int.natCast_add,Int.cast_ofNat_Int] at eo;obtain ⟨inf,jf,je,eh,gj⟩:=info_parts syi;have hr:=fun ty=>NH (P:=Tryz.prog) w.drew 65 ty 50 inf 2 syu jf eh g off i c cur _ hg ⟨g,to,none⟩ (n - (i + 1)) (c - (i + 1)) (AG (l.drop (i + 1))) (by rw [TD,pg]) (fun j u hu=>by rw [Addr.add_lit]; exact hd.cells j u hu) (lX _) (by omega) (by rw [TD,pg]; omega)
 have hE:=rM.app (w:=w.drew) (c:=c) (off:=off) (l:=l.take i) (r:=l.drop (i + 1)) hg (by omega) hc3 (by rw [so,pg]; omega);rw [so,hN] at hE;obtain ⟨w1,wl⟩:∃ w1,w1=w.drew.setRow g (cur.toList.take (off + i * 2)++AG (l.drop (i + 1))++cur.toList.drop (off + i * 2 + (AG (l.drop (i + 1))).length)).toArray:=⟨_,rfl⟩;have ge:ZA (fun b=>b=g) w w1:=by rw [wl]; exact ((ZA.refl (fun b=>b=g) w).drew).setRow (fun _=>rfl) _
 rw [<- wl] at hE;simp only [<- wl] at hr;clear wl kw hd hg hN oc hc3 htA;have HE:=dN hE;have HK:=dN ge;have HT:=dN so;have HD:=dN pg;have HN:=dN hn;clear h hE ge so pg hn
 go_enter Tryz.func73,Tryz.ntmps73
 go_wp2_with fail
 go_region_held3 (fun _=>True) (trivial) (refine KT rfl _ _ _ _ rfl _ _ rfl rfl (hr _) ?_)
 have ge:i + (n - (i + 1)) + 1=n:=by omega
 have ec:(l.take i++l.drop (i + 1)).length=i + (n - (i + 1)):=by rw [yb,HT.out,HD.out]
 have gb:l.eraseIdx i=l.take i++l.drop (i + 1):=List.eraseIdx_eq_take_drop_succ l i;generalize i + (n - (i + 1))=k at *
 generalize l.take i++l.drop (i + 1)=l' at *
 subst ec;have sr:=sylh (some ⟨g,off,none⟩) l'.length c l'.length n (by omega) (by omega);rw [if_neg (by omega),yt,Addr.add_lit] at sr;obtain ⟨w2,hclr,ho2,nu⟩:=HE.out.clear 0 (n - l'.length) (c - l'.length) (by omega);have HO2:=dN ho2;have HEL:=dN gb;clear ho2 gb pf eo hr HE HT HD HN
 go_wp2_with fail
 go_ret
 rw [HEL.out];exact ⟨c,rfl,HO2.out,HK.out.trans nu (fun _ _ h=>h)⟩
end
section
open Go Go.RowKit
def syIns (w:World) (v:Value) (l:List cL) (e:Ending) (w':World):Prop:=∃ g c N,e=.returned (.slice (some ⟨g,0,none⟩) l.length c)/\rM w' g 0 c N l/\ZA (fun b=>qO v=some b) w w'/\(w.heap.size<=g\/qO v=some g/\∃ cur ty,w.heap[g]?=some (.cells cur ty (0,0))/\cur.size=N)
def BO (w:World) (vb vo:Nat) (x:cL):Prop:=∀ (j:Nat) (u:Value),x.cells[j]?=some u->w.cell? ⟨vb,vo + j,none⟩=some u
theorem BO.congr {w w':World} {vb vo:Nat} {x:cL} (h:BO w vb vo x) (he:w'.heap[vb]?=w.heap[vb]?):BO w' vb vo x:=fun j u hu=>by
 have:=h j u hu;unfold World.cell? at this ⊢;simp only [he];exact this
theorem BO.first {w:World} {vb vo:Nat} {x:cL} (h:BO w vb vo x):∃ u,w.cell? ⟨vb,vo,none⟩=some u:=by
 have hl:=x.len;obtain ⟨u,hu⟩:∃ u,x.cells[0]?=some u:=⟨_,yg (by omega)⟩;exact ⟨u,h 0 u hu⟩
theorem BO.lt {w:World} {vb vo:Nat} {x:cL} (h:BO w vb vo x):vb<w.heap.size:=by
 obtain ⟨u,hu⟩:=h.first;obtain ⟨c,ty,fz,hc,_⟩:=cN hu;exact cA hc
theorem syapp1 (w:World) (ty:TypeId) (v:Value) (l:List cL) (x:cL) (vb vo mc:Nat) (h:syO w v l) (hx:BO w vb vo x) (da:l.length<=900) :
  ∃ v' w',(Builtin.append_ #[65,65] ty #[v,.slice (some ⟨vb,vo,none⟩) 1 mc]).run Tryz.prog w=.ok v' w'/\syIns w v (l++[x]) (.returned v') w':=by
 obtain ⟨inf,jf,je,eh,gj⟩:=info_parts syi;have zb:∀ j u,(AG [x])[j]?=some u->w.cell? ((⟨vb,vo,none⟩:Addr).add j)=some u:=fun j u hu=>by
  rw [Addr.add_lit];exact hx j u (by simpa [AG] using hu)
 rcases h with ⟨rfl,rfl⟩ | ⟨g,c,N,rfl,hE⟩
 ·obtain ⟨cap,ua,g1,g2,g3,g4,hr⟩:=eF (P:=Tryz.prog) w 65 ty 50 inf _ 2 24 syu jf je eh gj rfl none 0 0 [] rfl (fun h0=>absurd h0 (by omega)) (fun _=>⟨rfl,rfl⟩) ⟨vb,vo,none⟩ 1 mc (AG [x]) (TD _) zb (by omega) (yf _) (by omega) (by omega);refine ⟨_,_,hr,w.heap.size,cap,ua.size,rfl,⟨⟨ua,_,heap_alloc_new w.drew _,rfl,by omega,?_⟩,g1⟩,ZA.of_below (qQ ((Below.refl _ _).alloc (yf _) _)) _,.inl (yf _)⟩;rw [yY];exact g4
 ·have hc:=hE.len;by_cases ga:l.length + 1<=c
  ·obtain ⟨⟨cur,t0,h1,hN,h2,h3⟩,h4⟩:=hE;have hr:=NH (P:=Tryz.prog) w 65 ty 50 inf 2 syu jf eh g 0 l.length c cur _ h1 ⟨vb,vo,none⟩ 1 mc (AG [x]) (TD _) zb (lX _) ga (by rw [TD]; simp; omega);have hE:=rM.app (c:=c) (off:=0) (l:=l) (r:=[x]) h1 (by omega) h3 ga;rw [hN] at hE;exact ⟨_,_,hr,g,c,N,by rw [yb]; rfl,hE,(ZA.refl (fun b=>qO (.slice (some ⟨g,0,none⟩) l.length c)=some b) w).setRow (fun _=>rfl) _,.inr ⟨rfl,cur,t0,h1,hN⟩⟩
  ·obtain ⟨cap,ua,g1,g2,g3,g4,hr⟩:=eF (P:=Tryz.prog) w 65 ty 50 inf _ 2 24 syu jf je eh gj rfl (some ⟨g,0,none⟩) l.length c (AG l) (TD l) (fun h0=>⟨_,rfl,fun j u hu=>by rw [Addr.add_lit]; exact hE.cells j u hu⟩) (fun hA=>nomatch hA) ⟨vb,vo,none⟩ 1 mc (AG [x]) (TD _) zb (by omega) hc (by omega) (by omega);refine ⟨_,_,hr,w.heap.size,cap,ua.size,by rw [yb]; rfl,⟨⟨ua,_,heap_alloc_new w.drew _,rfl,by omega,?_⟩,by rw [yb]; exact g1⟩,ZA.of_below (qQ ((Below.refl _ _).alloc (yf _) _)) _,.inl (yf _)⟩;rw [yY,yb,zL];exact g4
theorem syO.shape {w:World} {v:Value} {l:List cL} (h:syO w v l):∃ A c,v=.slice A l.length c/\l.length<=c/\(A=none->c=0):=by
 rcases h with ⟨rfl,rfl⟩ | ⟨g,c,N,rfl,h⟩
 ·exact ⟨none,0,rfl,yf _,fun _=>rfl⟩
 ·exact ⟨_,c,rfl,h.len,fun h=>by cases h⟩
set_option maxHeartbeats 1000000 in
theorem syendG (A:Option Addr) (n c vb vo mc:Nat) (w:World) (hc:n<=c) (da:n<=900) {v':Value} {w':World} (hr:(Builtin.append_ #[65,65] 65 #[.slice A n c,.slice (some ⟨vb,vo,none⟩) 1 mc]).run Tryz.prog w=.ok v' w') :
  Calls Tryz.prog 72 #[.slice A n c,.int .i64 n,.slice (some ⟨vb,vo,none⟩) 1 mc] w fun e w2=>e=.returned v'/\w2=w':=by
 have pf:=u9 A n c n (yf _);generalize ut:(if c=n then A else A.map (·.add (n * 2)))=A1 at pf;clear ut
 go_enter Tryz.func72,Tryz.ntmps72
 go_wp2_with (at_builtin; refine nI _ rfl _ _ _ _ rfl _ _ rfl rfl hr ?_)
 go_ret
 exact ⟨rfl,rfl⟩
theorem syend (v:Value) (l:List cL) (x:cL) (n vb vo mc:Nat) (w:World) (hn:l.length=n) (h:syO w v l) (hx:BO w vb vo x) (da:n<=900) :
  Calls Tryz.prog 72 #[v,.int .i64 n,.slice (some ⟨vb,vo,none⟩) 1 mc] w (syIns w v (l++[x])):=by
 obtain ⟨v',w',hr,h1⟩:=syapp1 w 65 v l x vb vo mc h hx (by omega);obtain ⟨A,c,hv,hc,tk⟩:=h.shape;rw [hn] at hv hc;subst hv;refine (syendG A n c vb vo mc w hc da hr).mono ?_;rintro e w2 ⟨rfl,rfl⟩;exact h1
theorem syend0 (A:Option Addr) (x:cL) (vb vo mc:Nat) (w:World) (hx:BO w vb vo x) :
  Calls Tryz.prog 72 #[.slice A 0 0,.int .i64 0,.slice (some ⟨vb,vo,none⟩) 1 mc] w fun e w'=>∃ g c N,e=.returned (.slice (some ⟨g,0,none⟩) 1 c)/\rM w' g 0 c N [x]/\ZA (fun _=>False) w w'/\w.heap.size<=g:=by
 obtain ⟨inf,jf,je,eh,gj⟩:=info_parts syi;have zb:∀ j u,(AG [x])[j]?=some u->w.cell? ((⟨vb,vo,none⟩:Addr).add j)=some u:=fun j u hu=>by
  rw [Addr.add_lit];exact hx j u (by simpa [AG] using hu)
 obtain ⟨cap,ua,g1,g2,g3,g4,hr⟩:=eF (P:=Tryz.prog) w 65 65 50 inf _ 2 24 syu jf je eh gj rfl A 0 0 [] rfl (fun h0=>absurd h0 (by omega)) (fun _=>⟨rfl,rfl⟩) ⟨vb,vo,none⟩ 1 mc (AG [x]) (TD _) zb (by omega) (yf _) (by omega) (by omega);refine (syendG A 0 0 vb vo mc w (yf _) (by omega) hr).mono ?_;rintro e w2 ⟨rfl,rfl⟩;refine ⟨w.heap.size,cap,ua.size,rfl,⟨⟨ua,_,heap_alloc_new w.drew _,rfl,by omega,?_⟩,g1⟩,ZA.of_below (qQ ((Below.refl _ _).alloc (yf _) _)) _,yf _⟩;rw [yY];exact g4
set_option maxHeartbeats 1000000 in
theorem syshift (g c N vb vo mc:Nat) (l:List cL) (x:cL) (n i:Nat) (w:World) (hn:l.length=n) (hi:i<n) (da:n<=1000) (h:rM w g 0 c N l) (ga:n + 1<=c) (hx:BO w vb vo x) (za:vb≠g) :
  Calls Tryz.prog 72 #[.slice (some ⟨g,0,none⟩) n c,.int .i64 i,.slice (some ⟨vb,vo,none⟩) 1 mc] w fun e w'=>e=.returned (.slice (some ⟨g,0,none⟩) (n + 1) c)/\rM w' g 0 c N (l.take i++x :: l.drop i)/\ZA (fun b=>b=g) w w':=by
 have uz:=h.lt;have ak:=h.drop (k:=i) (by omega);obtain ⟨L,t0,tq,hLN,jz,hL3⟩:=h.list;obtain ⟨u0,hu0⟩:=hx.first;have hov:∀ lb cb,(callFunc 111 #[.slice (some ⟨vb,vo,none⟩) 1 mc,.slice (some ⟨g,(i + 1) * 2,none⟩) lb cb]).run Tryz.prog w=.ok (.value (.bool false)) w:=fun lb cb=>by
  rw [run_callFunc_extern (P:=Tryz.prog) (e:=Extern.SlicesOverlaps.overlaps #[65,65] #[4]) Tryz.func111 (by kernel_rfl) (by kernel_rfl) (by kernel_rfl) (by kernel_rfl),
   GP w 65 4 50 syu 2 sysiz ⟨vb,vo,none⟩ ⟨g,(i + 1) * 2,none⟩ 1 mc lb cb za u0 hu0 L.toArray t0 tq (by rw [yO]; omega)]
  rfl
 have gj:¬ ((i:Int)=(n:Int)):=by omega
 have mixed:Tryz.prog.follows .mixedOrders=true:=by kernel_rfl
 have pg:(l.drop i).length=n - i:=by rw [yC,hn]
 have wl:IntKind.i64.wrap ((i:Int) + 1)=(i:Int) + 1:=IntWalk.i64_in _ (by omega);have hw2:IntKind.i64.wrap ((n:Int) + 1)=(n:Int) + 1:=IntWalk.i64_in _ (by omega);have hA:∀ k,k<c->(if c=k then some (⟨g,0,none⟩:Addr) else (some (⟨g,0,none⟩:Addr)).map (·.add (k * 2)))=some ⟨g,k * 2,none⟩:=fun k hk=>by rw [if_neg (by omega)]; simp [Addr.add_lit]
 have pf:=u9 (some ⟨g,0,none⟩) n c i (by omega);have eo:=syhi (some ⟨g,0,none⟩) n c (n + 1) (by omega);have sr:=u9 (some ⟨g,0,none⟩) (n + 1) c (i + 1) (by omega);have hs4:=u9 (some ⟨g,0,none⟩) (n + 1) c i (by omega);rw [hA i (by omega)] at pf hs4;rw [hA (i + 1) (by omega)] at sr;rw [Nat.add_sub_add_right] at sr;simp only [Int.natCast_add,Int.cast_ofNat_Int] at eo sr;have xh:∀ ty dc sc,(Builtin.copy_ #[65,65] ty #[.slice (some ⟨g,(i + 1) * 2,none⟩) (n - i) dc,.slice (some ⟨g,i * 2,none⟩) (n + 1 - i) sc]).run Tryz.prog w.drew=.ok (goInt (Nat.min (n + 1 - i) (n - i):Nat)) (w.drew.setRow g (lay L ((i + 1) * 2) (AG (l.drop i))).toArray):=fun ty dc sc =>
  s5 w.drew ty t0 g ((i + 1) * 2) (n - i) dc ⟨g,i * 2,none⟩ (n + 1 - i) sc L (AG (l.drop i)) tq (by rw [TD,pg]; congr 1; simp only [Nat.min_def]; split <;> omega)
   (fun j v hj=>by
    have:=h.cells (i * 2 + j) v (by rw [<- xL,yu] at hj; exact hj);rw [Addr.add_lit]
    rwa [yr] at this) (by rw [TD,pg]; omega) (lX _)
 have uo:=x.len;have h1l:(i + 1) * 2 + (AG (l.drop i)).length<=L.length:=by rw [TD,pg]; omega
 obtain ⟨L1,cf⟩:∃ L1,L1=lay L ((i + 1) * 2) (AG (l.drop i)):=⟨_,rfl⟩;have iz:L1.length=L.length:=by rw [cf]; exact QH h1l
 rw [<- cf] at xh;obtain ⟨W1,uk⟩:∃ W1,W1=w.drew.setRow g L1.toArray:=⟨_,rfl⟩;have wg:W1.heap[g]?=some (.cells L1.toArray t0 (0,0)):=by rw [uk]; exact setRow_heap w.drew g _ _ _ _ tq
 have xt:BO W1 vb vo x:=hx.congr (by rw [uk,setRow_other _ _ _ _ za]; rfl);have ge:ZA (fun b=>b=g) w W1:=by rw [uk]; exact ((ZA.refl (fun b=>b=g) w).drew).setRow (fun _=>rfl) _
 have im:∀ ty dc,(Builtin.copy_ #[65,65] ty #[.slice (some ⟨g,i * 2,none⟩) (n + 1 - i) dc,.slice (some ⟨vb,vo,none⟩) 1 mc]).run Tryz.prog W1=.ok (goInt (Nat.min 1 (n + 1 - i):Nat)) (W1.setRow g (lay L1 (i * 2) x.cells).toArray):=fun ty dc =>
  s5 W1 ty t0 g (i * 2) (n + 1 - i) dc ⟨vb,vo,none⟩ 1 mc L1 x.cells wg (by rw [uo]; simp only [Nat.min_def]; split <;> omega) (fun j v hj=>by rw [Addr.add_lit]; exact xt j v hj) (by omega) x.one
 rw [<- uk] at xh;have hE:rM (W1.setRow g (lay L1 (i * 2) x.cells).toArray) g 0 c L.length (l.take i++x :: l.drop i):=rM.ins (c:=c) (off:=0) (l:=l) (i:=i) (L:=L) (by omega) jz hL3 (by omega) (by rw [yr,yr,<- cf]; exact setRow_heap W1 g _ _ _ _ wg);rw [hLN] at hE;have HE:=dN hE;have HK:=dN ge;clear hE ge h tq jz hL3 hLN wg xt uk cf hx ak hu0
 go_enter Tryz.func72,Tryz.ntmps72
 go_wp2_with (simp only [hov])
 go_region_law_o (refine jJ rfl _ _ 65 65 rfl _ _ (by simp [Act.eval,Act.put]) (by simp [Act.eval,Act.put]) (xh _ _ _) ?_)
 go_wp2_with (at_builtin; refine TH _ rfl _ _ 65 65 rfl _ _ rfl rfl (im _ _) ?_)
 go_ret
 exact ⟨rfl,HE.out,HK.out.setRow (fun _=>rfl) _⟩
theorem syu3:Tryz.prog.underlying 3=some (.int .i64):=by kernel_rfl
set_option maxHeartbeats 1000000 in
theorem sygrow (g c N vb vo mc:Nat) (l:List cL) (x:cL) (n i:Nat) (w:World) (hn:l.length=n) (hi:i<n) (da:n<=900) (h:rM w g 0 c N l) (ga:¬ n + 1<=c) (hx:BO w vb vo x) :
  Calls Tryz.prog 72 #[.slice (some ⟨g,0,none⟩) n c,.int .i64 i,.slice (some ⟨vb,vo,none⟩) 1 mc] w (syIns w (.slice (some ⟨g,0,none⟩) n c) (l.take i++x :: l.drop i)):=by
 have ff:n<=c:=by have:=h.len; omega
 have uz:=h.lt;have dr:=hx.lt;obtain ⟨inf,jf,je,eh,gj⟩:=info_parts syi;have hz2':¬ ((i:Int)=(n:Int)):=by omega
 have mixed:Tryz.prog.follows .mixedOrders=true:=by kernel_rfl
 have pg:(l.drop i).length=n - i:=by rw [yC,hn]
 have so:(l.take i).length=i:=by rw [ym]; omega
 have wl:IntKind.i64.wrap ((i:Int) + 1)=(i:Int) + 1:=IntWalk.i64_in _ (by omega);have hw2:IntKind.i64.wrap ((n:Int) + 1)=(n:Int) + 1:=IntWalk.i64_in _ (by omega);have hw3:IntKind.i64.wrap ((n:Int) + 1 - (i:Int))=((n + 1 - i:Nat):Int):=by rw [IntWalk.i64_in _ (by omega)]; omega
 have pf:=u9 (some ⟨g,0,none⟩) n c i (by omega);rw [if_neg (by omega),yt,Addr.add_lit,yr] at pf;have eo:=syhi (some ⟨g,0,none⟩) n c i (by omega);have ak:=h.take (k:=i) (by omega);have hfo:=run_firstCells_some (P:=Tryz.prog) w.drew inf.size i ⟨g,0,none⟩ i c (AG (l.take i)) (by rw [TD,so,eh]) (fun j u hu=>by rw [Addr.add_lit]; exact ak.cells j u hu);have bz:Builtin.nextslicecap (i + (n + 1 - i)) c * inf.bytes<=281474976710656:=by
  have h1:Builtin.nextslicecap (i + (n + 1 - i)) c<=2 * (i + (n + 1 - i)):=nextslicecap_le (by omega);rw [gj];omega
 have ju:=fun ty=>Lib.run_append_grow_zeros (P:=Tryz.prog) w 65 3 ty 50 inf _ .i64 .i64 syu syu3 jf je (some ⟨g,0,none⟩) i c (AG (l.take i)) hfo (n + 1 - i) (by omega) (by omega) (by omega) (by omega) (by rw [gj]; omega) bz
 have e1:i + (n + 1 - i)=n + 1:=by omega
 rw [e1] at ju bz;have hcg:=grownCap_ge w (n + 1) c 50;have aw:=grownCap_le_maxLen w (n + 1) c 50 (by have:maxLen=9223372036854775807:=rfl; omega);generalize grownCap w (n + 1) c 50=cap at ju hcg aw;obtain ⟨L,hL⟩:∃ L:List Value,((AG (l.take i)).toArray++Builtin.zeroCells syZ.cells (n + 1 - i)++Builtin.zeroCells syZ.cells (cap - (n + 1)))=L.toArray:=⟨_,rfl⟩;have hLl:L.length=cap * 2:=by
  have:=congrArg Array.size hL;simp only [Array.size_append,size_zeroCells,yO,TD,so] at this;have h5:syZ.cells.size=2:=rfl;rw [h5] at this;omega
 have hLc:∀ j,j<i * 2->L[j]?=(AG l)[j]?:=fun j hj=>by
  have h1:L[j]?=(L.toArray)[j]?:=by simp
  rw [h1,<- hL,Array.append_assoc,Array.getElem?_append_left (by simp [TD,so]; omega)];simp only [List.getElem?_toArray];rw [<- XP,yy,if_pos hj]
 rw [hL] at ju;clear hL;have uo:=x.len;have hsG:∀ k,k<cap->∀ W,(Instr.slice 65 (.slice (some ⟨w.heap.size,0,none⟩) (n + 1) cap) (some (.int .i64 (k:Int))) none none).run Tryz.prog W=(if k<=n + 1 then .ok (.slice (some ⟨w.heap.size,k * 2,none⟩) (n + 1 - k) (cap - k)) W else (Instr.slice 65 (.slice (some ⟨w.heap.size,0,none⟩) (n + 1) cap) (some (.int .i64 (k:Int))) none none).run Tryz.prog W):=fun k hk W=>by
  split
  ·rename_i h;have:=u9 (some ⟨w.heap.size,0,none⟩) (n + 1) cap k h W;rw [if_neg (by omega),yt,Addr.add_lit,yr] at this;exact this
  ·rfl
 have sr:=fun W=>(hsG i (by omega) W).trans (by rw [if_pos (by omega)])
 have hs4:=fun W=>(hsG (i + 1) (by omega) W).trans (by rw [if_pos (by omega)])
 simp only [Nat.add_sub_add_right,Int.natCast_add,Int.cast_ofNat_Int] at hs4;clear hsG;obtain ⟨W0,gx⟩:∃ W0,W0=w.drew.alloc (.cells L.toArray 50):=⟨_,rfl⟩;have xp:W0.heap[w.heap.size]?=some (.cells L.toArray 50 (0,0)):=by rw [gx]; exact heap_alloc_new w.drew _
 have ze:Below w.heap.size w W0:=by rw [gx]; exact qQ ((Below.refl _ _).alloc (yf _) _)
 rw [<- gx] at ju;have wt:BO W0 vb vo x:=hx.congr (ze.block vb dr);have xh:∀ ty dc,(Builtin.copy_ #[65,65] ty #[.slice (some ⟨w.heap.size,i * 2,none⟩) (n + 1 - i) dc,.slice (some ⟨vb,vo,none⟩) 1 mc]).run Tryz.prog W0=.ok (goInt (Nat.min 1 (n + 1 - i):Nat)) (W0.setRow w.heap.size (lay L (i * 2) x.cells).toArray):=fun ty dc =>
  s5 W0 ty _ w.heap.size (i * 2) (n + 1 - i) dc ⟨vb,vo,none⟩ 1 mc L x.cells xp (by rw [uo]; simp only [Nat.min_def]; split <;> omega) (fun j v hj=>by rw [Addr.add_lit]; exact wt j v hj) (by omega) x.one
 have h1l:i * 2 + x.cells.length<=L.length:=by omega
 obtain ⟨L1,cf⟩:∃ L1,L1=lay L (i * 2) x.cells:=⟨_,rfl⟩;have iz:L1.length=L.length:=by rw [cf]; exact QH h1l
 obtain ⟨W1,uk⟩:∃ W1,W1=W0.setRow w.heap.size L1.toArray:=⟨_,rfl⟩;rw [<- cf,<- uk] at xh;have wg:W1.heap[w.heap.size]?=some (.cells L1.toArray 50 (0,0)):=by rw [uk]; exact setRow_heap W0 w.heap.size _ _ _ _ xp
 have ge:Below w.heap.size w W1:=by rw [uk]; exact ze.trans ⟨rfl,rfl,rfl,by simp,fun k hk=>setRow_other W0 w.heap.size k _ (by omega)⟩
 have cz:=(h.drop (k:=i) (by omega)).keep (ZA.of_below ge (fun _=>False)) (fun h=>h);rw [if_neg (by omega),yr] at cz;have im:∀ ty dc sc,(Builtin.copy_ #[65,65] ty #[.slice (some ⟨w.heap.size,(i + 1) * 2,none⟩) (n - i) dc,.slice (some ⟨g,i * 2,none⟩) (n - i) sc]).run Tryz.prog W1.drew=.ok (goInt (Nat.min (n - i) (n - i):Nat)) (W1.drew.setRow w.heap.size (lay L1 ((i + 1) * 2) (AG (l.drop i))).toArray):=fun ty dc sc =>
  s5 W1.drew ty _ w.heap.size ((i + 1) * 2) (n - i) dc ⟨g,i * 2,none⟩ (n - i) sc L1 (AG (l.drop i)) wg (by rw [TD,pg]; congr 1; simp only [Nat.min_def]; split <;> omega)
   (fun j v hj=>by rw [Addr.add_lit]; exact cz.cells j v hj) (by rw [TD,pg]; omega) (lX _)
 obtain ⟨W2,fx⟩:∃ W2,W2=W1.drew.setRow w.heap.size (lay L1 ((i + 1) * 2) (AG (l.drop i))).toArray:=⟨_,rfl⟩;have hE:rM W2 w.heap.size 0 cap L.length (l.take i++x :: l.drop i):=rM.ins2 (c:=cap) (l:=l) (i:=i) (L:=L) (by omega) (by omega) hLc (by omega) (by rw [fx,<- cf]; exact setRow_heap W1.drew w.heap.size _ _ _ _ wg);have nu:Below w.heap.size w W2:=by rw [fx]; exact ge.trans ⟨rfl,rfl,rfl,by simp,fun k hk=>setRow_other W1.drew w.heap.size k _ (by have:=ge.size; omega)⟩
 rw [<- fx] at im;have wb:(l.take i++x :: l.drop i).length=n + 1:=by simp; omega
 have HE:=dN hE;have HK:=dN nu;have HL:=dN wb;clear hE nu ge ze cz h ak hfo xp wt wg gx uk fx cf hx wb hLc
 go_enter Tryz.func72,Tryz.ntmps72
 go_wp2_with (first | (at_builtin; refine nI _ rfl _ _ _ _ rfl _ _ rfl rfl (ju _) ?_) | (at_builtin; refine TH _ rfl _ _ 65 65 rfl _ _ rfl rfl (xh _ _) ?_))
 go_region_law_o (refine jJ rfl _ _ 65 65 rfl _ _ (by simp [Act.eval,Act.put]) (by simp [Act.eval,Act.put]) (im _ _ _) ?_)
 go_wp2_with fail
 go_ret
 exact ⟨w.heap.size,cap,_,congrArg (fun k=>Ending.returned (Value.slice (some ⟨w.heap.size,0,none⟩) k cap)) HL.out.symm,HE.out,ZA.of_below HK.out _,.inl (yf _)⟩
theorem syinsert (v:Value) (l:List cL) (x:cL) (i vb vo mc:Nat) (w:World) (hi:i<=l.length) (h:syO w v l) (hx:BO w vb vo x) (za:qO v≠some vb) (da:l.length<=900) :
  Calls Tryz.prog 72 #[v,.int .i64 i,.slice (some ⟨vb,vo,none⟩) 1 mc] w (syIns w v (l.take i++x :: l.drop i)):=by
 by_cases hn:i=l.length
 ·have:=syend v l x l.length vb vo mc w rfl h hx da;rw [hn,List.take_length,List.drop_length];exact this
 ·rcases h with ⟨rfl,rfl⟩ | ⟨g,c,N,rfl,hE⟩
  ·exact absurd (Nat.le_zero.1 hi) hn
  ·by_cases ga:l.length + 1<=c
   ·obtain ⟨⟨cur,ty,h1,h2,_⟩,_⟩:=id hE;refine (syshift g c N vb vo mc l x l.length i w rfl (by omega) (by omega) hE ga hx (fun h=>za (by rw [h]; rfl))).mono ?_;rintro e w' ⟨rfl,h3,h4⟩;refine ⟨g,c,N,?_,h3,h4.mono fun i _ h=>by subst h; rfl,.inr ⟨rfl,cur,ty,h1,h2⟩⟩;congr 2;simp; omega
   ·exact sygrow g c N vb vo mc l x l.length i w rfl (by omega) da hE ga hx
end
section
open Go Go.RowKit
theorem r9 {av:Av} {w:World} {v0:Value} {g0:Nat->Prop} {E:List cL} {l:List (List AV)} {x:List AV} {xe:cL} {k vb vo c:Nat} (hk:k<=E.length) (hO:syO w v0 E) (jd:BO w vb vo xe) (hvb:¬ av vb vo) (lc:rB av w x xe.cells) (hl:rB av w l.flatten (AG E)) (gb:AA 2 (x :: l)=true) (da:l.length=E.length) (h9:l.length<=900) (hb:∀ b,qO v0=some b->g0 b) (hg:∀ b,g0 b->∀ o,av b o) :
  Calls Tryz.prog 72 #[v0,.int .i64 k,.slice (some ⟨vb,vo,none⟩) 1 c] w fun e w'=>∃ v,e=.returned v/\H3 w g0 2 av w' (l.take k++x :: l.drop k) v/\ZA g0 w w':=by
 rw [cB,ye,decide_eq_true_eq] at gb;refine (syinsert v0 E xe k vb vo c w hk hO jd (fun h=>hvb (hg vb (hb vb h) vo)) (by omega)).mono ?_;rintro e w' ⟨g,c',N,rfl,⟨⟨ua,uh,e1,e2,e3,e4⟩,e5⟩,hK,eg⟩;have od:ZA g0 w w':=hK.mono (fun i _ h=>hb i h);have wb:(l.take k++x :: l.drop k).length=(E.take k++xe :: E.drop k).length:=by simp [da]
 have hz:AA 2 (l.take k++x :: l.drop k)=true:=by rw [iI,cB,ZI gb.2,CK gb.2,gb.1]; rfl
 have held:=LM od hg (g:=g) (by rcases eg with h | ⟨h,_⟩; exact .inl h; exact .inr (hb g h));refine ⟨_,rfl,⟨g,c',ua,uh,by rw [wb],?_,e1,by rw [wb]; exact e5,by omega,?_⟩,od⟩
 ·rcases eg with h | ⟨h,cur,ty,h1,h2⟩
  ·exact .inl h
  ·exact .inr ⟨hb g h,cur,ty,h1,by omega⟩
 ·rw [yY] at e4;rw [XG hz,wb,e4,List.flatten_append,yv,NK k gb.2,BK k gb.2,zL,pN,<- XP,<- xL];exact rB.held held _ _ (pE (xM _ hl) (pE lc (lM _ hl)))
theorem w9 {av:Av} {w:World} {g0:Nat->Prop} {E:List cL} {l:List (List AV)} {k g c N:Nat} (hk:k<E.length) (hO:rM w g 0 c N E) (hl:rB av w l.flatten (AG E)) (gb:AA 2 l=true) (da:l.length=E.length) (h9:l.length<=900) (hb:∀ b,g0 b ↔ b=g) (hg:∀ o,av g o) :
  Calls Tryz.prog 73 #[.slice (some ⟨g,0,none⟩) E.length c,.int .i64 k,.int .i64 ((k:Int) + 1)] w fun e w'=>∃ v,e=.returned v/\H3 w g0 2 av w' (l.take k++l.drop (k + 1)) v/\ZA g0 w w':=by
 obtain ⟨⟨cur0,lw,c1,c2,_⟩,_⟩:=id hO;refine (sydelete g 0 c N E E.length k w rfl hk (by omega) hO).mono ?_;rintro e w' ⟨c',rfl,⟨⟨ua,uh,e1,e2,e3,e4⟩,e5⟩,hK⟩;have od:ZA g0 w w':=hK.mono (fun i _ h=>(hb i).2 h);rw [List.eraseIdx_eq_take_drop_succ] at e4 e5 ⊢;have wb:(l.take k++l.drop (k + 1)).length=(E.take k++E.drop (k + 1)).length:=by simp [da]
 have hz:AA 2 (l.take k++l.drop (k + 1))=true:=by rw [iI,ZI gb,CK gb]; rfl
 have held:=LM od (fun b h o=>by rw [(hb b).1 h]; exact hg o) (g:=g) (.inr ((hb g).2 rfl));refine ⟨_,rfl,⟨g,c',ua,uh,by rw [wb],.inr ⟨(hb g).2 rfl,cur0,lw,c1,by omega⟩,e1,by rw [wb]; exact e5,by omega,?_⟩,od⟩;rw [yY] at e4;rw [XG hz,wb,e4,List.flatten_append,NK k gb,BK (k + 1) gb,zL,<- XP,<- xL];exact rB.held held _ _ (pE (xM _ hl) (lM _ hl))
theorem sygiven {av:Av} {w:World} {b:Bool} {l:List (List AV)} {v0:Value} {g0:Nat->Prop} (hg:G3 2 av w b l v0 g0) (gb:AA 2 l=true) (h9:l.length<=900) :
  (l=[]/\(∃ A,v0=.slice A 0 0)/\∀ g,¬ g0 g)\/(b=false/\∃ (E:List cL) (g c N:Nat),E.length=l.length/\v0=.slice (some ⟨g,0,none⟩) E.length c/\(∀ b,g0 b ↔ b=g)/\(∀ o,av g o)/\rB av w l.flatten (AG E)/\rM w g 0 c N E):=by
 rcases hg with ⟨h1,h2,_,h3⟩ | ⟨hb,g,c,cur,ty,hv,h0,hh,hc,hz,pd,hr⟩
 ·exact .inl ⟨h1,h2,h3⟩
 ·have wb:=lF hr;have hf:=XG gb;obtain ⟨E,hE,hC⟩:=syC_of l.length (cur.toList.take l.flatten.length) (by rw [<- wb,hf]) (zM hr);refine .inr ⟨hb,E,g,c,cur.size,hE,by rw [hE]; exact hv,h0,pd,by rw [hC]; exact hr,⟨⟨cur,ty,hh,rfl,by omega,?_⟩,by rw [hE]; exact hc⟩⟩;rw [yY,hC,hE,hf]
theorem syins0 {av:Av} {w:World} {g0:Nat->Prop} {x:List AV} {xe:cL} {vb vo c:Nat} (A:Option Addr) (jd:BO w vb vo xe) (lc:rB av w x xe.cells) (gb:AA 2 [x]=true) (hg:∀ b,¬ g0 b) :
  Calls Tryz.prog 72 #[.slice A 0 0,.int .i64 0,.slice (some ⟨vb,vo,none⟩) 1 c] w fun e w'=>∃ v,e=.returned v/\H3 w g0 2 av w' [x] v/\ZA g0 w w':=by
 refine (syend0 A xe vb vo c w jd).mono ?_;rintro e w' ⟨g,c',N,rfl,⟨⟨ua,uh,e1,e2,e3,e4⟩,e5⟩,hK,eg⟩;have od:ZA g0 w w':=hK.mono (fun i _ h=>h.elim);have held:=LM (av:=av) od (fun b h=>absurd h (hg b)) (g:=g) (.inl eg);refine ⟨_,rfl,⟨g,c',ua,uh,rfl,.inl eg,e1,e5,by simp only [List.length_singleton] at e3 e5 ⊢; omega,?_⟩,od⟩;rw [yY] at e4;rw [XG gb];have kt:ua.toList.take ([x].length * 2)=AG [xe]:=e4;rw [kt,List.flatten_singleton];have dk:AG [xe]=xe.cells:=by simp [AG]
 rw [dk];exact rB.held held _ _ lc
theorem syins_ok {O:XE} {b:Bool} {l:List (List AV)} {x:List AV} {i:Int} (h0:0<=i) (h1:i<=l.length) (h9:l.length<=900) (gb:AA 2 (x :: l)=true) :
  LA Tryz.prog O 72 [.undef,.sl b l,.int .i64 i,.sl false [x]] (some (.int .i64 2)) (.sl false (l.take i.toNat++x :: l.drop i.toNat),none):=by
 unfold LA;refine (?_:SG _ _ _ _ _ _);refine ⟨enters_of Tryz.func72 (by kernel_rfl) rfl,?_⟩;intro av w v0 vs g0 pd eb hg;simp only [sG] at eb;obtain ⟨u1,us1,rfl,oq,u2,us2,rfl,dp,rfl⟩:=eb;rw [JA] at oq;subst oq;rw [WC] at dp;simp only [ID] at dp;obtain ⟨A,c,rfl,hc,_,_,hs⟩:=dp;obtain ⟨vb,vo,rfl,ja⟩:=(hs trivial).2 (by simp);rw [XD] at ja;simp only [yv,List.flatten_nil,yz] at ja;obtain ⟨xs,lc,uo⟩:=FI ja;have gq:=gb;rw [cB,ye,decide_eq_true_eq] at gq;have hxl:xs.length=2:=by rw [<- lF lc]; exact gq.1
 have jd:BO w vb vo ⟨xs,hxl,zM lc⟩:=fun j u hu=>(uo j u hu).1
 have hvb:¬ av vb vo:=by
  have:=(uo 0 _ (yg (by omega))).2
  rwa [yJ] at this
 have hi:i=(i.toNat:Int):=by omega
 rcases sygiven hg gq.2 h9 with ⟨rfl,⟨A0,rfl⟩,jr⟩ | ⟨rfl,E,g,cg,N,hE,rfl,jr,fq,hr,hB⟩
 ·have ui:i=0:=by simp at h1; omega
  subst ui;exact syins0 A0 jd lc gb jr
 ·have:=r9 (v0:=.slice (some ⟨g,0,none⟩) E.length cg) (g0:=g0) (E:=E) (k:=i.toNat) (c:=c) (by omega) (.inr ⟨g,cg,N,rfl,hB⟩) jd hvb lc hr gb hE.symm h9 (fun b h=>by simp [qO] at h; exact (jr b).2 h.symm) (fun b h o=>by rw [(jr b).1 h]; exact fq o);rw [<- hi] at this;exact this
theorem sydel_ok {O:XE} {l:List (List AV)} {i:Int} (h0:0<=i) (h1:i + 1<=l.length) (h9:l.length<=900) (gb:AA 2 l=true) :
  LA Tryz.prog O 73 [.undef,.sl false l,.int .i64 i,.int .i64 (i + 1)] (some (.int .i64 2)) (.sl false (l.take i.toNat++l.drop (i + 1).toNat),none):=by
 unfold LA;refine (?_:SG _ _ _ _ _ _);refine ⟨enters_of Tryz.func73 (by kernel_rfl) rfl,?_⟩;intro av w v0 vs g0 pd eb hg;simp only [sG] at eb;obtain ⟨u1,us1,rfl,oq,u2,us2,rfl,dp,rfl⟩:=eb;rw [JA] at oq dp;subst oq;subst dp;have hi:i=(i.toNat:Int):=by omega
 rcases sygiven hg gb h9 with ⟨rfl,_⟩ | ⟨_,E,g,cg,N,hE,rfl,jr,fq,hr,hB⟩
 ·simp at h1; omega
 ·have:=w9 (k:=i.toNat) (by omega) hB hr gb hE.symm h9 jr fq;rw [<- hi] at this;rw [show (i + 1).toNat=i.toNat + 1 from by omega];exact this
end
section
open Go Go.Shelf Go.RowKit
def E6:Go.Shelf.Ren:=⟨fun | 171=>50 | 243=>89 | 246=>90 | 283=>132 | 284=>133 | 285=>134 | 286=>135 | 129=>171 | 317=>170 | 318=>172 | 319=>173 | 320=>174 | 337=>188 | 338=>189 | n=>n,fun | 3=>3 | 9=>9 | 2=>2 | 4=>4 | 171=>178 | 0=>0 | 53=>179 | 37=>133 | 5=>5 | 173=>182 | 212=>204 | 51=>205 | 20=>20 | 213=>206 | 46=>207 | 232=>227 | 233=>228 | n=>n,fun | 17=>0 | 18=>2 | 19=>3 | n=>n⟩
theorem lays171:Lays.n171 Tryz.prog E6 where
 mixed:=by kernel_rfl
 f129:=Tryz.func171.trans (congrArg some (by kernel_rfl))
 f171:=Tryz.func50.trans (congrArg some (by kernel_rfl))
 f243:=Tryz.func89.trans (congrArg some (by kernel_rfl))
 f246:=Tryz.func90.trans (congrArg some (by kernel_rfl))
 f283:=Tryz.func132.trans (congrArg some (by kernel_rfl))
 f284:=Tryz.func133.trans (congrArg some (by kernel_rfl))
 f285:=Tryz.func134.trans (congrArg some (by kernel_rfl))
 f286:=Tryz.func135.trans (congrArg some (by kernel_rfl))
 f317:=Tryz.func170.trans (congrArg some (by kernel_rfl))
 f318:=Tryz.func172.trans (congrArg some (by kernel_rfl))
 f319:=Tryz.func173.trans (congrArg some (by kernel_rfl))
 f320:=Tryz.func174.trans (congrArg some (by kernel_rfl))
 f337:=Tryz.func188.trans (congrArg some (by kernel_rfl))
 f338:=Tryz.func189.trans (congrArg some (by kernel_rfl))
 t0:=Tryz.underlying0
 a0:=Tryz.isAgg0
 z0:=Tryz.sizeOf0
 v0:=Tryz.zeroValue0
 t2:=Tryz.underlying2
 a2:=Tryz.isAgg2
 z2:=Tryz.sizeOf2
 v2:=Tryz.zeroValue2
 t3:=Tryz.underlying3
 a3:=Tryz.isAgg3
 z3:=Tryz.sizeOf3
 v3:=Tryz.zeroValue3
 t4:=Tryz.underlying4
 a4:=Tryz.isAgg4
 z4:=Tryz.sizeOf4
 v4:=Tryz.zeroValue4
 t5:=Tryz.underlying5
 a5:=Tryz.isAgg5
 z5:=Tryz.sizeOf5
 v5:=Tryz.zeroValue5
 t9:=Tryz.underlying9
 a9:=Tryz.isAgg9
 z9:=Tryz.sizeOf9
 v9:=Tryz.zeroValue9
 t20:=Tryz.underlying20
 a20:=Tryz.isAgg20
 z20:=Tryz.sizeOf20
 v20:=Tryz.zeroValue20
 t37:=Tryz.underlying133
 a37:=Tryz.isAgg133
 z37:=Tryz.sizeOf133
 v37:=Tryz.zeroValue133
 t46:=Tryz.underlying207
 a46:=Tryz.isAgg207
 z46:=Tryz.sizeOf207
 v46:=Tryz.zeroValue207
 t51:=Tryz.underlying205
 a51:=Tryz.isAgg205
 z51:=Tryz.sizeOf205
 v51:=Tryz.zeroValue205
 t53:=Tryz.underlying179
 a53:=Tryz.isAgg179
 z53:=Tryz.sizeOf179
 v53:=Tryz.zeroValue179
 t171:=Tryz.underlying178
 a171:=Tryz.isAgg178
 z171:=Tryz.sizeOf178
 v171:=Tryz.zeroValue178
 t173:=Tryz.underlying182
 a173:=Tryz.isAgg182
 z173:=Tryz.sizeOf182
 v173:=Tryz.zeroValue182
 t212:=Tryz.underlying204
 a212:=Tryz.isAgg204
 z212:=Tryz.sizeOf204
 v212:=Tryz.zeroValue204
 t213:=Tryz.underlying206
 a213:=Tryz.isAgg206
 z213:=Tryz.sizeOf206
 t232:=Tryz.underlying227
 a232:=Tryz.isAgg227
 z232:=Tryz.sizeOf227
 v232:=Tryz.zeroValue227
 t233:=Tryz.underlying228
 a233:=Tryz.isAgg228
 z233:=Tryz.sizeOf228
 v233:=Tryz.zeroValue228
 g17:=by kernel_rfl
 g18:=by kernel_rfl
 g19:=by kernel_rfl
def iW:Go.Shelf.Ren:=⟨fun | 156=>54 | 165=>92 | 166=>93 | 169=>94 | 240=>136 | 241=>137 | 276=>175 | 277=>176 | n=>n,fun | 31=>92 | 9=>9 | 3=>3 | 4=>4 | 0=>0 | 20=>20 | 72=>135 | 76=>139 | 70=>132 | 37=>133 | 75=>138 | 127=>184 | 164=>209 | 5=>5 | 80=>141 | n=>n,fun | n=>n⟩
theorem lays156:Lays.n156 Tryz.prog iW where
 mixed:=by kernel_rfl
 f156:=Tryz.func54.trans (congrArg some (by kernel_rfl))
 f165:=Tryz.func92.trans (congrArg some (by kernel_rfl))
 f166:=Tryz.func93.trans (congrArg some (by kernel_rfl))
 f169:=Tryz.func94.trans (congrArg some (by kernel_rfl))
 f240:=Tryz.func136.trans (congrArg some (by kernel_rfl))
 f241:=Tryz.func137.trans (congrArg some (by kernel_rfl))
 f276:=Tryz.func175.trans (congrArg some (by kernel_rfl))
 f277:=Tryz.func176.trans (congrArg some (by kernel_rfl))
 t0:=Tryz.underlying0
 a0:=Tryz.isAgg0
 z0:=Tryz.sizeOf0
 v0:=Tryz.zeroValue0
 t3:=Tryz.underlying3
 a3:=Tryz.isAgg3
 z3:=Tryz.sizeOf3
 v3:=Tryz.zeroValue3
 t4:=Tryz.underlying4
 a4:=Tryz.isAgg4
 z4:=Tryz.sizeOf4
 v4:=Tryz.zeroValue4
 t9:=Tryz.underlying9
 a9:=Tryz.isAgg9
 z9:=Tryz.sizeOf9
 v9:=Tryz.zeroValue9
 t20:=Tryz.underlying20
 a20:=Tryz.isAgg20
 z20:=Tryz.sizeOf20
 v20:=Tryz.zeroValue20
 t31:=Tryz.underlying92
 a31:=Tryz.isAgg92
 z31:=Tryz.sizeOf92
 v31:=Tryz.zeroValue92
 t37:=Tryz.underlying133
 a37:=Tryz.isAgg133
 z37:=Tryz.sizeOf133
 v37:=Tryz.zeroValue133
 t70:=Tryz.underlying132
 a70:=Tryz.isAgg132
 z70:=Tryz.sizeOf132
 v70:=Tryz.zeroValue132
 t72:=Tryz.underlying135
 a72:=Tryz.isAgg135
 z72:=Tryz.sizeOf135
 v72:=Tryz.zeroValue135
 t75:=Tryz.underlying138
 a75:=Tryz.isAgg138
 z75:=Tryz.sizeOf138
 v75:=Tryz.zeroValue138
 t76:=Tryz.underlying139
 a76:=Tryz.isAgg139
 z76:=Tryz.sizeOf139
 v76:=Tryz.zeroValue139
 t127:=Tryz.underlying184
 a127:=Tryz.isAgg184
 z127:=Tryz.sizeOf184
 v127:=Tryz.zeroValue184
 t164:=Tryz.underlying209
 a164:=Tryz.isAgg209
 z164:=Tryz.sizeOf209
 v164:=Tryz.zeroValue209
theorem joinX:Builder.Extra Tryz.prog iW where
 sizeBuilder:=by kernel_rfl
 liesBuilder:=by kernel_rfl
 t5:=Tryz.underlying5
 a5:=Tryz.isAgg5
 z5:=Tryz.sizeOf5
 v5:=Tryz.zeroValue5
 infoByte:=by kernel_rfl
 cellsByte:=by kernel_rfl
 sizeByte:=by kernel_rfl
 neB5:=by decide
theorem g8 (i:Nat) (hi:i<100) (w:World) :
  Calls Tryz.prog 50 #[.int .i64 i] w fun e w'=>e=.returned (.string ⟨(Lib.decDigits i).toArray⟩)/\w'=w:=Any.strconv_Itoa_small lays171 i hi w
theorem join_none (a:Option Addr) (c:Nat) (sep:ByteArray) (w:World) :
  Calls Tryz.prog 54 #[.slice a 0 c,.string sep] w fun e w'=>e=.returned (.string ⟨#[]⟩)/\w'=w:=Any.strings_Join_none lays156 joinX a c sep w
theorem join_any (bk o c:Nat) (xs:List ByteArray) (sep:ByteArray) (w:World)
  (rz:∀ (j:Nat) x,xs[j]?=some x->w.cell? ⟨bk,o + j,none⟩=some (.string x))
  (hbk:bk<w.heap.size) (hN:xs.length<=140737488355328) (ff:xs.length<=c)
  (da:(Lib.join (xs.map (·.data.toList)) sep.data.toList).length<=140737488355328) :
  Calls Tryz.prog 54 #[.slice (some ⟨bk,o,none⟩) xs.length c,.string sep] w fun e w'=>e=.returned (.string ⟨(Lib.join (xs.map (·.data.toList)) sep.data.toList).toArray⟩)/\Below w.heap.size w w':=Any.strings_Join lays156 joinX bk o c xs sep w rz hbk hN ff da
end
section
open Go Go.RowKit
theorem jnB_eq (sep:List UInt8):∀ xs:List (List UInt8),jnB sep xs=Lib.join xs sep
 | []=>rfl
 | [x]=>(Lib.join_one x sep).symm
 | x :: y :: r=>by
  show x++sep++jnB sep (y :: r)=_;rw [jnB_eq sep (y :: r),Lib.join_cons,Lib.join_cons];simp [Lib.joinTail,yo]
theorem itoa_ok {O:XE} {n:Int} (h0:0<=n) (h1:n<100):LA Tryz.prog O 50 [.int .i64 n] none (.str ⟨(if n<10 then [UInt8.ofNat (48 + n.toNat)] else [UInt8.ofNat (48 + n.toNat / 10),UInt8.ofNat (48 + n.toNat % 10)]).toArray⟩,none):=by
 refine (LA.of rfl).2 ⟨enters_of Tryz.func50 (by kernel_rfl) rfl,?_⟩;intro av w vs pd eb;simp only [sG] at eb;obtain ⟨u,us,rfl,hu,rfl⟩:=eb;rw [JA] at hu;subst hu;have:=g8 n.toNat (by omega) w;rw [show ((n.toNat:Nat):Int)=n from by omega] at this;refine this.mono ?_;rintro e w' ⟨rfl,rfl⟩;refine ⟨_,rfl,?_,Below.refl _ _⟩;simp only [ID];congr 3;by_cases h:n<10
 ·rw [if_pos h,Lib.decDigits_one (by omega)]
 ·rw [if_neg h,Lib.decDigits_two (by omega) (by omega)]
theorem kW {av:Av} {w:World}:∀ {l:List (List AV)} {xs:List (List UInt8)} {us:List Value},AZ l=some xs->rB av w l.flatten us->us=xs.map (fun x=>.string ⟨x.toArray⟩)/\l.length=xs.length
 | [],xs,us,h,hr=>by
  injection h with h;subst h;exact ⟨hr,rfl⟩
 | c :: r,xs,us,h,hr=>by
  unfold AZ at h;split at h
  ·rename_i e; cases e
  ·rename_i x r' e;injection e with e1 e2;subst e1; subst e2;obtain ⟨ys,hy,h⟩:=yl.1 h;subst h;obtain ⟨u,db,rfl,hu,_,hr⟩:=hr;obtain ⟨h1,h2⟩:=kW hy hr;subst h1;simp only [ID] at hu;subst hu;exact ⟨by simp,by simp [h2]⟩
  ·cases h
theorem join_ok {O:XE} {l:List (List AV)} {s:ByteArray} {xs:List (List UInt8)} (hx:AZ l=some xs) (hl:l.length<=1000) (h47:(jnB s.data.toList xs).length<=140737488355328):LA Tryz.prog O 54 [.sl false l,.str s] none (.str ⟨(jnB s.data.toList xs).toArray⟩,none):=by
 refine (LA.of rfl).2 ⟨enters_of Tryz.func54 (by kernel_rfl) rfl,?_⟩;intro av w vs pd eb;simp only [sG] at eb;obtain ⟨u1,us1,rfl,oq,u2,us2,rfl,dp,rfl⟩:=eb;rw [LF] at dp;subst dp;rw [WC] at oq;simp only [ID] at oq;obtain ⟨A,c,rfl,hc,_,_,hs⟩:=oq;rw [jnB_eq] at h47 ⊢;cases l with
 | nil =>
  injection hx with hx;subst hx;refine (join_none A c s w).mono ?_;rintro e w' ⟨rfl,rfl⟩;exact ⟨_,rfl,rfl,Below.refl _ _⟩
 | cons d l =>
  obtain ⟨bk,o,rfl,ja⟩:=(hs trivial).2 (by simp);rw [XD] at ja;obtain ⟨us,hr,gc⟩:=FI ja;obtain ⟨h1,h2⟩:=kW hx hr;subst h1;have hd:(xs.map (fun x=>(⟨x.toArray⟩:ByteArray))).map (·.data.toList)=xs:=by simp [Function.comp_def]
  have re:∀ (j:Nat) x,(xs.map (fun x=>(⟨x.toArray⟩:ByteArray)))[j]?=some x->w.cell? ⟨bk,o + j,none⟩=some (.string x):=fun j x hj=>by
   refine (gc j (.string x) ?_).1;rw [yc] at hj ⊢;obtain ⟨y,hy,rfl⟩:=yl.1 hj;rw [hy]; rfl
  have pb:0<xs.length:=by rw [<- h2]; simp
  obtain ⟨x0,hx0⟩:∃ x0,(xs.map (fun x=>(⟨x.toArray⟩:ByteArray)))[0]?=some x0:=⟨_,yg (by simpa using pb)⟩;have hbk:bk<w.heap.size:=by
   have h:=re 0 x0 hx0;obtain ⟨cc,ty,fz,h,_⟩:=cN h;exact cA h
  have:=join_any bk o c (xs.map fun x=>⟨x.toArray⟩) s w re hbk (by simp; omega) (by simp; omega) (by rw [hd]; exact h47);rw [hd,y7,<- h2] at this;refine this.mono ?_;rintro e w' ⟨rfl,hb⟩;exact ⟨_,rfl,rfl,hb⟩
theorem insE_ok {z:Nat} {args:List AV} {r:RV} (h:insE z args=some r):∃ b l i x,args=[.undef,.sl b l,.int .i64 i,.sl false [x]]/\r=(.sl false (l.take i.toNat++x :: l.drop i.toNat),none)/\0<=i/\i<=l.length/\l.length<=900/\AA z (x :: l)=true:=by
 unfold insE at h;split at h
 ·rename_i b l i x;split at h
  ·rename_i hc;injection h with h;exact ⟨b,l,i,x,rfl,h.symm,hc.1,hc.2.1,hc.2.2.1,hc.2.2.2.1⟩
  ·cases h
 ·cases h
theorem delE_ok {z:Nat} {args:List AV} {r:RV} (h:delE z args=some r):∃ l i,args=[.undef,.sl false l,.int .i64 i,.int .i64 (i + 1)]/\r=(.sl false (l.take i.toNat++l.drop (i + 1).toNat),none)/\0<=i/\i + 1<=l.length/\l.length<=900/\AA z l=true:=by
 unfold delE at h;split at h
 ·rename_i l i j;split at h
  ·rename_i hc;injection h with h;obtain ⟨h1,rfl,h3,h4,h5⟩:=hc;exact ⟨l,i,rfl,h.symm,h1,h3,h4,h5⟩
  ·cases h
 ·cases h
theorem evoExt_ok {O:XE} (f:FuncId) (args:List AV) (S:Option AV) (r:RV) (h:bA f args S=some r):LA Tryz.prog O f args S r:=by
  unfold bA at h
  repeat' split at h
  all_goals first
    | (subst_vars; obtain ⟨b,l,i,x,rfl,rfl,h0,h1,h2,h3⟩:=insE_ok h; first | exact myins_ok h0 h1 h2 h3 | exact syins_ok h0 h1 h2 h3)
    | (subst_vars; obtain ⟨l,i,rfl,rfl,h0,h1,h2,h3⟩:=delE_ok h; first | exact mydel_ok h0 h1 h2 h3 | exact sydel_ok h0 h1 h2 h3)
    | exact eU f args S r h
    | (subst_vars
       unfold itoaE at h;split at h
       · split at h
         · rename_i hc
           injection h with h;subst h;exact itoa_ok hc.1 hc.2
         · cases h
       · cases h)
    | (subst_vars
       unfold jnE at h;split at h
       · obtain ⟨xs,hx,h⟩:=y9.1 h
         split at h
         · rename_i hc
           injection h with h;subst h;exact join_ok hx hc.1 hc.2
         · cases h
       · cases h)
    | cases h
end
section
open Go Go.RowKit
theorem WU:Tryz.prog.follows .mixedOrders=true:=by kernel_rfl
theorem bld_evo {f:FuncId} {args:List AV} {S:Option AV} {r:RV} (h:dA f args S=some r):bA f args S=some r:=by
  have h':=h;unfold dA at h
  first
  | (cases h; done)
  | (unfold bA
     split at h
     · rename_i e; subst e; exact h'
     · split at h
       · rename_i e; subst e; exact h'
       · cases h)
theorem NX {f:Nat} {args:List AV} {S:Option AV} {r:RV} (h:rD lA dA f args S=some r):rD lA bA f args S=some r:=evC_mono (fun _ _ _ _ h=>bld_evo h) h
theorem DM {O:XE} {f:FuncId} (h1:rD lA dA f [.undef,.sl true []] none=some (.sl true [],none)) (h2:rD lA dA f [.undef,.bl []] none=some (.sl false [],none)):LA Tryz.prog O f [.undef,.sl false []] none (.sl false [],none):=by
 have k1:=LA.own (O:=O) (args:=[.sl true []]) rfl (GM WU L3 eU h1);have k2:=LA.own (O:=O) (args:=[.bl []]) rfl (GM WU L3 eU h2);unfold LA;refine (?_:SG _ _ _ _ _ _);refine ⟨k1.1,?_⟩;intro av w vs pd eb;simp only [sG] at eb;obtain ⟨u,us,rfl,hu,rfl⟩:=eb;rw [WC] at hu;simp only [ID] at hu;obtain ⟨A,c,rfl,_,_,_,hs⟩:=hu;cases A with
 | none =>
  obtain rfl:c=0:=(hs trivial).1 rfl;refine (k1.2 av w [_] pd ⟨_,_,rfl,(WC).2 ?_,rfl⟩).mono ?_
  ·simp only [ID];exact ⟨none,0,rfl,by simp,by simp,fun _=>⟨rfl,rfl,rfl⟩,(fun h=>by cases h)⟩
  ·rintro e w' ⟨v,rfl,hv,hb⟩;refine ⟨v,rfl,?_,hb⟩;rw [if_pos (by rfl)] at hv ⊢;refine ⟨?_,hv.2⟩;replace hv:=hv.1;simp only [ID] at hv ⊢;obtain ⟨A',c',rfl,_,_,hn,_⟩:=hv;obtain ⟨rfl,_,rfl⟩:=hn trivial;exact ⟨none,0,rfl,by simp,by simp,(fun h=>by cases h),fun _=>⟨fun _=>rfl,fun h=>absurd h (by simp)⟩⟩
 | some a =>
  refine (k2.2 av w [_] pd ⟨_,_,rfl,?_,rfl⟩).mono ?_
  ·simp only [GA];exact ⟨a,c,rfl,by simp,by simp,fun h=>absurd h (by simp)⟩
  ·rintro e w' ⟨v,rfl,hv,hb⟩;exact ⟨v,rfl,hv,hb⟩
theorem clo_ty1:rD lA dA 59 [.undef,.sl true []] none=some (.sl true [],none):=by
 refine eD pB rfl rfl ?_;simp [pB,-J,-y6,-y5,y0,UJ,JE,uX,iB,bG]
theorem clo_ty2:rD lA dA 59 [.undef,.bl []] none=some (.sl false [],none):=by
 refine eD pB rfl rfl ?_;have ga:∀ b,RA b 0=true:=fun b=>by rw [sA]; omega
 simp [pB,-J,-y6,-y5,y0,UJ,JE,uX,iB,bG,ga]
theorem clo_sy1:rD lA dA 60 [.undef,.sl true []] none=some (.sl true [],none):=by
 refine eD MA rfl rfl ?_;simp [MA,-J,-y6,-y5,y0,UJ,JE,uX,iB,bG]
theorem clo_sy2:rD lA dA 60 [.undef,.bl []] none=some (.sl false [],none):=by
 refine eD MA rfl rfl ?_;have ga:∀ b,RA b 0=true:=fun b=>by rw [sA]; omega
 simp [MA,-J,-y6,-y5,y0,UJ,JE,uX,iB,bG,ga]
theorem clo_me1:rD lA dA 61 [.undef,.sl true []] none=some (.sl true [],none):=by
 refine eD NA rfl rfl ?_;simp [NA,-J,-y6,-y5,y0,UJ,JE,uX,iB,bG]
theorem clo_me2:rD lA dA 61 [.undef,.bl []] none=some (.sl false [],none):=by
 refine eD NA rfl rfl ?_;have ga:∀ b,RA b 0=true:=fun b=>by rw [sA]; omega
 simp [NA,-J,-y6,-y5,y0,UJ,JE,uX,iB,bG,ga]
theorem clo_va1:rD lA dA 62 [.undef,.sl true []] none=some (.sl true [],none):=by
 refine eD qB rfl rfl ?_;simp [qB,-J,-y6,-y5,y0,UJ,JE,uX,iB,bG]
theorem clo_va2:rD lA dA 62 [.undef,.bl []] none=some (.sl false [],none):=by
 refine eD qB rfl rfl ?_;have ga:∀ b,RA b 0=true:=fun b=>by rw [sA]; omega
 simp [qB,-J,-y6,-y5,y0,UJ,JE,uX,iB,bG,ga]
theorem clo_ra1:rD lA dA 63 [.undef,.sl true []] none=some (.sl true [],none):=by
 refine eD lB rfl rfl ?_;simp [lB,-J,-y6,-y5,y0,UJ,JE,uX,iB,bG]
theorem clo_ra2:rD lA dA 63 [.undef,.bl []] none=some (.sl false [],none):=by
 refine eD lB rfl rfl ?_;have ga:∀ b,RA b 0=true:=fun b=>by rw [sA]; omega
 simp [lB,-J,-y6,-y5,y0,UJ,JE,uX,iB,bG,ga]
def uT (f:FuncId):Bool:=f == 59||f == 60||f == 61||f == 62||f == 63
def BI:List AV->Option AV->Bool
 | [.undef,.sl false []],none=>true
 | _,_=>false
theorem f8 {args:List AV} {S:Option AV} (h:BI args S=true):args=[.undef,.sl false []]/\S=none:=by
 unfold BI at h;split at h
 ·exact ⟨rfl,rfl⟩
 ·cases h
noncomputable def BA:uB:=fun f args S=>if (uT f&&BI args S)=true then some (.sl false [],none) else rD lA bA f args S
theorem evoX_ok {O:XE} (f:Nat) (args:List AV) (S:Option AV) (r:RV) (h:BA f args S=some r):LA Tryz.prog O f args S r:=by
 unfold BA at h;split at h
 ·rename_i hc;rw [ye] at hc;obtain ⟨hc,hn⟩:=hc;obtain ⟨rfl,rfl⟩:=f8 hn;injection h with h;subst h;simp only [uT,Bool.or_eq_true,beq_iff_eq] at hc;rcases hc with (((rfl | rfl) | rfl) | rfl) | rfl
  ·exact DM clo_ty1 clo_ty2
  ·exact DM clo_sy1 clo_sy2
  ·exact DM clo_me1 clo_me2
  ·exact DM clo_va1 clo_va2
  ·exact DM clo_ra1 clo_ra2
 ·exact GM WU L3 evoExt_ok h
def sB:Nat->Option DA
 | 36=>some gG
 | 35=>some OE
 | 37=>some PB
 | 66=>some lE
 | 67=>some fE
 | 71=>some gE
 | 14=>some sD
 | 43=>some PE
 | 17=>some rH
 | 29=>some IE
 | 23=>some qI
 | 3=>some rC
 | 4=>some UH
 | 5=>some kG
 | 6=>some tE
 | 7=>some jG
 | 8=>some qH
 | 9=>some EF
 | 10=>some HB
 | _=>none
theorem evoT_ok (f:Nat) (c:DA) (h:sB f=some c):zA Tryz.prog f c:=by
 unfold sB at h;split at h
 ·injection h with h; subst h; exact AO
 ·injection h with h; subst h; exact qN
 ·injection h with h; subst h; exact MM
 ·injection h with h; subst h; exact SO
 ·injection h with h; subst h; exact eK
 ·injection h with h; subst h; exact rK
 ·injection h with h; subst h; exact PO
 ·injection h with h; subst h; exact wN
 ·injection h with h; subst h; exact OP
 ·injection h with h; subst h; exact NM
 ·injection h with h; subst h; exact iL
 ·injection h with h; subst h; exact EG
 ·injection h with h; subst h; exact tK
 ·injection h with h; subst h; exact DI
 ·injection h with h; subst h; exact dF
 ·injection h with h; subst h; exact SI
 ·injection h with h; subst h; exact PJ
 ·injection h with h; subst h; exact KH
 ·injection h with h; subst h; exact MF
 ·cases h
theorem evoT_det (f:Nat) (c:DA) (h:sB f=some c):c.code.det=true:=by
 unfold sB at h;split at h <;> first | (cases h; done) | (injection h with h; subst h; kernel_rfl)
abbrev pQ (f:Nat) (args:List AV) (v:AV):Prop:=rD sB BA f args none=some (v,none)
theorem ev_V {f:Nat} {args:List AV} {S:Option AV} {r:RV} (h:rD lA bA f args S=some r) (hT:sB f=none:=by rfl) (hc:uT f=false:=by rfl):rD sB BA f args S=some r:=uE hT (by unfold BA; rw [if_neg (by simp [hc])]; exact h)
theorem LE {f:Nat} {args:List AV} {v:AV} (h:wB f args v) (hT:sB f=none:=by rfl) (hc:uT f=false:=by rfl):pQ f args v:=ev_V (NX h) hT hc
theorem QE {b:C} {r:RV} (n:Nat) (I:Nat->pA->Prop) (E:Ex->pA->Prop)
  (step:∀ i,i<=n->∀ s k,I i s->(i<n->∀ s',I (i + 1) s'->zF sB BA b s' k=some r)->(∀ e s',E e s'->k e s'=some r)->zF sB BA b s k=some r)
  (s:pA) (k:Ex->pA->Option RV) (h:I 0 s) (hk:∀ e s',E e s'->k e s'=some r):zF sB BA b s k=some r:=by
 have:∀ m i,i + m=n->∀ s,I i s->zF sB BA b s k=some r:=by
  intro m
  induction m with
  | zero=>intro i hi s h; exact step i (by omega) s k h (fun ba=>absurd ba (by omega)) hk
  | succ m ih=>intro i hi s h; exact step i (by omega) s k h (fun _ s' h'=>ih (i + 1) (by omega) s' h') hk
 exact this n 0 (by omega) s h
section
variable (nl:Bool) (l:List (List AV))
include nl l
theorem clo_ty (he:AA 10 l=true) (hn:nl=true->l=[]) (hf:jD l=true) (hl:l.length * 120<=140737488351232):rD sB BA 59 [.undef,.sl nl l] none=some (.sl nl l,none):=by
 cases l with
 | nil =>
  cases nl with
  | true=>exact uE rfl (by unfold BA; rw [if_neg (by simp [BI])]; exact NX clo_ty1)
  | false=>exact uE rfl (by unfold BA; rw [if_pos (by rfl)])
 | cons x l =>
  cases nl with
  | true=>cases hn rfl
  | false =>
   refine uE rfl ?_;unfold BA;rw [if_neg (by simp [BI])];refine NX ?_;refine eD pB rfl rfl ?_;have ga:RA 120 (l.length + 1)=true:=by rw [sA]; simp only [yA] at hl; omega
   have hr:=LB he hf;rw [yA] at hr;simp [pB,-J,-y6,-y5,y0,UJ,JE,uX,iB,bG,ga,he,hr]
theorem clo_sy (he:AA 2 l=true) (hn:nl=true->l=[]) (hf:jD l=true) (hl:l.length * 24<=140737488351232):rD sB BA 60 [.undef,.sl nl l] none=some (.sl nl l,none):=by
 cases l with
 | nil =>
  cases nl with
  | true=>exact uE rfl (by unfold BA; rw [if_neg (by simp [BI])]; exact NX clo_sy1)
  | false=>exact uE rfl (by unfold BA; rw [if_pos (by rfl)])
 | cons x l =>
  cases nl with
  | true=>cases hn rfl
  | false =>
   refine uE rfl ?_;unfold BA;rw [if_neg (by simp [BI])];refine NX ?_;refine eD MA rfl rfl ?_;have ga:RA 24 (l.length + 1)=true:=by rw [sA]; simp only [yA] at hl; omega
   have hr:=LB he hf;rw [yA] at hr;simp [MA,-J,-y6,-y5,y0,UJ,JE,uX,iB,bG,ga,he,hr]
theorem clo_me (he:AA 13 l=true) (hn:nl=true->l=[]) (hf:jD l=true) (hl:l.length * 160<=140737488351232):rD sB BA 61 [.undef,.sl nl l] none=some (.sl nl l,none):=by
 cases l with
 | nil =>
  cases nl with
  | true=>exact uE rfl (by unfold BA; rw [if_neg (by simp [BI])]; exact NX clo_me1)
  | false=>exact uE rfl (by unfold BA; rw [if_pos (by rfl)])
 | cons x l =>
  cases nl with
  | true=>cases hn rfl
  | false =>
   refine uE rfl ?_;unfold BA;rw [if_neg (by simp [BI])];refine NX ?_;refine eD NA rfl rfl ?_;have ga:RA 160 (l.length + 1)=true:=by rw [sA]; simp only [yA] at hl; omega
   have hr:=LB he hf;rw [yA] at hr;simp [NA,-J,-y6,-y5,y0,UJ,JE,uX,iB,bG,ga,he,hr]
theorem clo_va (he:AA 8 l=true) (hn:nl=true->l=[]) (hf:jD l=true) (hl:l.length * 120<=140737488351232):rD sB BA 62 [.undef,.sl nl l] none=some (.sl nl l,none):=by
 cases l with
 | nil =>
  cases nl with
  | true=>exact uE rfl (by unfold BA; rw [if_neg (by simp [BI])]; exact NX clo_va1)
  | false=>exact uE rfl (by unfold BA; rw [if_pos (by rfl)])
 | cons x l =>
  cases nl with
  | true=>cases hn rfl
  | false =>
   refine uE rfl ?_;unfold BA;rw [if_neg (by simp [BI])];refine NX ?_;refine eD qB rfl rfl ?_;have ga:RA 120 (l.length + 1)=true:=by rw [sA]; simp only [yA] at hl; omega
   have hr:=LB he hf;rw [yA] at hr;simp [qB,-J,-y6,-y5,y0,UJ,JE,uX,iB,bG,ga,he,hr]
theorem clo_ra (he:AA 2 l=true) (hn:nl=true->l=[]) (hf:jD l=true) (hl:l.length * 24<=140737488351232):rD sB BA 63 [.undef,.sl nl l] none=some (.sl nl l,none):=by
 cases l with
 | nil =>
  cases nl with
  | true=>exact uE rfl (by unfold BA; rw [if_neg (by simp [BI])]; exact NX clo_ra1)
  | false=>exact uE rfl (by unfold BA; rw [if_pos (by rfl)])
 | cons x l =>
  cases nl with
  | true=>cases hn rfl
  | false =>
   refine uE rfl ?_;unfold BA;rw [if_neg (by simp [BI])];refine NX ?_;refine eD lB rfl rfl ?_;have ga:RA 24 (l.length + 1)=true:=by rw [sA]; simp only [yA] at hl; omega
   have hr:=LB he hf;rw [yA] at hr;simp [lB,-J,-y6,-y5,y0,UJ,JE,uX,iB,bG,ga,he,hr]
end
end
mutual
/-- a value as it lies in memory: nil slices are empty; no list is longer than a slice may be -/
def Vl.lay:Vl->Prop
 | .mk _ _ _ _ _ kn ks xn xs rn rs=>(kn=true->ks=[])/\(xn=true->xs=[])/\(rn=true->rs=[])/\ks.length * 120<=140737488351232/\xs.length * 120<=140737488351232/\rs.length * 24<=140737488351232/\Vl.lays ks/\Vl.lays xs
def Vl.lays:List Vl->Prop
 | []=>True
 | v :: r=>Vl.lay v/\Vl.lays r
end
theorem Vl.lays_iff:∀ l:List Vl,Vl.lays l ↔ ∀ v∈l,v.lay
 | []=>by simp [Vl.lays]
 | v :: r=>by simp [Vl.lays,Vl.lays_iff r]
theorem Vl.lay_def (v:Vl):v.lay ↔ (v.kn=true->v.keys=[])/\(v.xn=true->v.items=[])/\(v.rn=true->v.rest=[])/\v.keys.length * 120<=140737488351232/\v.items.length * 120<=140737488351232/\v.rest.length * 24<=140737488351232/\(∀ x∈v.keys,x.lay)/\∀ x∈v.items,x.lay:=by
 cases v;rw [Vl.lay,Vl.lays_iff,Vl.lays_iff];rfl
theorem JM (v:Vl):(dB v).all AV.free0=true:=by rw [WB]; rfl
theorem dQ (l:List Vl):jD (l.map dB)=true:=aE _ _ JM
theorem i2 (l:List Raw):jD (l.map BH)=true:=aE _ _ fun _=>rfl
theorem z7 {l:List Vl} {i:Nat} {x:Vl} (h:l[i]?=some x):(l.map dB).set i (dB x)=l.map dB:=by
 obtain ⟨hi,rfl⟩:=yh.1 h;refine List.ext_getElem? fun j=>?_
 rw [List.getElem?_set];split
 ·rename_i e;subst e;simp [hi]
 ·rfl
theorem cQ {M:Nat->Nat->Option (List rA)} {t n:Nat} {R:List rA} (h:M t n=some R):CO M t n R=M:=by
 funext a b;rw [kA];split
 ·rename_i e; rw [e.1,e.2,h]
 ·rfl
section
variable {r:RV} {v:Vl} {R:List rA} {N:Nat} (s:pA) (e1:(s.env 1).v=.ptr 1 1 0) (e2:(s.env 2).v=.ptr 2 1 0)
include r v R N s e1 e2
theorem C7 (zr:(s.env 19).v=.int .i64 v.keys.length) (e20:(s.env 20).v=.int .i64 0) (ww:s.mem 1 1=some R)
  (hRN:v.keys.length≠0->R[5]?=some ⟨.ref 7 N 8 0 v.keys.length v.keys.length,.no⟩/\s.mem 7 N=some (xA (v.keys.map dB))) (hl:v.keys.length * 120<=140737488351232)
  (ih:∀ x∈v.keys,pQ 36 [.agg (dB x)] (.agg (dB x))) (k:Ex->pA->Option RV)
  (hk:∀ s',(s'.env 1).v=.ptr 1 1 0->(s'.env 2).v=.ptr 2 1 0->s'.mem=s.mem->k (.exit 0) s'=some r):zF sB BA tG s k=some r:=by
 obtain ⟨M,hM⟩:∃ M,M=s.mem:=⟨_,rfl⟩;rw [<- hM] at ww hRN hk;have m:=hM.symm;refine QE v.keys.length (fun i s=>(s.env 1).v=.ptr 1 1 0/\(s.env 2).v=.ptr 2 1 0/\(s.env 19).v=.int .i64 v.keys.length/\(s.env 20).v=.int .i64 i/\s.mem=M)
  (fun e s=>e=.exit 0/\(s.env 1).v=.ptr 1 1 0/\(s.env 2).v=.ptr 2 1 0/\s.mem=M) (fun i hi s k h jh hk=>?_) _ _ ⟨e1,e2,zr,e20,m⟩ (fun e s h=>by obtain ⟨rfl,h1,h2,h3⟩:=h; exact hk _ h1 h2 h3)
 obtain ⟨env,mem,nx,obj,gh⟩:=s;obtain ⟨e1,e2,zr,e20,m⟩:=h;dsimp only at e1 e2 zr e20 m;subst m;refine gA ?_;by_cases ba:i<v.keys.length
 ·obtain ⟨hR,hMN⟩:=hRN (by omega);have ea:(i:Int)<v.keys.length:=by omega
  have hw:=eB (i:=i);obtain ⟨x,hx⟩:∃ x,v.keys[i]?=some x:=⟨_,yg ba⟩;have g1:(v.keys.map dB)[i]?=some (dB x):=by rw [yc,hx]; rfl
  have hc:=ih x (yD hx);have gb:=tQ v.keys;have tu:=uJ gb g1;have ac:=xF gb (k:=i) (by simpa using ba) (GZ x) .no;rw [z7 hx] at ac;have se:=JM x;have bg:=cQ hMN;simp only [pQ] at hc;generalize ja:xA (v.keys.map dB)=row at *
  simp [tG,-J,-y6,-y5,y0,-aA,-uA,wA,tA,eA,qA,e1,e2,zr,e20,ba,ea,hw,ww,hR,hMN,wA,tu,se,hc,ac,bg];exact jh ba _ ⟨by simp [e1],by simp [e2],by simp [zr],by simp,rfl⟩
 ·have ea:¬ (i:Int)<v.keys.length:=by omega
  simp [tG,-J,-y6,-y5,y0,zr,e20,ea];exact hk _ _ ⟨rfl,by simp [e1],by simp [e2],rfl⟩
theorem G5 (e36:(s.env 36).v=.int .i64 v.items.length) (e37:(s.env 37).v=.int .i64 0) (ww:s.mem 1 1=some R)
  (hRN:v.items.length≠0->R[6]?=some ⟨.ref 10 N 8 0 v.items.length v.items.length,.no⟩/\s.mem 10 N=some (xA (v.items.map dB))) (hl:v.items.length * 120<=140737488351232)
  (ih:∀ x∈v.items,pQ 36 [.agg (dB x)] (.agg (dB x))) (k:Ex->pA->Option RV)
  (hk:∀ s',(s'.env 1).v=.ptr 1 1 0->(s'.env 2).v=.ptr 2 1 0->s'.mem=s.mem->k (.exit 2) s'=some r):zF sB BA rG s k=some r:=by
 obtain ⟨M,hM⟩:∃ M,M=s.mem:=⟨_,rfl⟩;rw [<- hM] at ww hRN hk;have m:=hM.symm;refine QE v.items.length (fun i s=>(s.env 1).v=.ptr 1 1 0/\(s.env 2).v=.ptr 2 1 0/\(s.env 36).v=.int .i64 v.items.length/\(s.env 37).v=.int .i64 i/\s.mem=M)
  (fun e s=>e=.exit 2/\(s.env 1).v=.ptr 1 1 0/\(s.env 2).v=.ptr 2 1 0/\s.mem=M) (fun i hi s k h jh hk=>?_) _ _ ⟨e1,e2,e36,e37,m⟩ (fun e s h=>by obtain ⟨rfl,h1,h2,h3⟩:=h; exact hk _ h1 h2 h3)
 obtain ⟨env,mem,nx,obj,gh⟩:=s;obtain ⟨e1,e2,e36,e37,m⟩:=h;dsimp only at e1 e2 e36 e37 m;subst m;refine gA ?_;by_cases ba:i<v.items.length
 ·obtain ⟨hR,hMN⟩:=hRN (by omega);have ea:(i:Int)<v.items.length:=by omega
  have hw:=eB (i:=i);obtain ⟨x,hx⟩:∃ x,v.items[i]?=some x:=⟨_,yg ba⟩;have g1:(v.items.map dB)[i]?=some (dB x):=by rw [yc,hx]; rfl
  have hc:=ih x (yD hx);have gb:=tQ v.items;have tu:=uJ gb g1;have ac:=xF gb (k:=i) (by simpa using ba) (GZ x) .no;rw [z7 hx] at ac;have se:=JM x;have bg:=cQ hMN;simp only [pQ] at hc;generalize ja:xA (v.items.map dB)=row at *
  simp [rG,-J,-y6,-y5,y0,-aA,-uA,wA,tA,eA,qA,e1,e2,e36,e37,ba,ea,hw,ww,hR,hMN,wA,tu,se,hc,ac,bg];exact jh ba _ ⟨by simp [e1],by simp [e2],by simp [e36],by simp,rfl⟩
 ·have ea:¬ (i:Int)<v.items.length:=by omega
  simp [rG,-J,-y6,-y5,y0,e36,e37,ea];exact hk _ _ ⟨rfl,by simp [e1],by simp [e2],rfl⟩
end
theorem DX:∀ (n:Nat) (v:Vl),SizeOf.sizeOf v<n->v.lay->pQ 36 [.agg (dB v)] (.agg (dB v)):=by
 intro n
 induction n with
 | zero=>intro v h; omega
 | succ n ih =>
  intro v hn hv;rw [Vl.lay_def] at hv;obtain ⟨k1,k2,k3,k4,k5,k6,k7,k8⟩:=hv;have ihk:∀ x∈v.keys,pQ 36 [.agg (dB x)] (.agg (dB x)):=fun x hx=>ih x (by have:=Vl.keys_lt v x hx; omega) (k7 x hx)
  have ihi:∀ x∈v.items,pQ 36 [.agg (dB x)] (.agg (dB x)):=fun x hx=>ih x (by have:=Vl.items_lt v x hx; omega) (k8 x hx)
  have c1:=clo_va v.kn (v.keys.map dB) (tQ _) (fun h=>by rw [k1 h]; rfl) (dQ _) (by simpa using k4);have c2:=clo_va v.xn (v.items.map dB) (tQ _) (fun h=>by rw [k2 h]; rfl) (dQ _) (by simpa using k5);have c3:=clo_ra v.rn (v.rest.map BH) (els_raw _) (fun h=>by rw [k3 h]; rfl) (i2 _) (by simpa using k6);have w1:=tQ v.keys;have w2:=tQ v.items;have w3:=els_raw v.rest;have f1:=dQ v.keys;have f2:=dQ v.items;have f3:=i2 v.rest;have r1:=LB w1 f1;have r2:=LB w2 f2;have r3:=LB w3 f3;have t1:(v.keys.map dB).all (fun c=>c.all AV.free0)=true:=f1;have t2:(v.items.map dB).all (fun c=>c.all AV.free0)=true:=f2;have t3:(v.rest.map BH).all (fun c=>c.all AV.free0)=true:=f3;have z1:(v.keys.map dB).length=v.keys.length:=y7 _;have z2:(v.items.map dB).length=v.items.length:=y7 _;have z3:(v.rest.map BH).length=v.rest.length:=y7 _;have y1:(v.keys.map dB=[])=(v.keys.length=0):=by simp
  have y2:(v.items.map dB=[])=(v.items.length=0):=by simp
  have y3:(v.rest.map BH=[])=(v.rest.length=0):=by simp
  have b1:v.keys.length≠0->v.kn=false:=fun h=>by cases hk:v.kn with | false=>rfl | true=>rw [k1 hk] at h; exact absurd rfl h
  have b2:v.items.length≠0->v.xn=false:=fun h=>by cases hk:v.xn with | false=>rfl | true=>rw [k2 hk] at h; exact absurd rfl h
  have b3:v.rest.length≠0->v.rn=false:=fun h=>by cases hk:v.rn with | false=>rfl | true=>rw [k3 hk] at h; exact absurd rfl h
  refine wC gG rfl rfl ?_;rw [WB];have q1:=fun (r:RV) (R:List rA) (N:Nat)=>@C7 r v R N
  have q2:=fun (r:RV) (R:List rA) (N:Nat)=>@G5 r v R N
  generalize v.keys.map dB=ks at *
  generalize v.items.map dB=xs at *
  generalize v.rest.map BH=rs at *
  by_cases h1:v.keys.length=0 <;> by_cases h2:v.items.length=0 <;> by_cases h3:v.rest.length=0
  all_goals
   try rw [b1 h1] at c1 ⊢
   try rw [b2 h2] at c2 ⊢
   try rw [b3 h3] at c3 ⊢
   simp [gG,-J,-y6,-y5,y0,-aA,-uA,wA,tA,eA,qA,c1,c2,c3,w1,w2,w3,y1,y2,y3,z1,z2,z3,h1,h2,h3,wA,t1,t2,t3,-y8];refine q1 _ _ 2 _ (by simp) (by simp) (by simp [h1]) (by simp) (by rfl) (fun h=>?_) k4 ihk _ (fun s' a1 a2 a3=>?_)
   ·first | exact absurd h1 h | (refine ⟨rfl,?_⟩; simp [kA])
   obtain ⟨env,mem,nx,obj,gh⟩:=s';dsimp only at a1 a2 a3;subst a3;simp [-J,-y6,-y5,y0,-aA,-uA,wA,tA,eA,qA,a1,a2,kA,z1,z2,z3,h1,h2,h3,wA];refine q2 _ _ 2 _ (by simp [a1]) (by simp [a2]) (by simp [h2]) (by simp) (by rfl) (fun h=>?_) k5 ihi _ (fun s' a1 a2 a3=>?_)
   ·first | exact absurd h2 h | (refine ⟨rfl,?_⟩; simp [kA])
   obtain ⟨env,mem,nx,obj,gh⟩:=s';dsimp only at a1 a2 a3;subst a3;rw [z1] at r1;rw [z2] at r2;rw [z3] at r3
   try have d1:=y1.mpr h1
   try have d2:=y2.mpr h2
   try have d3:=y3.mpr h3
   try subst d1
   try subst d2
   try subst d3
   simp [-J,-y6,-y5,y0,-aA,-uA,wA,tA,eA,qA,a1,a2,kA,z1,z2,z3,h1,h2,h3,tA,qA,wA,r1,r2,r3]
def ZF:DA:=⟨(oR [oQ 2 1 0,oQ 3 25 1,oS 4 (.alloc [(.sl true [])]),oJ 5 0] (.seq (oR [oF 8 1 3,oL 9 8,oC 10 .lss 9 0,oM 11 10,oFg 12 1 3 11 false,oP 13 12 11 false,oFg 14 0 2 11 false,oP 15 14 11 false,oHg 16 15 11 false,oBg 17 .geq 13 16 11 false,oPo 18 11 17] (oD 18 (oR [oS 19 (.build [(.sl true [])] []),oV 1 4 19,oJ 5 4] .ret) .skip)) (.seq (oR [oF 20 0 2,oLr 21 2 1 20,oF 22 1 3,oLr 23 3 1 22,oI 24 10 21 23,oA 25 10 24,oS 26 (.load (.root 3) true 25 (.t 3)),oC2 27 78 25 26,oM 6 27] (oR [oM 28 6,oC 29 .neq 28 0] (oD 29 (oR [oS 30 (.build [(.sl true [])] []),oM 31 6,oV 1 4 30,oM 5 31] .ret) .skip))) (oR [oS 32 (.bsl zzd 0 []),oF 33 0 2,oL 34 33,oS 35 (.appf .any 68 10 120 (.t 32) (.t 34)),oS 36 (.build [(.sl true [])] [(0,(1,(.t 35)))]),oS 7 (.alloc [(.sl true [])]),oV 1 7 36] (oR [oF 37 0 7,oLr 38 7 1 37,oF 39 1 3,oLr 40 3 1 39,oF 41 0 2,oLr 42 2 1 41,oF 43 1 3,oLr 44 3 1 43,oI 45 10 42 44,oA 46 10 45,oS 47 (.load (.root 3) true 25 (.t 3)),oC2 48 79 46 47,oI 49 10 38 40,oV 10 49 48] (oR [oA 50 1 7,oV 1 4 50,oJ 5 0] .ret)))))),[(.cell 4 true 1),(.tmp 5)],2,[70]⟩
def TE:C:=.seq (oR [oM 45 10,oC 46 .gtr 45 0,oM 47 46,oMg 48 7 47 true,oMg 49 10 47 true,oIg 50 13 48 49 47 true,oFg 51 0 50 47 true,oP 52 51 47 true,oMg 53 7 47 true,oMg 54 10 47 true,oCi 55 .sub 54 1 47 true,oIg 56 13 53 55 47 true,oFg 57 0 56 47 true,oP 58 57 47 true,oBg 59 .lss 52 58 47 true,oPa 60 47 59] (oD 60 .skip (.exit 2))) (.seq (.block 3 (.reg [oM 63 7,oM 64 10,oM 65 7,oM 66 10,oC 67 .sub 66 1,oM 68 7,oM 69 10,oC 70 .sub 69 1,oI 71 13 68 70,oA 72 13 71,oM 73 7,oM 74 10,oI 75 13 73 74,oA 76 13 75,oI 77 13 63 64,oV 13 77 72,oI 78 13 65 67,oV 13 78 76])) (.reg [oM 61 10,oC 62 .sub 61 1,oM 10 62]))
def nD:C:=.seq (oR [oM 16 9,oM 17 8,oH 18 17,oB 19 .lss 16 18] (oD 19 .skip (.exit 0))) (.seq (.block 1 (.seq (oR [oM 22 9,oM 23 0,oH 24 23,oB 25 .lss 22 24,oM 26 25,oMg 27 8 26 true,oMg 28 9 26 true,oIg 29 13 27 28 26 true,oFg 30 0 29 26 true,oP 31 30 26 true,oMg 32 1 26 true,oBg 33 .eql 31 32 26 true,oPa 34 26 33] (oD 34 (.exit 1) .skip)) (oR [oM 35 7,oM 36 8,oM 37 9,oI 38 13 36 37,oA 39 13 38,oS 40 (.bsl zzc 1 [(0,(.t 39))]),oS 41 (.appm .any 48 13 160 (.t 35) (.t 40)),oM 7 41] (oR [oM 42 7,oH 43 42,oC 44 .sub 43 1,oM 10 44] (.block 2 (.loop TE)))))) (.reg [oM 20 9,oC 21 .add 20 1,oM 9 21]))
def pK:DA:=⟨(oR [oS 6 (.mv (.c (.sl true [])))] (oR [oS 7 (.mv (.c (.sl true [])))] (oR [oS 11 (.bsl zzc 0 []),oM 12 0,oAp 13 48 13 160 11 12,oM 14 2,oAp 15 48 13 160 13 14,oM 8 15] (.seq (oR [oJ 9 0] (.block 0 (.loop nD))) (oR [oM 79 7,oM 6 79] .ret))))),[(.tmp 6)],3,[83]⟩
def UE:C:=.seq (oR [oM 45 10,oC 46 .gtr 45 0,oM 47 46,oMg 48 7 47 true,oMg 49 10 47 true,oIg 50 2 48 49 47 true,oFg 51 0 50 47 true,oP 52 51 47 true,oMg 53 7 47 true,oMg 54 10 47 true,oCi 55 .sub 54 1 47 true,oIg 56 2 53 55 47 true,oFg 57 0 56 47 true,oP 58 57 47 true,oBg 59 .lss 52 58 47 true,oPa 60 47 59] (oD 60 .skip (.exit 2))) (.seq (.block 3 (.reg [oM 63 7,oM 64 10,oM 65 7,oM 66 10,oC 67 .sub 66 1,oM 68 7,oM 69 10,oC 70 .sub 69 1,oI 71 2 68 70,oA 72 2 71,oM 73 7,oM 74 10,oI 75 2 73 74,oA 76 2 75,oI 77 2 63 64,oV 2 77 72,oI 78 2 65 67,oV 2 78 76])) (.reg [oM 61 10,oC 62 .sub 61 1,oM 10 62]))
def mD:C:=.seq (oR [oM 16 9,oM 17 8,oH 18 17,oB 19 .lss 16 18] (oD 19 .skip (.exit 0))) (.seq (.block 1 (.seq (oR [oM 22 9,oM 23 0,oH 24 23,oB 25 .lss 22 24,oM 26 25,oMg 27 8 26 true,oMg 28 9 26 true,oIg 29 2 27 28 26 true,oFg 30 0 29 26 true,oP 31 30 26 true,oMg 32 1 26 true,oBg 33 .eql 31 32 26 true,oPa 34 26 33] (oD 34 (.exit 1) .skip)) (oR [oM 35 7,oM 36 8,oM 37 9,oI 38 2 36 37,oA 39 2 38,oS 40 (.bsl zzb 1 [(0,(.t 39))]),oS 41 (.appm .any 50 2 24 (.t 35) (.t 40)),oM 7 41] (oR [oM 42 7,oH 43 42,oC 44 .sub 43 1,oM 10 44] (.block 2 (.loop UE)))))) (.reg [oM 20 9,oC 21 .add 20 1,oM 9 21]))
def aK:DA:=⟨(oR [oS 6 (.mv (.c (.sl true [])))] (oR [oS 7 (.mv (.c (.sl true [])))] (oR [oS 11 (.bsl zzb 0 []),oM 12 0,oAp 13 50 2 24 11 12,oM 14 2,oAp 15 50 2 24 13 14,oM 8 15] (.seq (oR [oJ 9 0] (.block 0 (.loop mD))) (oR [oM 79 7,oM 6 79] .ret))))),[(.tmp 6)],3,[83]⟩
theorem P8:zA Tryz.prog 39 ZF:=okF Tryz.func39
theorem NZ:zA Tryz.prog 117 pK:=okF Tryz.func117
theorem MZ:zA Tryz.prog 118 aK:=okF Tryz.func118
noncomputable def E9:uB:=fun f args S=>rD sB BA f args S
theorem apX_ok {O:XE} (f:Nat) (args:List AV) (S:Option AV) (r:RV) (h:E9 f args S=some r):LA Tryz.prog O f args S r :=
 GM WU evoT_ok evoX_ok h
def E5:Nat->Option DA
 | 39=>some ZF
 | 117=>some pK
 | 118=>some aK
 | 79=>some tB
 | 15=>some qC
 | 30=>some pF
 | 24=>some LI
 | 3=>some rC
 | 6=>some tE
 | 10=>some HB
 | _=>none
theorem apT_ok (f:Nat) (c:DA) (h:E5 f=some c):zA Tryz.prog f c:=by
 unfold E5 at h;split at h
 ·injection h with h; subst h; exact P8
 ·injection h with h; subst h; exact NZ
 ·injection h with h; subst h; exact MZ
 ·injection h with h; subst h; exact FO
 ·injection h with h; subst h; exact FP
 ·injection h with h; subst h; exact DO
 ·injection h with h; subst h; exact qM
 ·injection h with h; subst h; exact EG
 ·injection h with h; subst h; exact dF
 ·injection h with h; subst h; exact MF
 ·cases h
theorem apT_det (f:Nat) (c:DA) (h:E5 f=some c):c.code.det=true:=by
 unfold E5 at h;split at h <;> first | (cases h; done) | (injection h with h; subst h; kernel_rfl)
abbrev cW (f:Nat) (args:List AV) (v:AV):Prop:=rD E5 E9 f args none=some (v,none)
theorem DS {f:Nat} {args:List AV} {v:AV} (h:pQ f args v) (hT:E5 f=none:=by rfl):cW f args v:=uE hT h
theorem nP {b:C} {r:RV} (n:Nat) (I:Nat->pA->Prop) (E:Ex->pA->Prop)
  (step:∀ i,i<=n->∀ s k,I i s->(i<n->∀ s',I (i + 1) s'->zF E5 E9 b s' k=some r)->(∀ e s',E e s'->k e s'=some r)->zF E5 E9 b s k=some r)
  (s:pA) (k:Ex->pA->Option RV) (h:I 0 s) (hk:∀ e s',E e s'->k e s'=some r):zF E5 E9 b s k=some r:=by
 have:∀ m i,i + m=n->∀ s,I i s->zF E5 E9 b s k=some r:=by
  intro m
  induction m with
  | zero=>intro i hi s h; exact step i (by omega) s k h (fun ba=>absurd ba (by omega)) hk
  | succ m ih=>intro i hi s h; exact step i (by omega) s k h (fun _ s' h'=>ih (i + 1) (by omega) s' h') hk
 exact this n 0 (by omega) s h
def FN:Int->List Raw->Int
 | n,[]=>n
 | n,x :: r=>FN (IntKind.i64.wrap (IntKind.i64.wrap (n + 1) + x.data.size)) r
mutual
def TZ:Vl->Int
 | .mk _ _ _ s _ _ ks _ xs _ rs=>FN (gF (gF (IntKind.i64.wrap (1 + s.size)) ks) xs) rs
def gF:Int->List Vl->Int
 | n,[]=>n
 | n,v :: r=>gF (IntKind.i64.wrap (n + TZ v)) r
end
theorem sizeV_def (v:Vl):TZ v=FN (gF (gF (IntKind.i64.wrap (1 + v.s.size)) v.keys) v.items) v.rest:=by
 cases v;rw [TZ];rfl
section
variable (n:Nat) (ih0:∀ v:Vl,SizeOf.sizeOf v<n->v.ok->wB 33 [.agg (dB v)] (.int .i64 (TZ v))) {rv:RV} (v:Vl)
include n ih0 rv v
theorem size_lp3 (hl:v.keys.length<=9223372036854775807) (hv:∀ x∈v.keys,SizeOf.sizeOf x<n/\x.ok) (a0:Int) (s:pA) (e1:(s.env 1).v=.ptr 1 1 0) (m1:s.mem 1 1=some (WE v)) (e3:(s.env 3).v=.int .i64 a0) (e4:(s.env 4).v=.int .i64 0) (k:Ex->pA->Option RV)
  (hk:∀ s',(s'.env 1).v=.ptr 1 1 0->s'.mem 1 1=some (WE v)->(s'.env 3).v=.int .i64 (gF a0 v.keys)->k (.exit 0) s'=some rv):zF lA dA cH s k=some rv:=by
 refine IB v.keys.length (fun i s=>(s.env 1).v=.ptr 1 1 0/\s.mem 1 1=some (WE v)/\(∃ a,(s.env 3).v=.int .i64 a/\gF a (v.keys.drop i)=gF a0 v.keys)/\(s.env 4).v=.int .i64 i)
  (fun e s=>e=.exit 0/\(s.env 1).v=.ptr 1 1 0/\s.mem 1 1=some (WE v)/\(s.env 3).v=.int .i64 (gF a0 v.keys)) (fun i hi s k h ih hk=>?_) _ _ ⟨e1,m1,⟨a0,e3,rfl⟩,e4⟩ (fun e s h=>by obtain ⟨rfl,h1,h2,h3⟩:=h; exact hk _ h1 h2 h3)
 obtain ⟨e1,m1,⟨a,e3,hs⟩,ei⟩:=h;refine gA ?_;have m1':=m1;simp only [WE] at m1;by_cases ba:i<v.keys.length
 ·have ea:(i:Int)<v.keys.length:=by omega
  have g1:(v.keys.map dB)[i]?=some (dB v.keys[i]):=by simp [ba]
  have hw:=eB (i:=i);obtain ⟨hx1,hx2⟩:=hv _ (yF ba);have hx:=ih0 _ hx1 hx2;rw [yj ba,gF] at hs;generalize v.keys[i]=x at *
  simp only [wB,WB] at hx;rw [WB x] at g1;simp [cH,-J,-y6,-y5,y0,e1,m1,e3,ei,ea,g1,hx,hw];refine ih ba _ ⟨?_,?_,⟨_,?_,hs⟩,?_⟩
  ·simp [e1]
  ·simp [m1,WE]
  ·simp
  ·simp
 ·have ea:¬ (i:Int)<v.keys.length:=by omega
  rw [yn (by omega),gF] at hs;simp [cH,-J,-y6,-y5,y0,e1,m1,ei,ea];refine hk _ _ ⟨rfl,?_,?_,?_⟩
  ·simp [e1]
  ·simp [m1,WE]
  ·simp [e3,hs]
theorem size_lp2 (hl:v.items.length<=9223372036854775807) (hv:∀ x∈v.items,SizeOf.sizeOf x<n/\x.ok) (a0:Int) (s:pA) (e1:(s.env 1).v=.ptr 1 1 0) (m1:s.mem 1 1=some (WE v)) (e3:(s.env 3).v=.int .i64 a0) (e5:(s.env 5).v=.int .i64 0) (k:Ex->pA->Option RV)
  (hk:∀ s',(s'.env 1).v=.ptr 1 1 0->s'.mem 1 1=some (WE v)->(s'.env 3).v=.int .i64 (gF a0 v.items)->k (.exit 2) s'=some rv):zF lA dA xH s k=some rv:=by
 refine IB v.items.length (fun i s=>(s.env 1).v=.ptr 1 1 0/\s.mem 1 1=some (WE v)/\(∃ a,(s.env 3).v=.int .i64 a/\gF a (v.items.drop i)=gF a0 v.items)/\(s.env 5).v=.int .i64 i)
  (fun e s=>e=.exit 2/\(s.env 1).v=.ptr 1 1 0/\s.mem 1 1=some (WE v)/\(s.env 3).v=.int .i64 (gF a0 v.items)) (fun i hi s k h ih hk=>?_) _ _ ⟨e1,m1,⟨a0,e3,rfl⟩,e5⟩ (fun e s h=>by obtain ⟨rfl,h1,h2,h3⟩:=h; exact hk _ h1 h2 h3)
 obtain ⟨e1,m1,⟨a,e3,hs⟩,ei⟩:=h;refine gA ?_;have m1':=m1;simp only [WE] at m1;by_cases ba:i<v.items.length
 ·have ea:(i:Int)<v.items.length:=by omega
  have g1:(v.items.map dB)[i]?=some (dB v.items[i]):=by simp [ba]
  have hw:=eB (i:=i);obtain ⟨hx1,hx2⟩:=hv _ (yF ba);have hx:=ih0 _ hx1 hx2;rw [yj ba,gF] at hs;generalize v.items[i]=x at *
  simp only [wB,WB] at hx;rw [WB x] at g1;simp [xH,-J,-y6,-y5,y0,e1,m1,e3,ei,ea,g1,hx,hw];refine ih ba _ ⟨?_,?_,⟨_,?_,hs⟩,?_⟩
  ·simp [e1]
  ·simp [m1,WE]
  ·simp
  ·simp
 ·have ea:¬ (i:Int)<v.items.length:=by omega
  rw [yn (by omega),gF] at hs;simp [xH,-J,-y6,-y5,y0,e1,m1,ei,ea];refine hk _ _ ⟨rfl,?_,?_,?_⟩
  ·simp [e1]
  ·simp [m1,WE]
  ·simp [e3,hs]
end
theorem size_lp1 {rv:RV} (v:Vl) (hl:v.rest.length<=9223372036854775807) (a0:Int) (s:pA) (e1:(s.env 1).v=.ptr 1 1 0) (m1:s.mem 1 1=some (WE v)) (e3:(s.env 3).v=.int .i64 a0) (e6:(s.env 6).v=.int .i64 0) (k:Ex->pA->Option RV)
  (hk:∀ s',(s'.env 3).v=.int .i64 (FN a0 v.rest)->k (.exit 4) s'=some rv):zF lA dA zH s k=some rv:=by
 refine IB v.rest.length (fun i s=>(s.env 1).v=.ptr 1 1 0/\s.mem 1 1=some (WE v)/\(∃ a,(s.env 3).v=.int .i64 a/\FN a (v.rest.drop i)=FN a0 v.rest)/\(s.env 6).v=.int .i64 i)
  (fun e s=>e=.exit 4/\(s.env 3).v=.int .i64 (FN a0 v.rest)) (fun i hi s k h ih hk=>?_) _ _ ⟨e1,m1,⟨a0,e3,rfl⟩,e6⟩ (fun e s h=>by obtain ⟨rfl,h1⟩:=h; exact hk _ h1)
 obtain ⟨e1,m1,⟨a,e3,hs⟩,ei⟩:=h;refine gA ?_;simp only [WE] at m1;by_cases ba:i<v.rest.length
 ·have ea:(i:Int)<v.rest.length:=by omega
  have g1:(v.rest.map BH)[i]?=some (BH v.rest[i]):=by simp [ba]
  have hw:=eB (i:=i);rw [yj ba,FN] at hs;generalize v.rest[i]=x at *
  simp only [BH] at g1;simp [zH,-J,-y6,-y5,y0,e1,m1,e3,ei,ea,g1,hw];refine ih ba _ ⟨?_,?_,⟨_,?_,hs⟩,?_⟩
  ·simp [e1]
  ·simp [m1,WE]
  ·simp
  ·simp
 ·have ea:¬ (i:Int)<v.rest.length:=by omega
  rw [yn (by omega),FN] at hs;simp [zH,-J,-y6,-y5,y0,e1,m1,ei,ea];exact hk _ _ ⟨rfl,by simp [e3,hs]⟩
theorem size_ev:∀ (n:Nat) (v:Vl),SizeOf.sizeOf v<n->v.ok->wB 33 [.agg (dB v)] (.int .i64 (TZ v)):=by
 intro n
 induction n with
 | zero=>intro v h; omega
 | succ n ih =>
  intro v hn hv;rw [Vl.ok_def] at hv;obtain ⟨k1,k2,k3,k4,k5,k6⟩:=hv;refine EA (c:=sK) rfl rfl ?_;rw [WB];simp [sK,-J,-y6,-y5,y0];refine size_lp3 n ih v k1 (fun x hx=>⟨by have:=Vl.keys_lt v x hx; omega,k5 x hx⟩) (IntKind.i64.wrap (1 + v.s.size)) _ ?_ ?_ ?_ ?_ _ (fun s' e1 m1 e3=>?_)
  ·simp
  ·simp [WE]
  ·simp
  ·simp
  simp [-J,-y6,-y5,y0];refine size_lp2 n ih v k2 (fun x hx=>⟨by have:=Vl.items_lt v x hx; omega,k6 x hx⟩) (gF (IntKind.i64.wrap (1 + v.s.size)) v.keys) _ ?_ ?_ ?_ ?_ _ (fun s2 f1 n1 f3=>?_)
  ·simp [e1]
  ·simpa using m1
  ·simp [e3]
  ·simp
  simp [-J,-y6,-y5,y0];refine size_lp1 v k3 (gF (gF (IntKind.i64.wrap (1 + v.s.size)) v.keys) v.items) _ ?_ ?_ ?_ ?_ _ (fun s3 g3=>?_)
  ·simp [f1]
  ·simpa using n1
  ·simp [f3]
  ·simp
  simp [-J,-y6,-y5,y0,g3,sizeV_def]
def sW:Int->List fB->Int
 | n,[]=>n
 | n,m :: r=>sW (IntKind.i64.wrap (IntKind.i64.wrap (n + TZ m.dflt) + m.name.size)) r
def typF (n:Int) (t:QA):Int:=sW (IntKind.i64.wrap (IntKind.i64.wrap (IntKind.i64.wrap (n + t.mems.length) + t.syms.length) + t.name.size)) (t.mems.take 100)
def eS:Int->List QA->Int
 | n,[]=>n
 | n,t :: r=>eS (typF n t) r
def fewP (s:wP):Bool:=!decide (40<s.types.length)&&decide (eS 0 s.types<=400)
def R7 (t:QA):List rA:=(iA t).map (⟨·,.no⟩)
theorem few_lp1 {rv:RV} (t:QA) (ht:∀ m∈t.mems,m.ok) (hl:t.mems.length<=9223372036854775807) {nl:Bool} {S:List QA} {j:Nat} {n5:Nat} (a0:Int) (s:pA) (e1:(s.env 1).v=.ptr 1 1 0) (m1:s.mem 1 1=some [⟨.sl nl (S.map iA),.no⟩]) (e3:(s.env 3).v=.int .i64 a0) (e4:(s.env 4).v=.int .i64 j) (e5:(s.env 5).v=.ptr 5 n5 0) (m5:s.mem 5 n5=some (R7 t)) (e6:(s.env 6).v=.int .i64 0) (k:Ex->pA->Option RV)
  (hk:∀ s',(s'.env 1).v=.ptr 1 1 0->s'.mem 1 1=some [⟨.sl nl (S.map iA),.no⟩]->(s'.env 3).v=.int .i64 (sW a0 (t.mems.take 100))->(s'.env 4).v=.int .i64 j->k (.exit 2) s'=some rv):zF lA dA lG s k=some rv:=by
 have hN:(t.mems.take 100).length<=t.mems.length/\(t.mems.take 100).length<=100/\((t.mems.take 100).length=t.mems.length\/(t.mems.take 100).length=100):=by
  rw [ym];omega
 obtain ⟨N,hNe⟩:∃ N,(t.mems.take 100).length=N:=⟨_,rfl⟩;rw [hNe] at hN;obtain ⟨hN1,hN2,hN3⟩:=hN;refine IB N (fun i s=>(s.env 1).v=.ptr 1 1 0/\s.mem 1 1=some [⟨.sl nl (S.map iA),.no⟩]/\(∃ a,(s.env 3).v=.int .i64 a/\sW a ((t.mems.take 100).drop i)=sW a0 (t.mems.take 100))/\(s.env 4).v=.int .i64 j/\(s.env 5).v=.ptr 5 n5 0/\s.mem 5 n5=some (R7 t)/\(s.env 6).v=.int .i64 i)
  (fun e s=>e=.exit 2/\(s.env 1).v=.ptr 1 1 0/\s.mem 1 1=some [⟨.sl nl (S.map iA),.no⟩]/\(s.env 3).v=.int .i64 (sW a0 (t.mems.take 100))/\(s.env 4).v=.int .i64 j) (fun i hi s k h ih hk=>?_) _ _ ⟨e1,m1,⟨a0,e3,rfl⟩,e4,e5,m5,e6⟩ (fun e s h=>by obtain ⟨rfl,h1,h2,h3,h4⟩:=h; exact hk _ h1 h2 h3 h4)
 obtain ⟨e1,m1,⟨a,e3,hs⟩,e4,e5,m5,e6⟩:=h;refine gA ?_;simp only [R7,iA,yk,yR] at m5;by_cases ba:i<N
 ·have ea:(i:Int)<t.mems.length:=by omega
  have bi:(i:Int)<100:=by omega
  have ne:i<t.mems.length:=by omega
  have hi3:i<(t.mems.take 100).length:=by omega
  have g1:(t.mems.map fA)[i]?=some (fA t.mems[i]):=by simp [ne]
  have hw:=eB (i:=i);have hx:=size_ev _ _ (Nat.lt_succ_self _) (ht _ (yF ne)).1;rw [yj hi3,sW,List.getElem_take] at hs;generalize t.mems[i]=x at *
  simp only [fA] at g1;simp only [wB,WB] at hx;simp [lG,-J,-y6,-y5,y0,e3,e5,m5,e6,ea,bi,g1,hx,hw];refine ih ba _ ⟨?_,?_,⟨_,?_,hs⟩,?_,?_,?_,?_⟩
  ·simp [e1]
  ·simp [m1]
  ·simp
  ·simp [e4]
  ·simp [e5]
  ·simp [m5,R7,iA]
  ·simp
 ·have sx:i=N:=by omega
  rw [yn (by omega),sW] at hs;by_cases c:(i:Int)<t.mems.length
  ·have c2:¬ (i:Int)<100:=by omega
   simp [lG,-J,-y6,-y5,y0,e5,m5,e6,c,c2];exact hk _ _ ⟨rfl,by simp [e1],by simp [m1],by simp [e3,hs],by simp [e4]⟩
  ·simp [lG,-J,-y6,-y5,y0,e5,m5,e6,c];exact hk _ _ ⟨rfl,by simp [e1],by simp [m1],by simp [e3,hs],by simp [e4]⟩
theorem r8 (s:wP) (hs:s.ok):wB 12 [.agg (lD s)] (.bool (fewP s)):=by
 obtain ⟨hl,ht⟩:=hs;refine EA (c:=EJ) rfl rfl ?_;unfold fewP;by_cases c:40<s.types.length
 ·have c':(40:Int)<s.types.length:=by omega
  simp [EJ,-J,-y6,-y5,y0,lD,c,c']
 have c':¬ (40:Int)<s.types.length:=by omega
 simp [EJ,-J,-y6,-y5,y0,lD,c,c'];refine IB s.types.length (fun i st=>(st.env 1).v=.ptr 1 1 0/\st.mem 1 1=some [⟨.sl s.nl (s.types.map iA),.no⟩]/\(∃ a,(st.env 3).v=.int .i64 a/\eS a (s.types.drop i)=eS 0 s.types)/\(st.env 4).v=.int .i64 i)
  (fun e st=>e=.exit 0/\(st.env 3).v=.int .i64 (eS 0 s.types)) (fun i hi st k h ih hk=>?_) _ _ ?_ (fun e st h=>?_)
 ·obtain ⟨e1,m1,⟨a,e3,hsu⟩,e4⟩:=h;refine gA ?_;by_cases ba:i<s.types.length
  ·have ea:(i:Int)<s.types.length:=by omega
   have g1:(s.types.map iA)[i]?=some (iA s.types[i]):=by simp [ba]
   have hw:=eB (i:=i);have kw:=ht _ (yF ba);rw [yj ba,eS] at hsu;generalize s.types[i]=x at *
   simp only [iA] at g1;simp [AK,-J,-y6,-y5,y0,e1,m1,e3,e4,ea,g1];refine few_lp1 (nl:=s.nl) (S:=s.types) x kw.2.2 kw.2.1 (j:=i) (n5:=st.next + 1) (IntKind.i64.wrap (IntKind.i64.wrap (IntKind.i64.wrap (a + x.mems.length) + x.syms.length) + x.name.size)) _ ?_ ?_ ?_ ?_ ?_ ?_ ?_ _ (fun s' f1 n1 f3 f4=>?_)
   ·simp [e1]
   ·simp [m1]
   ·simp
   ·simp [e4]
   ·simp
   ·simp [R7,iA]
   ·simp
   ·simp [-J,-y6,-y5,y0,f4,hw];refine ih ba _ ⟨?_,?_,⟨_,?_,hsu⟩,?_⟩
    ·simp [f1]
    ·simp [n1]
    ·simp [f3,typF]
    ·simp
  ·have ea:¬ (i:Int)<s.types.length:=by omega
   rw [yn (by omega),eS] at hsu;simp [AK,-J,-y6,-y5,y0,e1,m1,e4,ea];exact hk _ _ ⟨rfl,by simp [e3,hsu]⟩
 ·refine ⟨?_,?_,⟨0,?_,rfl⟩,?_⟩ <;> simp
 ·obtain ⟨rfl,e3⟩:=h;simp [-J,-y6,-y5,y0,e3]
end Go.Proofs.YtbhbeakhognieaaGreatDoor
