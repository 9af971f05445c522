/- A part of the proof. -/
import Derived.Test.YtbnlmgncbgaepaaGreatWc
set_option linter.all false
set_option maxRecDepth 100000
set_option maxHeartbeats 8000000
open Option renaming bind_some → V
open List renaming range_succ → J, map_map → y0, getElem_mem → y6, drop_eq_getElem_cons → y9, drop_eq_nil_of_le → ye, map_cons → yh, map_nil → yr, mem_append → yu, take_of_length_le → yD, take_append_getElem → yK, mem_map_of_mem → yX
open Int renaming toNat_lt → y3
open Bool renaming and_eq_true → y7
namespace Go.Proofs.YtbnlmgncbgaepaaGreat
open Go
structure Raw where
 id:Int
 data:ByteArray
 deriving DecidableEq
inductive Vl where
 | mk (kind:Int) (b:Bool) (i:Int) (s:ByteArray) (id:Int) (kn:Bool) (keys:List Vl) (xn:Bool) (items:List Vl) (rn:Bool) (rest:List Raw)
namespace Vl
def kind:Vl->Int | .mk k _ _ _ _ _ _ _ _ _ _=>k
def b:Vl->Bool | .mk _ b _ _ _ _ _ _ _ _ _=>b
def i:Vl->Int | .mk _ _ i _ _ _ _ _ _ _ _=>i
def s:Vl->ByteArray | .mk _ _ _ s _ _ _ _ _ _ _=>s
def id:Vl->Int | .mk _ _ _ _ d _ _ _ _ _ _=>d
def kn:Vl->Bool | .mk _ _ _ _ _ k _ _ _ _ _=>k
def keys:Vl->List Vl | .mk _ _ _ _ _ _ l _ _ _ _=>l
def xn:Vl->Bool | .mk _ _ _ _ _ _ _ x _ _ _=>x
def items:Vl->List Vl | .mk _ _ _ _ _ _ _ _ l _ _=>l
def rn:Vl->Bool | .mk _ _ _ _ _ _ _ _ _ r _=>r
def rest:Vl->List Raw | .mk _ _ _ _ _ _ _ _ _ _ l=>l
theorem keys_lt (v x:Vl) (h:x∈v.keys):SizeOf.sizeOf x<SizeOf.sizeOf v:=by
 cases v;have:=List.sizeOf_lt_of_mem h;simp only [keys] at this;simp only [mk.sizeOf_spec];omega
theorem items_lt (v x:Vl) (h:x∈v.items):SizeOf.sizeOf x<SizeOf.sizeOf v:=by
 cases v;have:=List.sizeOf_lt_of_mem h;simp only [items] at this;simp only [mk.sizeOf_spec];omega
end Vl
def rawC (r:Raw):List AV:=[.int .i64 r.id,.str r.data]
mutual
def valC:Vl->List AV
 | .mk k b i s d kn ks xn xs rn rs=>[.int .i64 k,.bool b,.int .i64 i,.str s,.int .i64 d,.sl kn (valsC ks),.sl xn (valsC xs),.sl rn (rs.map rawC)]
def valsC:List Vl->List (List AV)
 | []=>[]
 | v :: r=>valC v :: valsC r
end
theorem valsC_map:∀ l:List Vl,valsC l=l.map valC
 | []=>by rw [valsC]; rfl
 | v :: r=>by rw [valsC,valsC_map r]; rfl
theorem q04 (v:Vl):valC v=[.int .i64 v.kind,.bool v.b,.int .i64 v.i,.str v.s,.int .i64 v.id,.sl v.kn (v.keys.map valC),.sl v.xn (v.items.map valC),.sl v.rn (v.rest.map rawC)]:=by
 cases v;rw [valC,valsC_map,valsC_map];rfl
mutual
/-- lengths that occur -/
def Vl.ok:Vl->Prop
 | .mk _ _ _ s _ _ ks _ xs _ rs=>ks.length<=9223372036854775807/\xs.length<=9223372036854775807/\rs.length<=9223372036854775807/\s.size<=9223372036854775807/\Vl.oks ks/\Vl.oks xs
def Vl.oks:List Vl->Prop
 | []=>True
 | v :: r=>Vl.ok v/\Vl.oks r
end
theorem Vl.oks_iff:∀ l:List Vl,Vl.oks l ↔ ∀ v∈l,v.ok
 | []=>by simp [Vl.oks]
 | v :: r=>by simp [Vl.oks,Vl.oks_iff r]
theorem Vl.ok_def (v:Vl):v.ok ↔ v.keys.length<=9223372036854775807/\v.items.length<=9223372036854775807/\v.rest.length<=9223372036854775807/\v.s.size<=9223372036854775807/\(∀ x∈v.keys,x.ok)/\∀ x∈v.items,x.ok:=by
 cases v;rw [Vl.ok,Vl.oks_iff,Vl.oks_iff];rfl
def Vl.zero:Vl:=.mk 0 false 0 ⟨#[]⟩ 0 true [] true [] true []
structure Sym where
 id:Int
 name:ByteArray
 deriving DecidableEq
def symC (x:Sym):List AV:=[.int .i64 x.id,.str x.name]
structure Mem where
 id:Int
 name:ByteArray
 ty:Int
 crit:Bool
 has:Bool
 dflt:Vl
def memC (m:Mem):List AV:=[.int .i64 m.id,.str m.name,.int .i64 m.ty,.bool m.crit,.bool m.has,.int .i64 m.dflt.kind,.bool m.dflt.b,.int .i64 m.dflt.i,.str m.dflt.s,.int .i64 m.dflt.id,.sl m.dflt.kn (m.dflt.keys.map valC),.sl m.dflt.xn (m.dflt.items.map valC),.sl m.dflt.rn (m.dflt.rest.map rawC)]
structure Typ where
 kind:Int
 name:ByteArray
 low:Int
 high:Int
 max:Int
 sn:Bool
 syms:List Sym
 mn:Bool
 mems:List Mem
 key:Int
 elem:Int
 opn:Bool
def typC (t:Typ):List AV:=[.int .i64 t.kind,.str t.name,.int .i64 t.low,.int .i64 t.high,.int .i64 t.max,.sl t.sn (t.syms.map symC),.sl t.mn (t.mems.map memC),.int .i64 t.key,.int .i64 t.elem,.bool t.opn]
structure Sch where
 nl:Bool
 types:List Typ
def schC (s:Sch):List AV:=[.sl s.nl (s.types.map typC)]
def Mem.ok (m:Mem):Prop:=m.dflt.ok/\m.name.size<=9223372036854775807
def Typ.ok (t:Typ):Prop:=t.syms.length<=9223372036854775807/\t.mems.length<=9223372036854775807/\∀ m∈t.mems,m.ok
def Sch.ok (s:Sch):Prop:=s.types.length<=9223372036854775807/\∀ t∈s.types,t.ok
theorem q0s {i:Nat} (h:i<9223372036854775807:=by omega):IntKind.i64.wrap ((i:Int) + 1)=((i + 1:Nat):Int):=by
 rw [IntWalk.i64_in _ (by omega)]; rfl
theorem els_sym (l:List Sym):q13 2 (l.map symC)=true:=q1a _ _ _ fun _=>rfl
theorem els_mem (l:List Mem):q13 13 (l.map memC)=true:=q1a _ _ _ fun _=>rfl
theorem q00 {f:Nat} {c:FnC} {args:List AV} {r:RV} (hT:allT f=some c) (hl:args.length=c.np) (h:c.code.run (evC allT q01) (evK allT q01) (MSt.init args none) (fin c none)=some r) (hm:q6K args=false:=by rfl):evC allT q01 f args none=some r:=q9O c hT hl h hm
abbrev evA (f:Nat) (args:List AV) (v:AV):Prop:=evC allT q01 f args none=some (v,none)
def isLet (x:Int):Bool:=decide (x=95)||(decide (97<=x)&&decide (x<=122))||(decide (65<=x)&&decide (x<=90))
def isDig (x:Int):Bool:=decide (48<=x)&&decide (x<=57)
def q47 (s:ByteArray):Nat->Nat->Bool
 | 0,_=>true
 | n + 1,i=>(match s[i]? with | some u=>isLet u.toNat||isDig u.toNat | none=>false)&&q47 s n (i + 1)
def q3V (s:ByteArray):Bool:=decide (s.size≠0)&&decide (s.size<=24)&&(match s[0]? with | some u=>isLet u.toNat | none=>false)&&q47 s s.size 0
theorem letter_ev (x:Int):evA 248 [.int .u8 x] (.bool (isLet x)):=by
 refine q00 (c:=q3Y) rfl rfl ?_;unfold isLet;by_cases h1:x=95 <;> by_cases h2:97<=x <;> by_cases h3:65<=x <;> by_cases h4:x<=122 <;> by_cases h5:x<=90 <;> simp [q3Y,-V,anN,J,h1,h2,h3,h4,h5]
theorem digit_ev (x:Int):evA 249 [.int .u8 x] (.bool (isDig x)):=by
 refine q00 (c:=q4x) rfl rfl ?_;unfold isDig;by_cases h1:48<=x <;> simp [q4x,-V,anN,J,h1]
theorem rletter_ev (x:Int):evA 224 [.int .u8 x] (.bool (isLet x)):=by
 refine q00 (c:=q5c) rfl rfl ?_;unfold isLet;by_cases h1:x=95 <;> by_cases h2:97<=x <;> by_cases h3:65<=x <;> by_cases h4:x<=122 <;> by_cases h5:x<=90 <;> simp [q5c,-V,anN,J,h1,h2,h3,h4,h5]
theorem rdigit_ev (x:Int):evA 225 [.int .u8 x] (.bool (isDig x)):=by
 refine q00 (c:=q63) rfl rfl ?_;unfold isDig;by_cases h1:48<=x <;> simp [q63,-V,anN,J,h1]
theorem q9F {s:ByteArray} {i:Nat} (h:i<s.size):∃ u,s[i]?=some u:=⟨s[i],getElem?_pos s i h⟩
theorem name_lp (s:ByteArray) (hs:s.size<=24) (r:RV) (k:Ex->MSt->Option RV) (hk:∀ s',q47 s s.size 0=true->k (.exit 0) s'=some r) (hr:∀ s':MSt,q47 s s.size 0=false->(s'.env 2).v=.bool false->k .ret s'=some r) :
  ∀ (n i:Nat),i + n=s.size->q47 s n i=q47 s s.size 0->∀ s':MSt,(s'.env 0).v=.str s->(s'.env 18).v=.int .i64 s.size->(s'.env 19).v=.int .i64 i->evL allT q01 q25 s' k=some r:=by
 intro n
 induction n with
 | zero =>
  intro i hi hf s' e0 lf pk;have fa:¬ ((i:Int)<s.size):=by omega
  refine q02 ?_;simp [q25,-V,anN,J,e0,lf,pk,fa];exact hk _ (by rw [<- hf]; rfl)
 | succ n ih =>
  intro i hi hf s' e0 lf pk;have fa:(i:Int)<s.size:=by omega
  obtain ⟨u,hu⟩:=q9F (s:=s) (i:=i) (by omega);have hw:=q0s (i:=i);have h1:=letter_ev u.toNat;have h2:=digit_ev u.toNat;simp only [q47,hu] at hf;refine q02 ?_;cases b1:isLet u.toNat with
  | true =>
   simp only [b1] at h1 hf;simp [q25,-V,anN,J,e0,lf,pk,fa,hu,h1,hw];refine ih (i + 1) (by omega) (by simpa using hf) _ ?_ ?_ ?_ <;> simp [*]
  | false =>
   cases b2:isDig u.toNat with
   | true =>
    simp only [b1,b2] at h1 h2 hf;simp [q25,-V,anN,J,e0,lf,pk,fa,hu,h1,h2,hw];refine ih (i + 1) (by omega) (by simpa using hf) _ ?_ ?_ ?_ <;> simp [*]
   | false =>
    simp only [b1,b2] at h1 h2 hf;simp [q25,-V,anN,J,e0,lf,pk,fa,hu,h1,h2,hw];refine hr _ (by simpa using hf.symm) ?_;simp
theorem name_ev (s:ByteArray):evA 234 [.str s] (.bool (q3V s)):=by
 refine q00 (c:=q2C) rfl rfl ?_;unfold q3V;by_cases h0:s=⟨#[]⟩
 ·subst h0;simp [q2C,-V,anN,J];exact fun h=>absurd rfl h
 ·have hz:s.size≠0:=fun h=>h0 (by
   obtain ⟨d⟩:=s;have h:d.size=0:=h;rw [Array.eq_empty_of_size_eq_zero h])
  by_cases h1:s.size<=24
  ·have xj:¬ ((24:Int)<s.size):=by omega
   obtain ⟨u,hu⟩:=q9F (s:=s) (i:=0) (by omega);have h2:=letter_ev u.toNat;cases b1:isLet u.toNat with
   | false =>
    simp only [b1] at h2;simp [q2C,-V,anN,J,h0,xj,hu,h2,b1]
   | true =>
    simp only [b1] at h2;simp [q2C,-V,anN,J,h0,xj,hu,h2,b1,hz,h1];refine name_lp s h1 _ _ (fun s' hf=>?main) (fun s' hf h2=>?main2) s.size 0 (by simp) rfl _ ?_ ?_ ?_
    case main=>simp [-V,anN,J,hf]
    case main2=>simp [-V,anN,J,hf,h2]
    all_goals simp
  ·have xj:(24:Int)<s.size:=by omega
   simp [q2C,-V,anN,J,h0,xj,h1]
theorem rname_lp (s:ByteArray) (hs:s.size<=24) (r:RV) (k:Ex->MSt->Option RV) (hk:∀ s',q47 s s.size 0=true->k (.exit 0) s'=some r) (hr:∀ s':MSt,q47 s s.size 0=false->(s'.env 2).v=.bool false->k .ret s'=some r) :
  ∀ (n i:Nat),i + n=s.size->q47 s n i=q47 s s.size 0->∀ s':MSt,(s'.env 0).v=.str s->(s'.env 3).v=.int .i64 i->evL allT q01 q26 s' k=some r:=by
 intro n
 induction n with
 | zero =>
  intro i hi hf s' e0 e3;have fa:¬ ((i:Int)<s.size):=by omega
  refine q02 ?_;simp [q26,-V,anN,J,e0,e3,fa];exact hk _ (by rw [<- hf]; rfl)
 | succ n ih =>
  intro i hi hf s' e0 e3;have fa:(i:Int)<s.size:=by omega
  obtain ⟨u,hu⟩:=q9F (s:=s) (i:=i) (by omega);have hw:=q0s (i:=i);have h1:=rletter_ev u.toNat;have h2:=rdigit_ev u.toNat;simp only [q47,hu] at hf;refine q02 ?_;cases b1:isLet u.toNat with
  | true =>
   simp only [b1] at h1 hf;simp [q26,-V,anN,J,e0,e3,fa,hu,h1,hw];refine ih (i + 1) (by omega) (by simpa using hf) _ ?_ ?_ <;> simp [*]
  | false =>
   cases b2:isDig u.toNat with
   | true =>
    simp only [b1,b2] at h1 h2 hf;simp [q26,-V,anN,J,e0,e3,fa,hu,h1,h2,hw];refine ih (i + 1) (by omega) (by simpa using hf) _ ?_ ?_ <;> simp [*]
   | false =>
    simp only [b1,b2] at h1 h2 hf;simp [q26,-V,anN,J,e0,e3,fa,hu,h1,h2,hw];refine hr _ (by simpa using hf.symm) ?_;simp
theorem rname_ev (s:ByteArray):evA 210 [.str s] (.bool (q3V s)):=by
 refine q00 (c:=q2D) rfl rfl ?_;unfold q3V;by_cases h0:s=⟨#[]⟩
 ·subst h0;simp [q2D,-V,anN,J];exact fun h=>absurd rfl h
 ·have hz:s.size≠0:=fun h=>h0 (by
   obtain ⟨d⟩:=s;have h:d.size=0:=h;rw [Array.eq_empty_of_size_eq_zero h])
  by_cases h1:s.size<=24
  ·have xj:¬ ((24:Int)<s.size):=by omega
   obtain ⟨u,hu⟩:=q9F (s:=s) (i:=0) (by omega);have h2:=rletter_ev u.toNat;cases b1:isLet u.toNat with
   | false =>
    simp only [b1] at h2;simp [q2D,-V,anN,J,h0,xj,hu,h2,b1]
   | true =>
    simp only [b1] at h2;simp [q2D,-V,anN,J,h0,xj,hu,h2,b1,hz,h1];refine rname_lp s h1 _ _ (fun s' hf=>?main) (fun s' hf h2=>?main2) s.size 0 (by simp) rfl _ ?_ ?_
    case main=>simp [-V,anN,J,hf]
    case main2=>simp [-V,anN,J,hf,h2]
    all_goals simp
  ·have xj:(24:Int)<s.size:=by omega
   simp [q2D,-V,anN,J,h0,xj,h1]
mutual
def Vl.same:Vl->Vl->Bool
 | .mk k b i s d _ ks _ xs _ rs,.mk k' b' i' s' d' _ ks' _ cj _ rs'=>decide (k=k')&&(b == b')&&decide (i=i')&&decide (s=s')&&decide (d=d')&&decide (rs=rs')&&Vl.sames ks ks'&&Vl.sames xs cj
def Vl.sames:List Vl->List Vl->Bool
 | [],[]=>true
 | v :: r,v' :: r'=>Vl.same v v'&&Vl.sames r r'
 | [],_ :: _=>false
 | _ :: _,[]=>false
end
theorem Vl.same_def (v w:Vl):v.same w=(decide (v.kind=w.kind)&&(v.b == w.b)&&decide (v.i=w.i)&&decide (v.s=w.s)&&decide (v.id=w.id)&&decide (v.rest=w.rest)&&Vl.sames v.keys w.keys&&Vl.sames v.items w.items):=by
 cases v; cases w; rw [Vl.same]; rfl
theorem Vl.sames_len:∀ l m:List Vl,l.length≠m.length->Vl.sames l m=false
 | [],[],h=>absurd rfl h
 | [],_ :: _,_=>by rw [Vl.sames]
 | _ :: _,[],_=>by rw [Vl.sames]
 | v :: r,w :: r',h=>by rw [Vl.sames,Vl.sames_len r r' (by simpa using h)]; simp
theorem raws_lp (rs qs:List Raw) (hl:rs.length<=9223372036854775807) (he:rs.length=qs.length) (b1 b2:Bool) (r:RV) (k:Ex->MSt->Option RV) (hk:∀ s',rs=qs->k (.exit 0) s'=some r) (hr:∀ s':MSt,rs≠qs->(s'.env 4).v=.bool false->k .ret s'=some r) :
  ∀ (n i:Nat),i + n=rs.length->(rs.drop i=qs.drop i ↔ rs=qs)->∀ s':MSt,(s'.env 0).v=.sl b1 (rs.map rawC)->(s'.env 1).v=.sl b2 (qs.map rawC)->(s'.env 12).v=.int .i64 rs.length->(s'.env 13).v=.int .i64 i->evL allT q01 q0R s' k=some r:=by
 intro n
 induction n with
 | zero =>
  intro i hi hf s' e0 e1 e12 xl;have fa:¬ ((i:Int)<rs.length):=by omega
  refine q02 ?_;simp [q0R,-V,anN,J,e12,xl,fa];exact hk _ (hf.1 (by rw [ye (by omega),ye (by omega)]))
 | succ n ih =>
  intro i hi hf s' e0 e1 e12 xl;have fa:(i:Int)<rs.length:=by omega
  have pf:i<rs.length:=by omega
  have jh:i<qs.length:=by omega
  have hw:=q0s (i:=i);have g1:(rs.map rawC)[i]?=some (rawC rs[i]):=by simp [pf]
  have g2:(qs.map rawC)[i]?=some (rawC qs[i]):=by simp [jh]
  rw [y9 pf,y9 jh] at hf;simp only [List.cons.injEq] at hf;generalize rs[i]=x at *
  generalize qs[i]=y at *
  obtain ⟨xi,xd⟩:=x;obtain ⟨yi,yd⟩:=y;simp only [rawC] at g1 g2;simp only [Raw.mk.injEq] at hf;refine q02 ?_;by_cases h1:xi=yi
  ·by_cases h2:xd=yd
   ·subst h1 h2;simp [q0R,-V,anN,J,e0,e1,e12,xl,fa,g1,g2,eqC,hw];refine ih (i + 1) (by omega) (by simpa using hf) _ ?_ ?_ ?_ ?_ <;> simp [*]
   ·subst h1;simp [q0R,-V,anN,J,e0,e1,e12,xl,fa,g1,g2,eqC,h2];exact hr _ (fun h=>h2 (hf.2 h).1.2) (by simp)
  ·simp [q0R,-V,anN,J,e0,e1,e12,xl,fa,g1,g2,eqC,h1];exact hr _ (fun h=>h1 (hf.2 h).1.1) (by simp)
theorem raws_ev (rs qs:List Raw) (hl:rs.length<=9223372036854775807) (b1 b2:Bool):evA 196 [.sl b1 (rs.map rawC),.sl b2 (qs.map rawC)] (.bool (decide (rs=qs))):=by
 refine q00 (c:=q1D) rfl rfl ?_;by_cases he:rs.length=qs.length
 ·have tg:(rs.length:Int)=qs.length:=by omega
  simp [q1D,-V,anN,J,he];refine raws_lp rs qs hl he b1 b2 _ _ (fun s' hf=>?main) (fun s' hf h4=>?main2) rs.length 0 (by simp) (by simp) _ ?_ ?_ ?_ ?_
  case main=>simp [-V,anN,J,hf]
  case main2=>simp [-V,anN,J,hf,h4]
  all_goals simp [he]
 ·have tg:¬ (rs.length:Int)=qs.length:=by omega
  have oa:rs≠qs:=fun h=>he (by rw [h])
  simp [q1D,-V,anN,J,tg,oa]
theorem eqf_lp (F:Nat) (l m:List Vl) (hl:l.length<=9223372036854775807) (he:l.length=m.length) (hF:∀ x∈l,∀ y∈m,evA F [.agg (valC x),.agg (valC y)] (.bool (x.same y))) (b1 b2:Bool) (r:RV) (k:Ex->MSt->Option RV) (hk:∀ s',Vl.sames l m=true->k (.exit 0) s'=some r) (hr:∀ s':MSt,Vl.sames l m=false->(s'.env 6).v=.bool false->k .ret s'=some r) :
  ∀ (n i:Nat),i + n=l.length->Vl.sames (l.drop i) (m.drop i)=Vl.sames l m->∀ s':MSt,(s'.env 1).v=.sl b2 (m.map valC)->(s'.env 2).v=.fn F []->(s'.env 15).v=.sl b1 (l.map valC)->(s'.env 16).v=.int .i64 l.length->(s'.env 17).v=.int .i64 i->evL allT q01 q0J s' k=some r:=by
 intro n
 induction n with
 | zero =>
  intro i hi hf s' e1 e2 fc oc dh;have fa:¬ ((i:Int)<l.length):=by omega
  refine q02 ?_;simp [q0J,-V,anN,J,oc,dh,fa];refine hk _ ?_;rw [<- hf,ye (by omega),ye (by omega),Vl.sames]
 | succ n ih =>
  intro i hi hf s' e1 e2 fc oc dh;have fa:(i:Int)<l.length:=by omega
  have pf:i<l.length:=by omega
  have jh:i<m.length:=by omega
  have hw:=q0s (i:=i);have g1:(l.map valC)[i]?=some (valC l[i]):=by simp [pf]
  have g2:(m.map valC)[i]?=some (valC m[i]):=by simp [jh]
  have hx:=hF l[i] (y6 _) m[i] (y6 _);rw [y9 pf,y9 jh,Vl.sames] at hf;generalize l[i]=x at *
  generalize m[i]=y at *
  simp only [evA,q04] at g1 g2 hx;refine q02 ?_;cases h1:x.same y with
  | true =>
   rw [h1] at hx hf;simp [q0J,-V,anN,J,e1,e2,fc,oc,dh,fa,g1,g2,q5y,q2G,hx,hw];refine ih (i + 1) (by omega) (by simpa using hf) _ ?_ ?_ ?_ ?_ ?_ <;> simp [*]
  | false =>
   rw [h1] at hx hf;simp [q0J,-V,anN,J,e1,e2,fc,oc,dh,fa,g1,g2,q5y,q2G,hx];exact hr _ (by simpa using hf.symm) (by simp)
theorem eqf_ev (F:Nat) (l m:List Vl) (hl:l.length<=9223372036854775807) (hF:∀ x∈l,∀ y∈m,evA F [.agg (valC x),.agg (valC y)] (.bool (x.same y))) (b1 b2:Bool):evA 197 [.sl b1 (l.map valC),.sl b2 (m.map valC),.fn F []] (.bool (Vl.sames l m)):=by
 refine q00 (c:=q0V) rfl rfl ?_;by_cases he:l.length=m.length
 ·simp [q0V,-V,anN,J,he];refine eqf_lp F l m hl he hF b1 b2 _ _ (fun s' hf=>?main) (fun s' hf h4=>?main2) l.length 0 (by simp) (by simp) _ ?_ ?_ ?_ ?_ ?_
  case main=>simp [-V,anN,J,hf]
  case main2=>simp [-V,anN,J,hf,h4]
  all_goals simp [he]
 ·have tg:¬ (l.length:Int)=m.length:=by omega
  simp [q0V,-V,anN,J,tg,Vl.sames_len l m he]
theorem same_ev:∀ (n:Nat) (v w:Vl),SizeOf.sizeOf v<n->v.ok->evA 255 [.agg (valC v),.agg (valC w)] (.bool (v.same w)):=by
 intro n
 induction n with
 | zero=>intro v w h; omega
 | succ n ih =>
  intro v w hn hv;rw [Vl.ok_def] at hv;obtain ⟨o1,o2,o3,o4,o5,o6⟩:=hv;have hr:=raws_ev v.rest w.rest o3 v.rn w.rn;have oj:=eqf_ev 255 v.keys w.keys o1 (fun x hx y _=>ih x y (by have:=Vl.keys_lt v x hx; omega) (o5 x hx)) v.kn w.kn;have fe:=eqf_ev 255 v.items w.items o2 (fun x hx y _=>ih x y (by have:=Vl.items_lt v x hx; omega) (o6 x hx)) v.xn w.xn;simp only [evA] at hr oj fe;refine q00 (c:=q1s) rfl rfl ?_;rw [q04,q04,Vl.same_def];by_cases h1:v.kind=w.kind
  ·by_cases h2:v.b=w.b
   ·by_cases h3:v.i=w.i
    ·by_cases h4:v.s=w.s
     ·by_cases h5:v.id=w.id
      ·by_cases h6:v.rest=w.rest
       ·cases h7:Vl.sames v.keys w.keys with
        | true=>rw [h7] at oj; simp [q1s,-V,anN,J,h1,h2,h3,h4,h5,h6 ▸ hr,h6,q5y,q2G,oj,fe,h7]
        | false=>rw [h7] at oj; simp [q1s,-V,anN,J,h1,h2,h3,h4,h5,h6 ▸ hr,h6,q5y,q2G,oj,h7]
       ·simp [q1s,-V,anN,J,h1,h2,h3,h4,h5,hr,h6]
      ·simp [q1s,-V,anN,J,h1,h2,h3,h4,h5]
     ·simp [q1s,-V,anN,J,h1,h2,h3,h4]
    ·simp [q1s,-V,anN,J,h1,h2,h3]
   ·simp [q1s,-V,anN,J,h1,h2]
  ·simp [q1s,-V,anN,J,h1]
abbrev valRow (v:Vl):List Slot:=[⟨.int .i64 v.kind,.no⟩,⟨.bool v.b,.no⟩,⟨.int .i64 v.i,.no⟩,⟨.str v.s,.no⟩,⟨.int .i64 v.id,.no⟩,⟨.sl v.kn (v.keys.map valC),.no⟩,⟨.sl v.xn (v.items.map valC),.no⟩,⟨.sl v.rn (v.rest.map rawC),.no⟩]
theorem rrest_lp (v w:Vl) (hl:v.rest.length<=9223372036854775807) (he:v.rest.length=w.rest.length) (m:Nat) (r:RV) (k:Ex->MSt->Option RV)
  (hk:∀ s':MSt,v.rest=w.rest->(s'.env 2).v=.ptr 2 m 0->(s'.env 3).v=.ptr 3 m 0->s'.mem 2 m=some (valRow v)->s'.mem 3 m=some (valRow w)->k (.exit 0) s'=some r) (hr:∀ s':MSt,v.rest≠w.rest->(s'.env 4).v=.bool false->k .ret s'=some r) :
  ∀ (n i:Nat),i + n=v.rest.length->(v.rest.drop i=w.rest.drop i ↔ v.rest=w.rest)->∀ s':MSt,(s'.env 2).v=.ptr 2 m 0->(s'.env 3).v=.ptr 3 m 0->s'.mem 2 m=some (valRow v)->s'.mem 3 m=some (valRow w)->(s'.env 5).v=.int .i64 i->evL allT q01 q1z s' k=some r:=by
 intro n
 induction n with
 | zero =>
  intro i hi hf s' e2 e3 m2 m3 e5;have fa:¬ ((i:Int)<v.rest.length):=by omega
  refine q02 ?_;simp [q1z,-V,anN,J,e2,e3,m2,m3,e5,fa];exact hk _ (hf.1 (by rw [ye (by omega),ye (by omega)])) (by simp [e2]) (by simp [e3]) (by simp [m2]) (by simp [m3])
 | succ n ih =>
  intro i hi hf s' e2 e3 m2 m3 e5;have fa:(i:Int)<v.rest.length:=by omega
  have pf:i<v.rest.length:=by omega
  have jh:i<w.rest.length:=by omega
  have hw:=q0s (i:=i);have g1:(v.rest.map rawC)[i]?=some (rawC v.rest[i]):=by simp [pf]
  have g2:(w.rest.map rawC)[i]?=some (rawC w.rest[i]):=by simp [jh]
  rw [y9 pf,y9 jh] at hf;simp only [List.cons.injEq] at hf;generalize v.rest[i]=x at *
  generalize w.rest[i]=y at *
  obtain ⟨xi,xd⟩:=x;obtain ⟨yi,yd⟩:=y;simp only [rawC] at g1 g2;simp only [Raw.mk.injEq] at hf;refine q02 ?_;by_cases h1:xi=yi
  ·by_cases h2:xd=yd
   ·subst h1 h2;simp [q1z,-V,anN,J,e2,e3,m2,m3,e5,fa,g1,g2,eqC,hw];refine ih (i + 1) (by omega) (by simpa using hf) _ ?_ ?_ ?_ ?_ ?_ <;> simp [*]
   ·subst h1;simp [q1z,-V,anN,J,e2,e3,m2,m3,e5,fa,g1,g2,eqC,h2];exact hr _ (fun h=>h2 (hf.2 h).1.2) (by simp)
  ·simp [q1z,-V,anN,J,e2,e3,m2,m3,e5,fa,g1,g2,eqC,h1];exact hr _ (fun h=>h1 (hf.2 h).1.1) (by simp)
theorem rsames_lp (l m:List Vl) (hl:l.length<=9223372036854775807) (he:l.length=m.length) (hF:∀ x∈l,∀ y∈m,evA 189 [.agg (valC x),.agg (valC y)] (.bool (x.same y))) (b1 b2:Bool) (r:RV) (k:Ex->MSt->Option RV) (hk:∀ s',Vl.sames l m=true->k (.exit 0) s'=some r) (hr:∀ s':MSt,Vl.sames l m=false->(s'.env 4).v=.bool false->k .ret s'=some r) :
  ∀ (n i:Nat),i + n=l.length->Vl.sames (l.drop i) (m.drop i)=Vl.sames l m->∀ s':MSt,(s'.env 0).v=.sl b1 (l.map valC)->(s'.env 1).v=.sl b2 (m.map valC)->(s'.env 5).v=.int .i64 i->evL allT q01 q1K s' k=some r:=by
 intro n
 induction n with
 | zero =>
  intro i hi hf s' e0 e1 e5;have fa:¬ ((i:Int)<l.length):=by omega
  refine q02 ?_;simp [q1K,-V,anN,J,e0,e5,fa];refine hk _ ?_;rw [<- hf,ye (by omega),ye (by omega),Vl.sames]
 | succ n ih =>
  intro i hi hf s' e0 e1 e5;have fa:(i:Int)<l.length:=by omega
  have pf:i<l.length:=by omega
  have jh:i<m.length:=by omega
  have hw:=q0s (i:=i);have g1:(l.map valC)[i]?=some (valC l[i]):=by simp [pf]
  have g2:(m.map valC)[i]?=some (valC m[i]):=by simp [jh]
  have hx:=hF l[i] (y6 _) m[i] (y6 _);rw [y9 pf,y9 jh,Vl.sames] at hf;generalize l[i]=x at *
  generalize m[i]=y at *
  simp only [evA,q04] at g1 g2 hx;refine q02 ?_;cases h1:x.same y with
  | true =>
   rw [h1] at hx hf;simp [q1K,-V,anN,J,e0,e1,e5,fa,g1,g2,q5y,hx,hw];refine ih (i + 1) (by omega) (by simpa using hf) _ ?_ ?_ ?_ <;> simp [*]
  | false =>
   rw [h1] at hx hf;simp [q1K,-V,anN,J,e0,e1,e5,fa,g1,g2,q5y,hx];exact hr _ (by simpa using hf.symm) (by simp)
theorem rsames_ev (l m:List Vl) (hl:l.length<=9223372036854775807) (hF:∀ x∈l,∀ y∈m,evA 189 [.agg (valC x),.agg (valC y)] (.bool (x.same y))) (b1 b2:Bool):evA 213 [.sl b1 (l.map valC),.sl b2 (m.map valC)] (.bool (Vl.sames l m)):=by
 refine q00 (c:=q2p) rfl rfl ?_;by_cases he:l.length=m.length
 ·simp [q2p,-V,anN,J,he];refine rsames_lp l m hl he hF b1 b2 _ _ (fun s' hf=>?main) (fun s' hf h4=>?main2) l.length 0 (by simp) (by simp) _ ?_ ?_ ?_
  case main=>simp [-V,anN,J,hf]
  case main2=>simp [-V,anN,J,hf,h4]
  all_goals simp [he]
 ·have tg:¬ (l.length:Int)=m.length:=by omega
  simp [q2p,-V,anN,J,tg,Vl.sames_len l m he]
theorem rsame_ev:∀ (n:Nat) (v w:Vl),SizeOf.sizeOf v<n->v.ok->evA 189 [.agg (valC v),.agg (valC w)] (.bool (v.same w)):=by
 intro n
 induction n with
 | zero=>intro v w h; omega
 | succ n ih =>
  intro v w hn hv;rw [Vl.ok_def] at hv;obtain ⟨o1,o2,o3,o4,o5,o6⟩:=hv;have oj:=rsames_ev v.keys w.keys o1 (fun x hx y _=>ih x y (by have:=Vl.keys_lt v x hx; omega) (o5 x hx)) v.kn w.kn;have fe:=rsames_ev v.items w.items o2 (fun x hx y _=>ih x y (by have:=Vl.items_lt v x hx; omega) (o6 x hx)) v.xn w.xn;simp only [evA] at oj fe;refine q00 (c:=q0P) rfl rfl ?_;rw [q04,q04,Vl.same_def];by_cases h1:v.kind=w.kind
  ·by_cases h2:v.b=w.b
   ·by_cases h3:v.i=w.i
    ·by_cases h4:v.s=w.s
     ·by_cases h5:v.id=w.id
      ·by_cases he:v.rest.length=w.rest.length
       ·simp [q0P,-V,anN,J,h1,h2,h3,h4,h5,he];refine rrest_lp v w o3 he 1 _ _ (fun s' h6 e2 e3 m2 m3=>?main) (fun s' h6 e4=>?main2) v.rest.length 0 (by simp) (by simp) _ ?_ ?_ ?_ ?_ ?_
        case main =>
         cases h7:Vl.sames v.keys w.keys with
         | true=>rw [h7] at oj; simp [-V,anN,J,e2,e3,m2,m3,q5y,oj,fe,h6]
         | false=>rw [h7] at oj; simp [-V,anN,J,e2,e3,m2,m3,q5y,oj,h6]
        case main2=>simp [-V,anN,J,e4,h6]
        all_goals simp [h1,h2,h3,h4,h5]
       ·have tg:¬ (v.rest.length:Int)=w.rest.length:=by omega
        have h6:¬ v.rest=w.rest:=fun h=>he (by rw [h])
        simp [q0P,-V,anN,J,h1,h2,h3,h4,h5,tg,h6]
      ·simp [q0P,-V,anN,J,h1,h2,h3,h4,h5]
     ·simp [q0P,-V,anN,J,h1,h2,h3,h4]
    ·simp [q0P,-V,anN,J,h1,h2,h3]
   ·simp [q0P,-V,anN,J,h1,h2]
  ·simp [q0P,-V,anN,J,h1]
def Mem.same (m m':Mem):Bool:=decide (m.id=m'.id)&&decide (m.name=m'.name)&&decide (m.ty=m'.ty)&&(m.crit == m'.crit)&&(m.has == m'.has)&&m.dflt.same m'.dflt
def q0A:List Mem->List Mem->Bool
 | [],[]=>true
 | m :: r,m' :: r'=>m.same m'&&q0A r r'
 | [],_ :: _=>false
 | _ :: _,[]=>false
theorem q8x:∀ l m:List Mem,l.length≠m.length->q0A l m=false
 | [],[],h=>absurd rfl h
 | [],_ :: _,_=>rfl
 | _ :: _,[],_=>rfl
 | v :: r,w :: r',h=>by rw [q0A,q8x r r' (by simpa using h)]; simp
def Typ.same (t u:Typ):Bool:=decide (t.kind=u.kind)&&decide (t.name=u.name)&&decide (t.low=u.low)&&decide (t.high=u.high)&&decide (t.max=u.max)&&decide (t.key=u.key)&&decide (t.elem=u.elem)&&(t.opn == u.opn)&&decide (t.syms=u.syms)&&q0A t.mems u.mems
theorem msame_ev (m m':Mem) (hm:m.ok):evA 254 [.agg (memC m),.agg (memC m')] (.bool (m.same m')):=by
 have hs:=same_ev _ m.dflt m'.dflt (Nat.lt_succ_self _) hm.1;simp only [evA,q04] at hs;refine q00 (c:=q15) rfl rfl ?_;unfold Mem.same memC;by_cases h1:m.id=m'.id
 ·by_cases h2:m.name=m'.name
  ·by_cases h3:m.ty=m'.ty
   ·by_cases h4:m.crit=m'.crit
    ·by_cases h5:m.has=m'.has
     ·simp [q15,-V,anN,J,h1,h2,h3,h4,h5,hs]
     ·simp [q15,-V,anN,J,h1,h2,h3,h4,h5]
    ·simp [q15,-V,anN,J,h1,h2,h3,h4]
   ·simp [q15,-V,anN,J,h1,h2,h3]
  ·simp [q15,-V,anN,J,h1,h2]
 ·simp [q15,-V,anN,J,h1]
theorem rmsame_ev (m m':Mem) (hm:m.ok):evA 223 [.agg (memC m),.agg (memC m')] (.bool (m.same m')):=by
 have hs:=rsame_ev _ m.dflt m'.dflt (Nat.lt_succ_self _) hm.1;simp only [evA,q04] at hs;refine q00 (c:=q0U) rfl rfl ?_;unfold Mem.same memC;by_cases h1:m.id=m'.id
 ·by_cases h2:m.name=m'.name
  ·by_cases h3:m.ty=m'.ty
   ·by_cases h4:m.crit=m'.crit
    ·by_cases h5:m.has=m'.has
     ·simp [q0U,-V,anN,J,h1,h2,h3,h4,h5,hs]
     ·simp [q0U,-V,anN,J,h1,h2,h3,h4,h5]
    ·simp [q0U,-V,anN,J,h1,h2,h3,h4]
   ·simp [q0U,-V,anN,J,h1,h2,h3]
  ·simp [q0U,-V,anN,J,h1,h2]
 ·simp [q0U,-V,anN,J,h1]
theorem syms_lp (rs qs:List Sym) (hl:rs.length<=9223372036854775807) (he:rs.length=qs.length) (b1 b2:Bool) (r:RV) (k:Ex->MSt->Option RV) (hk:∀ s',rs=qs->k (.exit 0) s'=some r) (hr:∀ s':MSt,rs≠qs->(s'.env 4).v=.bool false->k .ret s'=some r) :
  ∀ (n i:Nat),i + n=rs.length->(rs.drop i=qs.drop i ↔ rs=qs)->∀ s':MSt,(s'.env 0).v=.sl b1 (rs.map symC)->(s'.env 1).v=.sl b2 (qs.map symC)->(s'.env 12).v=.int .i64 rs.length->(s'.env 13).v=.int .i64 i->evL allT q01 q0C s' k=some r:=by
 intro n
 induction n with
 | zero =>
  intro i hi hf s' e0 e1 e12 xl;have fa:¬ ((i:Int)<rs.length):=by omega
  refine q02 ?_;simp [q0C,-V,anN,J,e12,xl,fa];exact hk _ (hf.1 (by rw [ye (by omega),ye (by omega)]))
 | succ n ih =>
  intro i hi hf s' e0 e1 e12 xl;have fa:(i:Int)<rs.length:=by omega
  have pf:i<rs.length:=by omega
  have jh:i<qs.length:=by omega
  have hw:=q0s (i:=i);have g1:(rs.map symC)[i]?=some (symC rs[i]):=by simp [pf]
  have g2:(qs.map symC)[i]?=some (symC qs[i]):=by simp [jh]
  rw [y9 pf,y9 jh] at hf;simp only [List.cons.injEq] at hf;generalize rs[i]=x at *
  generalize qs[i]=y at *
  obtain ⟨xi,xd⟩:=x;obtain ⟨yi,yd⟩:=y;simp only [symC] at g1 g2;simp only [Sym.mk.injEq] at hf;refine q02 ?_;by_cases h1:xi=yi
  ·by_cases h2:xd=yd
   ·subst h1 h2;simp [q0C,-V,anN,J,e0,e1,e12,xl,fa,g1,g2,eqC,hw];refine ih (i + 1) (by omega) (by simpa using hf) _ ?_ ?_ ?_ ?_ <;> simp [*]
   ·subst h1;simp [q0C,-V,anN,J,e0,e1,e12,xl,fa,g1,g2,eqC,h2];exact hr _ (fun h=>h2 (hf.2 h).1.2) (by simp)
  ·simp [q0C,-V,anN,J,e0,e1,e12,xl,fa,g1,g2,eqC,h1];exact hr _ (fun h=>h1 (hf.2 h).1.1) (by simp)
theorem syms_ev (rs qs:List Sym) (hl:rs.length<=9223372036854775807) (b1 b2:Bool):evA 252 [.sl b1 (rs.map symC),.sl b2 (qs.map symC)] (.bool (decide (rs=qs))):=by
 refine q00 (c:=q1e) rfl rfl ?_;by_cases he:rs.length=qs.length
 ·simp [q1e,-V,anN,J,he];refine syms_lp rs qs hl he b1 b2 _ _ (fun s' hf=>?main) (fun s' hf h4=>?main2) rs.length 0 (by simp) (by simp) _ ?_ ?_ ?_ ?_
  case main=>simp [-V,anN,J,hf]
  case main2=>simp [-V,anN,J,hf,h4]
  all_goals simp [he]
 ·have tg:¬ (rs.length:Int)=qs.length:=by omega
  have oa:rs≠qs:=fun h=>he (by rw [h])
  simp [q1e,-V,anN,J,tg,oa]
theorem eqm_lp (l m:List Mem) (hl:l.length<=9223372036854775807) (he:l.length=m.length) (hF:∀ x∈l,x.ok) (b1 b2:Bool) (r:RV) (k:Ex->MSt->Option RV) (hk:∀ s',q0A l m=true->k (.exit 0) s'=some r) (hr:∀ s':MSt,q0A l m=false->(s'.env 6).v=.bool false->k .ret s'=some r) :
  ∀ (n i:Nat),i + n=l.length->q0A (l.drop i) (m.drop i)=q0A l m->∀ s':MSt,(s'.env 1).v=.sl b2 (m.map memC)->(s'.env 2).v=.fn 254 []->(s'.env 15).v=.sl b1 (l.map memC)->(s'.env 16).v=.int .i64 l.length->(s'.env 17).v=.int .i64 i->evL allT q01 q0F s' k=some r:=by
 intro n
 induction n with
 | zero =>
  intro i hi hf s' e1 e2 fc oc dh;have fa:¬ ((i:Int)<l.length):=by omega
  refine q02 ?_;simp [q0F,-V,anN,J,oc,dh,fa];refine hk _ ?_;rw [<- hf,ye (by omega),ye (by omega),q0A]
 | succ n ih =>
  intro i hi hf s' e1 e2 fc oc dh;have fa:(i:Int)<l.length:=by omega
  have pf:i<l.length:=by omega
  have jh:i<m.length:=by omega
  have hw:=q0s (i:=i);have g1:(l.map memC)[i]?=some (memC l[i]):=by simp [pf]
  have g2:(m.map memC)[i]?=some (memC m[i]):=by simp [jh]
  have hx:=msame_ev l[i] m[i] (hF l[i] (y6 _));rw [y9 pf,y9 jh,q0A] at hf;generalize l[i]=x at *
  generalize m[i]=y at *
  simp only [evA,memC] at g1 g2 hx;refine q02 ?_;cases h1:x.same y with
  | true =>
   rw [h1] at hx hf;simp [q0F,-V,anN,J,e1,e2,fc,oc,dh,fa,g1,g2,q5y,q2G,hx,hw];refine ih (i + 1) (by omega) (by simpa using hf) _ ?_ ?_ ?_ ?_ ?_ <;> simp [*]
  | false =>
   rw [h1] at hx hf;simp [q0F,-V,anN,J,e1,e2,fc,oc,dh,fa,g1,g2,q5y,q2G,hx];exact hr _ (by simpa using hf.symm) (by simp)
theorem eqm_ev (l m:List Mem) (hl:l.length<=9223372036854775807) (hF:∀ x∈l,x.ok) (b1 b2:Bool):evA 253 [.sl b1 (l.map memC),.sl b2 (m.map memC),.fn 254 []] (.bool (q0A l m)):=by
 refine q00 (c:=q0N) rfl rfl ?_;by_cases he:l.length=m.length
 ·simp [q0N,-V,anN,J,he];refine eqm_lp l m hl he hF b1 b2 _ _ (fun s' hf=>?main) (fun s' hf h4=>?main2) l.length 0 (by simp) (by simp) _ ?_ ?_ ?_ ?_ ?_
  case main=>simp [-V,anN,J,hf]
  case main2=>simp [-V,anN,J,hf,h4]
  all_goals simp [he]
 ·have tg:¬ (l.length:Int)=m.length:=by omega
  simp [q0N,-V,anN,J,tg,q8x l m he]
theorem tsame_ev (t u:Typ) (ht:t.ok):evA 237 [.agg (typC t),.agg (typC u)] (.bool (t.same u)):=by
 have hs:=syms_ev t.syms u.syms ht.1 t.sn u.sn;have hm:=eqm_ev t.mems u.mems ht.2.1 ht.2.2 t.mn u.mn;simp only [evA] at hs hm;refine q00 (c:=q0Q) rfl rfl ?_;unfold Typ.same typC;by_cases h1:t.kind=u.kind
 ·by_cases h2:t.name=u.name
  ·by_cases h3:t.low=u.low
   ·by_cases h4:t.high=u.high
    ·by_cases h5:t.max=u.max
     ·by_cases h6:t.key=u.key
      ·by_cases h7:t.elem=u.elem
       ·by_cases h8:t.opn=u.opn
        ·by_cases h9:t.syms=u.syms
         ·rw [decide_eq_true h9] at hs;simp [q0Q,-V,anN,J,h1,h2,h3,h4,h5,h6,h7,h8,hs,h9 ▸ hs,h9,q5y,q2G,hm]
         ·rw [decide_eq_false h9] at hs;simp [q0Q,-V,anN,J,h1,h2,h3,h4,h5,h6,h7,h8,hs,h9]
        ·simp [q0Q,-V,anN,J,h1,h2,h3,h4,h5,h6,h7,h8]
       ·simp [q0Q,-V,anN,J,h1,h2,h3,h4,h5,h6,h7]
      ·simp [q0Q,-V,anN,J,h1,h2,h3,h4,h5,h6]
     ·simp [q0Q,-V,anN,J,h1,h2,h3,h4,h5]
    ·simp [q0Q,-V,anN,J,h1,h2,h3,h4]
   ·simp [q0Q,-V,anN,J,h1,h2,h3]
  ·simp [q0Q,-V,anN,J,h1,h2]
 ·simp [q0Q,-V,anN,J,h1]
abbrev q0b (t:Typ):List Slot:=[⟨.int .i64 t.kind,.no⟩,⟨.str t.name,.no⟩,⟨.int .i64 t.low,.no⟩,⟨.int .i64 t.high,.no⟩,⟨.int .i64 t.max,.no⟩,⟨.sl t.sn (t.syms.map symC),.no⟩,⟨.sl t.mn (t.mems.map memC),.no⟩,⟨.int .i64 t.key,.no⟩,⟨.int .i64 t.elem,.no⟩,⟨.bool t.opn,.no⟩]
theorem rsyms_lp (v w:Typ) (hl:v.syms.length<=9223372036854775807) (he:v.syms.length=w.syms.length) (m:Nat) (r:RV) (k:Ex->MSt->Option RV)
  (hk:∀ s':MSt,v.syms=w.syms->(s'.env 2).v=.ptr 2 m 0->(s'.env 3).v=.ptr 3 m 0->s'.mem 2 m=some (q0b v)->s'.mem 3 m=some (q0b w)->k (.exit 0) s'=some r) (hr:∀ s':MSt,v.syms≠w.syms->(s'.env 4).v=.bool false->k .ret s'=some r) :
  ∀ (n i:Nat),i + n=v.syms.length->(v.syms.drop i=w.syms.drop i ↔ v.syms=w.syms)->∀ s':MSt,(s'.env 2).v=.ptr 2 m 0->(s'.env 3).v=.ptr 3 m 0->s'.mem 2 m=some (q0b v)->s'.mem 3 m=some (q0b w)->(s'.env 5).v=.int .i64 i->evL allT q01 q1E s' k=some r:=by
 intro n
 induction n with
 | zero =>
  intro i hi hf s' e2 e3 m2 m3 e5;have fa:¬ ((i:Int)<v.syms.length):=by omega
  refine q02 ?_;simp [q1E,-V,anN,J,e2,e3,m2,m3,e5,fa];exact hk _ (hf.1 (by rw [ye (by omega),ye (by omega)])) (by simp [e2]) (by simp [e3]) (by simp [m2]) (by simp [m3])
 | succ n ih =>
  intro i hi hf s' e2 e3 m2 m3 e5;have fa:(i:Int)<v.syms.length:=by omega
  have pf:i<v.syms.length:=by omega
  have jh:i<w.syms.length:=by omega
  have hw:=q0s (i:=i);have g1:(v.syms.map symC)[i]?=some (symC v.syms[i]):=by simp [pf]
  have g2:(w.syms.map symC)[i]?=some (symC w.syms[i]):=by simp [jh]
  rw [y9 pf,y9 jh] at hf;simp only [List.cons.injEq] at hf;generalize v.syms[i]=x at *
  generalize w.syms[i]=y at *
  obtain ⟨xi,xd⟩:=x;obtain ⟨yi,yd⟩:=y;simp only [symC] at g1 g2;simp only [Sym.mk.injEq] at hf;refine q02 ?_;by_cases h1:xi=yi
  ·by_cases h2:xd=yd
   ·subst h1 h2;simp [q1E,-V,anN,J,e2,e3,m2,m3,e5,fa,g1,g2,eqC,hw];refine ih (i + 1) (by omega) (by simpa using hf) _ ?_ ?_ ?_ ?_ ?_ <;> simp [*]
   ·subst h1;simp [q1E,-V,anN,J,e2,e3,m2,m3,e5,fa,g1,g2,eqC,h2];exact hr _ (fun h=>h2 (hf.2 h).1.2) (by simp)
  ·simp [q1E,-V,anN,J,e2,e3,m2,m3,e5,fa,g1,g2,eqC,h1];exact hr _ (fun h=>h1 (hf.2 h).1.1) (by simp)
theorem rmems_lp (v w:Typ) (hl:v.mems.length<=9223372036854775807) (hF:∀ x∈v.mems,x.ok) (he:v.mems.length=w.mems.length) (m:Nat) (r:RV) (k:Ex->MSt->Option RV)
  (hk:∀ s':MSt,q0A v.mems w.mems=true->k (.exit 2) s'=some r) (hr:∀ s':MSt,q0A v.mems w.mems=false->(s'.env 4).v=.bool false->k .ret s'=some r) :
  ∀ (n i:Nat),i + n=v.mems.length->q0A (v.mems.drop i) (w.mems.drop i)=q0A v.mems w.mems->∀ s':MSt,(s'.env 2).v=.ptr 2 m 0->(s'.env 3).v=.ptr 3 m 0->s'.mem 2 m=some (q0b v)->s'.mem 3 m=some (q0b w)->(s'.env 6).v=.int .i64 i->evL allT q01 q2d s' k=some r:=by
 intro n
 induction n with
 | zero =>
  intro i hi hf s' e2 e3 m2 m3 e6;have fa:¬ ((i:Int)<v.mems.length):=by omega
  refine q02 ?_;simp [q2d,-V,anN,J,e2,e3,m2,m3,e6,fa];refine hk _ ?_;rw [<- hf,ye (by omega),ye (by omega),q0A]
 | succ n ih =>
  intro i hi hf s' e2 e3 m2 m3 e6;have fa:(i:Int)<v.mems.length:=by omega
  have pf:i<v.mems.length:=by omega
  have jh:i<w.mems.length:=by omega
  have hw:=q0s (i:=i);have g1:(v.mems.map memC)[i]?=some (memC v.mems[i]):=by simp [pf]
  have g2:(w.mems.map memC)[i]?=some (memC w.mems[i]):=by simp [jh]
  have hx:=rmsame_ev v.mems[i] w.mems[i] (hF _ (y6 _));rw [y9 pf,y9 jh,q0A] at hf;generalize v.mems[i]=x at *
  generalize w.mems[i]=y at *
  simp only [evA,memC] at g1 g2 hx;refine q02 ?_;cases h1:x.same y with
  | true =>
   rw [h1] at hx hf;simp [q2d,-V,anN,J,e2,e3,m2,m3,e6,fa,g1,g2,q5y,hx,hw];refine ih (i + 1) (by omega) (by simpa using hf) _ ?_ ?_ ?_ ?_ ?_ <;> simp [*]
  | false =>
   rw [h1] at hx hf;simp [q2d,-V,anN,J,e2,e3,m2,m3,e6,fa,g1,g2,q5y,hx];exact hr _ (by simpa using hf.symm) (by simp)
theorem rtsame_ev (t u:Typ) (ht:t.ok):evA 208 [.agg (typC t),.agg (typC u)] (.bool (t.same u)):=by
 refine q00 (c:=q0u) rfl rfl ?_;unfold Typ.same typC;by_cases h1:t.kind=u.kind
 ·by_cases h2:t.name=u.name
  ·by_cases h3:t.low=u.low
   ·by_cases h4:t.high=u.high
    ·by_cases h5:t.max=u.max
     ·by_cases h6:t.key=u.key
      ·by_cases h7:t.elem=u.elem
       ·by_cases h8:t.opn=u.opn
        ·by_cases h9:t.syms.length=u.syms.length
         ·by_cases er:t.mems.length=u.mems.length
          ·simp [q0u,-V,anN,J,h1,h2,h3,h4,h5,h6,h7,h8,h9,er];refine rsyms_lp t u ht.1 h9 1 _ _ (fun s' um e2 e3 m2 m3=>?main) (fun s' um e4=>?main2) t.syms.length 0 (by simp) (by simp) _ ?_ ?_ ?_ ?_ ?_
           case main =>
            simp [-V,anN,J,um];refine rmems_lp t u ht.2.1 ht.2.2 er 1 _ _ (fun s' wm=>?a) (fun s' wm e4=>?b) t.mems.length 0 (by simp) (by simp) _ ?_ ?_ ?_ ?_ ?_
            case a=>simp [-V,anN,J,wm]
            case b=>simp [-V,anN,J,wm,e4]
            all_goals simp [e2,e3,m2,m3]
           case main2=>simp [-V,anN,J,um,e4]
           all_goals simp [h1,h2,h3,h4,h5,h6,h7,h8]
          ·have kG:¬ (t.mems.length:Int)=u.mems.length:=by omega
           simp [q0u,-V,anN,J,h1,h2,h3,h4,h5,h6,h7,h8,h9,kG,q8x _ _ er]
         ·have gN:¬ (t.syms.length:Int)=u.syms.length:=by omega
          have um:¬ t.syms=u.syms:=fun h=>h9 (by rw [h])
          simp [q0u,-V,anN,J,h1,h2,h3,h4,h5,h6,h7,h8,gN,um]
        ·simp [q0u,-V,anN,J,h1,h2,h3,h4,h5,h6,h7,h8]
       ·simp [q0u,-V,anN,J,h1,h2,h3,h4,h5,h6,h7]
      ·simp [q0u,-V,anN,J,h1,h2,h3,h4,h5,h6]
     ·simp [q0u,-V,anN,J,h1,h2,h3,h4,h5]
    ·simp [q0u,-V,anN,J,h1,h2,h3,h4]
   ·simp [q0u,-V,anN,J,h1,h2,h3]
  ·simp [q0u,-V,anN,J,h1,h2]
 ·simp [q0u,-V,anN,J,h1]
theorem anN_t (a:An):anN true a=.ex:=rfl
theorem anN_f (a:An):anN false a=a:=rfl
theorem anN_ex (b:Bool):anN b .ex=.ex:=by cases b <;> rfl
attribute [simp] anN_t anN_f anN_ex
theorem q06 {b:C} {r:RV} (n:Nat) (I:Nat->MSt->Prop) (E:Ex->MSt->Prop)
  (step:∀ i,i<=n->∀ s k,I i s->(i<n->∀ s',I (i + 1) s'->evL allT q01 b s' k=some r)->(∀ e s',E e s'->k e s'=some r)->evL allT q01 b s k=some r)
  (s:MSt) (k:Ex->MSt->Option RV) (h:I 0 s) (hk:∀ e s',E e s'->k e s'=some r):evL allT q01 b s k=some r:=by
 have:∀ m i,i + m=n->∀ s,I i s->evL allT q01 b s k=some r:=by
  intro m
  induction m with
  | zero=>intro i hi s h; exact step i (by omega) s k h (fun fa=>absurd fa (by omega)) hk
  | succ m ih=>intro i hi s h; exact step i (by omega) s k h (fun _ s' h'=>ih (i + 1) (by omega) s' h') hk
 exact this n 0 (by omega) s h
instance memStr (s:ByteArray) (l:List ByteArray):Decidable (s∈l):=@List.instDecidableMemOfLawfulBEq _ instBEqOfDecidableEq _ s l
def hasStr (s:ByteArray) (l:List ByteArray):Bool:=decide (s∈l)
theorem qbK {s:ByteArray} {l:List ByteArray} (h:s∈l):hasStr s l=true:=decide_eq_true h
theorem qbJ {s:ByteArray} {l:List ByteArray} (h:¬ s∈l):hasStr s l=false:=decide_eq_false h
def idOk (b n:Int):Bool:=decide (b<n)&&decide (1<=n)&&decide (n<=1000)
def q1P:Int->List ByteArray->List (Int × ByteArray)->Bool
 | _,_,[]=>true
 | b,seen,(n,s) :: r=>idOk b n&&!hasStr s seen&&q3V s&&q1P n (seen++[s]) r
def idC (x:Int × ByteArray):List AV:=[.int .i64 x.1]
def nmC (x:Int × ByteArray):List AV:=[.str x.2]
def q7B (s:ByteArray):List AV:=[.str s,.bool true]
theorem seen_get (s:ByteArray):∀ l:List ByteArray,q6J (l.map q7B) (.str s)=if s∈l then some (AV.bool true) else none
 | []=>rfl
 | x :: r=>by
  simp only [yh,q7B,q6J,qbe];by_cases h:x=s
  ·simp [h]
  ·have h':¬ s=x:=fun e=>h e.symm
   have:=seen_get s r;simp [h,h',this]
theorem seen_set (s:ByteArray):∀ l:List ByteArray,¬ s∈l->q55 (l.map q7B) (.str s) (.bool true)=(l++[s]).map q7B
 | [],_=>rfl
 | x :: r,hn=>by
  have h:¬ x=s:=fun e=>hn (by simp [e])
  have:=seen_set s r fun e=>hn (by simp [e])
  simp [q7B,q55,qbe,h,this]
theorem seen_ok:∀ l:List ByteArray,q76 .none (l.map q7B)=true
 | []=>rfl
 | x :: r=>by
  have:=seen_ok r;simp only [q76] at this;simp [q76,q7B,q6i,AV.flat,AV.scal]
def q2T (l:List (Int × ByteArray)):Nat->Int
 | 0=>0
 | i + 1=>match l[i]? with
  | some x=>x.1
  | none=>0
theorem ids_ev (l:List (Int × ByteArray)) (hl:l.length<=9223372036854775807) (b1 b2:Bool):evA 250 [.sl b1 (l.map idC),.sl b2 (l.map nmC)] (.bool (q1P 0 [] l&&decide (l.length<=16))):=by
 refine q00 (c:=q73) rfl rfl ?_;simp [q73,-V,-y3,-y0,J];refine q06 l.length (fun i s=>(s.env 0).v=.sl b1 (l.map idC)/\(s.env 1).v=.sl b2 (l.map nmC)/\(s.env 5).v=.mp 8 2/\(s.env 9).v=.sl b1 (l.map idC)/\(s.env 10).v=.int .i64 l.length/\(s.env 11).v=.int .i64 i/\s.obj 8 2=some (q6m (((l.take i).map (·.2)).map q7B))/\q1P (q2T l i) ((l.take i).map (·.2)) (l.drop i)=q1P 0 [] l)
  (fun e s=>(e=.exit 0/\q1P 0 [] l=true/\(s.env 0).v=.sl b1 (l.map idC))\/(e=.ret/\q1P 0 [] l=false/\(s.env 4).v=.bool false)) (fun i hi s k h ih hk=>?_) _ _ ?_ (fun e s h=>?_)
 ·obtain ⟨e0,e1,e5,e9,e10,e11,o,hs⟩:=h;refine q02 ?_;by_cases fa:i<l.length
  ·have ga:(i:Int)<l.length:=by omega
   have g1:(l.map idC)[i]?=some (idC l[i]):=by simp [fa]
   have g2:(l.map nmC)[i]?=some (nmC l[i]):=by simp [fa]
   have hw:=q0s (i:=i);have ht:l.take (i + 1)=l.take i++[l[i]]:=(yK fa).symm;have hp:q2T l (i + 1)=l[i].1:=by simp [q2T,fa]
   have hn:=name_ev l[i].2;rw [y9 fa,q1P] at hs;generalize hx:l[i]=x at *
   generalize cL:(l.take i).map (·.2)=seen at *
   have hg:=seen_get x.2 seen;have bq:=seen_ok seen;simp only [idC,nmC] at g1 g2;have nD:(0<(i:Int)->∃ p,(l.map idC)[i - 1]?=some [.int .i64 p]/\q2T l i=p):=fun h0=>by
    obtain ⟨j,rfl⟩:∃ j,i=j + 1:=⟨i - 1,by omega⟩;exact ⟨l[j].1,by simp [idC,show j<l.length from by omega],by simp [q2T,show j<l.length from by omega]⟩
   have fail:∀ s',(s'.env 4).v=.bool false->(idOk (q2T l i) x.1&&!hasStr x.2 seen&&q3V x.2)=false->k .ret s'=some (.bool (q1P 0 [] l&&decide (l.length<=16)),none):=fun s' h4 hf=>hk _ _ (.inr ⟨rfl,by rw [<- hs,hf]; rfl,h4⟩)
   obtain ⟨z,hz⟩:∃ z:Int,z=i:=⟨_,rfl⟩;have gc:0<=z:=by omega
   have tJ:z.toNat=i:=by omega
   have rj:z<l.length:=by omega
   have tq:IntKind.i64.wrap (z + 1)=((i + 1:Nat):Int):=by rw [hz]; exact hw
   rw [<- hz] at e11;rw [<- tJ] at g1 g2;by_cases c1:x.1<1
   ·simp [q0I,-V,-y3,-y0,J,e0,e1,e5,e9,e10,e11,rj,gc,g1,c1];exact fail _ (by simp) (by simp [idOk,show ¬ 1<=x.1 from by omega])
   by_cases c2:1000<x.1
   ·simp [q0I,-V,-y3,-y0,J,e0,e1,e5,e9,e10,e11,rj,gc,g1,c1,c2];exact fail _ (by simp) (by simp [idOk,show ¬ x.1<=1000 from by omega])
   have rest:(¬ 0<z\/∃ y p,0<z/\IntKind.i64.wrap (z - 1)=y/\0<=y/\(l.map idC)[y.toNat]?=some [.int .i64 p]/\¬ x.1<=p)->q2T l i<x.1->q0I.run (evC allT q01) (evK allT q01) s (q83 (evL allT q01) q0I k)=some (.bool (q1P 0 [] l&&decide (l.length<=16)),none):=by
    intro h0 uo;by_cases c5:x.2∈seen
    ·rw [if_pos c5] at hg;rcases h0 with c3 | ⟨y,p,c3,hy,ai,bk,kD⟩
     ·simp [q0I,-V,-y3,-y0,J,e0,e1,e5,e9,e10,e11,rj,gc,g1,g2,c1,c2,c3,o,q46,bq,q6i,AV.flat,AV.scal,hg];exact fail _ (by simp) (by simp [qbK c5])
     ·simp [q0I,-V,-y3,-y0,J,e0,e1,e5,e9,e10,e11,rj,gc,g1,g2,c1,c2,c3,hy,ai,bk,kD,o,q46,bq,q6i,AV.flat,AV.scal,hg];exact fail _ (by simp) (by simp [qbK c5])
    ·rw [if_neg c5] at hg;have za:=seen_set x.2 seen c5;cases c6:q3V x.2 with
     | false =>
      rw [c6] at hn;rcases h0 with c3 | ⟨y,p,c3,hy,ai,bk,kD⟩
      ·simp [q0I,-V,-y3,-y0,J,e0,e1,e5,e9,e10,e11,rj,gc,g1,g2,c1,c2,c3,o,q46,bq,q6i,AV.flat,AV.scal,hg,hn];exact fail _ (by simp) (by simp [c6])
      ·simp [q0I,-V,-y3,-y0,J,e0,e1,e5,e9,e10,e11,rj,gc,g1,g2,c1,c2,c3,hy,ai,bk,kD,o,q46,bq,q6i,AV.flat,AV.scal,hg,hn];exact fail _ (by simp) (by simp [c6])
     | true =>
      rw [c6] at hn;have fi:q1P x.1 (seen++[x.2]) (l.drop (i + 1))=q1P 0 [] l:=by rw [<- hs]; simp [idOk,qbJ c5,c6,uo,show 1<=x.1 from by omega,show x.1<=1000 from by omega]
      rcases h0 with c3 | ⟨y,p,c3,hy,ai,bk,kD⟩
      ·simp [q0I,-V,-y3,-y0,J,e0,e1,e5,e9,e10,e11,rj,gc,g1,g2,c1,c2,c3,o,q46,bq,q6i,AV.flat,AV.scal,hg,hn,za,tq];refine ih fa _ ⟨?_,?_,?_,?_,?_,?_,?_,?_⟩ <;> simp [ht,cL,hp,fi,e0,e1,e5,e9,e10]
      ·simp [q0I,-V,-y3,-y0,J,e0,e1,e5,e9,e10,e11,rj,gc,g1,g2,c1,c2,c3,hy,ai,bk,kD,o,q46,bq,q6i,AV.flat,AV.scal,hg,hn,za,tq];refine ih fa _ ⟨?_,?_,?_,?_,?_,?_,?_,?_⟩ <;> simp [ht,cL,hp,fi,e0,e1,e5,e9,e10]
   by_cases c3:0<(i:Int)
   ·obtain ⟨p,kF,bk⟩:=nD c3;have c3z:0<z:=by omega
    have sw:IntKind.i64.wrap (z - 1)=((i - 1:Nat):Int):=by rw [IntWalk.i64_in _ (by omega)]; omega
    obtain ⟨y,hy⟩:∃ y:Int,y=((i - 1:Nat):Int):=⟨_,rfl⟩;have ai:0<=y:=by omega
    rw [<- hy] at sw;rw [show i - 1=y.toNat from by omega] at kF;by_cases c4:x.1<=p
    ·simp [q0I,-V,-y3,-y0,J,e0,e1,e5,e9,e10,e11,rj,gc,g1,c1,c2,c3z,sw,ai,kF,c4];exact fail _ (by simp) (by simp [idOk,bk,show ¬ p<x.1 from by omega])
    ·exact rest (.inr ⟨y,p,c3z,sw,ai,kF,c4⟩) (by rw [bk]; omega)
   ·have h0:i=0:=by omega
    subst h0;exact rest (.inl (by omega)) (by simp only [q2T]; omega)
  ·have ga:¬ (i:Int)<l.length:=by omega
   simp [q0I,-V,-y3,-y0,J,e10,e11,ga];refine hk _ _ (.inl ⟨rfl,?_,by simp [e0]⟩);rw [<- hs,ye (by omega),q1P]
 ·simp [q6m,q2T]
 ·rcases h with ⟨rfl,h1,h2⟩ | ⟨rfl,h1,h2⟩ <;> simp [-V,-y3,-y0,J,h1,h2]
  omega
def symE (x:Sym):Int × ByteArray:=(x.id,x.name)
def memE (x:Mem):Int × ByteArray:=(x.id,x.name)
def q90 (l:List Sym):Bool:=decide (0<l.length)&&(q1P 0 [] (l.map symE)&&decide (l.length<=16))
theorem symbols_ev (l:List Sym) (hl:l.length<=8796093022206) (b:Bool):evA 235 [.sl b (l.map symC)] (.bool (q90 l)):=by
 refine q00 (c:=q44) rfl rfl ?_;have wg:=fun b1 b2=>ids_ev (l.map symE) (by simp; omega) b1 b2
 simp only [evA] at wg;simp [q44,-V,-y3,-y0,J];refine q06 l.length (fun i s=>(s.env 0).v=.sl b (l.map symC)/\(s.env 7).v=.sl b (l.map symC)/\(s.env 8).v=.int .i64 l.length/\(s.env 9).v=.int .i64 i/\(s.env 3).v=.sl (l.take i).isEmpty (((l.take i).map symE).map idC)/\(s.env 4).v=.sl (l.take i).isEmpty (((l.take i).map symE).map nmC)/\((s.env 3).a=.ex/\(s.env 4).a=.ex\/(l.take i).isEmpty=false/\(s.env 3).a=.own 17 3/\(s.env 4).a=.own 22 9))
  (fun e s=>e=.exit 0/\(s.env 0).v=.sl b (l.map symC)/\(s.env 3).v=.sl l.isEmpty ((l.map symE).map idC)/\(s.env 4).v=.sl l.isEmpty ((l.map symE).map nmC)) (fun i hi s k h ih hk=>?_) _ _ ?_ (fun e s h=>?_)
 ·obtain ⟨e0,e7,e8,e9,e3,e4,an⟩:=h;refine q02 ?_;by_cases fa:i<l.length
  ·have ga:(i:Int)<l.length:=by omega
   have g1:(l.map symC)[i]?=some (symC l[i]):=by simp [fa]
   have hw:=q0s (i:=i);have ht:l.take (i + 1)=l.take i++[l[i]]:=(yK fa).symm;generalize l[i]=x at *
   simp only [symC] at g1;have ja:(l.take i).length=i:=by simp; omega
   generalize l.take i=t at *
   have df:q0G 8 (t.length + 1)=true:=by rw [q0d]; omega
   have oh:q0G 16 (t.length + 1)=true:=by rw [q0d]; omega
   have q1:q13 1 ((t.map symE).map idC)=true:=q1a _ _ _ fun _=>rfl
   have q2:q13 1 ((t.map symE).map nmC)=true:=q1a _ _ _ fun _=>rfl
   rcases an with ⟨a3,a4⟩ | ⟨a0,a3,a4⟩
   ·simp [q2Y,-V,-y3,-y0,J,e0,e7,e8,e9,e3,e4,a3,a4,ga,g1,hw,df,oh,q1,q2];refine ih fa _ ⟨?_,?_,?_,?_,?_,?_,?_⟩ <;> simp [ht,e0,e7,e8,idC,nmC,symE]
   ·simp [q2Y,-V,-y3,-y0,J,e0,e7,e8,e9,e3,e4,a0,a3,a4,ga,g1,hw,df,oh,q1,q2];refine ih fa _ ⟨?_,?_,?_,?_,?_,?_,?_⟩ <;> simp [ht,e0,e7,e8,idC,nmC,symE]
  ·have ga:¬ (i:Int)<l.length:=by omega
   simp [q2Y,-V,-y3,-y0,J,e8,e9,ga];rw [yD (by omega)] at e3 e4;exact hk _ _ ⟨rfl,by simp [e0],by simp [e3],by simp [e4]⟩
 ·simp
 ·obtain ⟨rfl,e0,e3,e4⟩:=h;unfold q90;by_cases h0:0<l.length
  ·have af:(0:Int)<l.length:=by omega
   simp [-V,-y3,-y0,J,e0,e3,e4,h0,af,wg]
  ·have af:¬ (0:Int)<l.length:=by omega
   simp [-V,-y3,-y0,J,e0,e3,e4,h0,af]
theorem rid_ev (b n:Int):evA 226 [.int .i64 b,.int .i64 n] (.bool (idOk b n)):=by
 refine q00 (c:=q8K) rfl rfl ?_;unfold idOk;by_cases h1:b<n <;> by_cases h2:1<=n <;> simp [q8K,-V,-y3,-y0,J,h1,h2]
theorem rsymbols_ev (l:List Sym) (hl:l.length<=8796093022206) (b:Bool):evA 211 [.sl b (l.map symC)] (.bool (q90 l)):=by
 refine q00 (c:=q4E) rfl rfl ?_;simp [q4E,-V,-y3,-y0,J];have g0:∀ j,j<l.length->∃ x,l[j]?=some x:=fun j hj=>⟨l[j],by simp [hj]⟩
 refine q06 l.length (fun i s=>(s.env 0).v=.sl b (l.map symC)/\(s.env 3).v=.int .i64 (q2T (l.map symE) i)/\(s.env 4).v=.int .i64 i/\q1P (q2T (l.map symE) i) ((l.map symE).take i |>.map (·.2)) ((l.map symE).drop i)=q1P 0 [] (l.map symE))
  (fun e s=>(e=.exit 0/\q1P 0 [] (l.map symE)=true/\(s.env 0).v=.sl b (l.map symC))\/(e=.ret/\q1P 0 [] (l.map symE)=false/\(s.env 2).v=.bool false)) (fun i hi s k h ih hk=>?_) _ _ ?_ (fun e s h=>?_)
 ·obtain ⟨e0,e3,e4,hs⟩:=h;refine q02 ?_;by_cases fa:i<l.length
  ·have ga:(i:Int)<l.length:=by omega
   have g1:(l.map symC)[i]?=some (symC l[i]):=by simp [fa]
   have hw:=q0s (i:=i);have zg:i<(l.map symE).length:=by simpa using fa
   have hp:q2T (l.map symE) (i + 1)=l[i].id:=by simp [q2T,fa,symE]
   have hn:=rname_ev l[i].name;have hid:=rid_ev (q2T (l.map symE) i) l[i].id;have te:(l.map symE)[i]=symE l[i]:=by simp
   have ht:((l.map symE).take (i + 1)).map (·.2)=((l.map symE).take i).map (·.2)++[l[i].name]:=by rw [<- yK zg,te]; simp [symE]
   rw [y9 zg,te] at hs;obtain ⟨x,hx⟩:∃ x,x=l[i]:=⟨_,rfl⟩;rw [<- hx] at g1 hp hn hid ht hs;simp only [symE,q1P] at hs;have fail:∀ s',(s'.env 2).v=.bool false->(idOk (q2T (l.map symE) i) x.id&&!hasStr x.name (((l.map symE).take i).map (·.2))&&q3V x.name)=false->k .ret s'=some (.bool (q90 l),none):=fun s' h4 hf=>hk _ _ (.inr ⟨rfl,by rw [<- hs,hf]; rfl,h4⟩)
   simp only [evA] at hn hid;simp only [symC] at g1;cases c1:idOk (q2T (l.map symE) i) x.id with
   | false =>
    rw [c1] at hid;simp [q2r,-V,-y3,-y0,J,e0,e3,e4,ga,g1,hid];exact fail _ (by simp) (by simp [c1])
   | true =>
    rw [c1] at hid;cases c2:q3V x.name with
    | false =>
     rw [c2] at hn;simp [q2r,-V,-y3,-y0,J,e0,e3,e4,ga,g1,hid,hn];exact fail _ (by simp) (by simp [c2])
    | true =>
     rw [c2] at hn;simp [q2r,-V,-y3,-y0,J,e0,e3,e4,ga,g1,hid,hn];have ll:((l.map symE).take i).map (·.2)=(l.take i).map Sym.name:=by simp [<- List.map_take,symE,Function.comp_def]
     refine q06 i (fun j s=>(s.env 0).v=.sl b (l.map symC)/\(s.env 4).v=.int .i64 i/\(s.env 5).v=.int .i64 j/\¬ x.name∈(l.take j).map Sym.name)
      (fun e s=>(e=.exit 2/\¬ x.name∈(l.take i).map Sym.name/\(s.env 0).v=.sl b (l.map symC)/\(s.env 4).v=.int .i64 i)\/(e=.ret/\x.name∈(l.take i).map Sym.name/\(s.env 2).v=.bool false)) (fun j hj s k' h tw zc=>?_) _ _ ?_ (fun e s h=>?_)
     ·obtain ⟨e0,e4,e5,hm⟩:=h;refine q02 ?_;by_cases fB:j<i
      ·have nj:(j:Int)<i:=by omega
       have g2:(l.map symC)[j]?=some (symC l[j]):=by simp [show j<l.length from by omega]
       have sx:=q0s (i:=j);have aJ:l.take (j + 1)=l.take j++[l[j]]:=(yK (by omega)).symm;simp only [symC] at g2;by_cases sf:l[j].name=x.name
       ·simp [q3i,-V,-y3,-y0,J,e0,e4,e5,nj,g1,g2,sf];refine zc _ _ (.inr ⟨rfl,?_,by simp⟩);rw [<- sf];exact yX (List.mem_take_iff_getElem.2 ⟨j,by omega,rfl⟩)
       ·simp [q3i,-V,-y3,-y0,J,e0,e4,e5,nj,g1,g2,sf,sx];refine tw fB _ ⟨?_,?_,?_,?_⟩
        ·simp [e0]
        ·simp [e4]
        ·simp
        ·rw [aJ,List.map_append,yu];rintro (h | h)
         ·exact hm h
         ·simp at h; exact sf h.symm
      ·have nj:¬ (j:Int)<i:=by omega
       have nz:j=i:=by omega
       simp [q3i,-V,-y3,-y0,J,e4,e5,nj];exact zc _ _ (.inl ⟨rfl,nz ▸ hm,by simp [e0],by simp [e4]⟩)
     ·simp [e0,e4]
     ·rcases h with ⟨rfl,h1,e0,e4⟩ | ⟨rfl,h1,e2⟩
      ·simp [-V,-y3,-y0,J,e0,e4,g1,hw];refine ih fa _ ⟨?_,?_,?_,?_⟩
       ·simp [e0]
       ·simp [hp]
       ·simp
       ·rw [hp,ht,<- hs,c1,c2,ll,qbJ h1];rfl
      ·simp [-V,-y3,-y0,J];exact fail _ e2 (by rw [ll,qbK h1]; simp)
  ·have ga:¬ (i:Int)<l.length:=by omega
   simp [q2r,-V,-y3,-y0,J,e0,e4,ga];refine hk _ _ (.inl ⟨rfl,?_,by simp [e0]⟩);rw [<- hs,ye (by simp; omega),q1P]
 ·simp [q2T]
 ·unfold q90;rcases h with ⟨rfl,h1,e0⟩ | ⟨rfl,h1,e2⟩
  ·by_cases h0:0<l.length
   ·have af:(1:Int)<=l.length:=by omega
    simp [-V,-y3,-y0,J,e0,h0,af,h1];omega
   ·have af:¬ (1:Int)<=l.length:=by omega
    simp [-V,-y3,-y0,J,e0,h0,af,h1]
  ·simp [-V,-y3,-y0,J,h1,e2]
theorem blank_ev (v:Vl) (hv:v.ok):evA 251 [.agg (valC v)] (.bool (v.same Vl.zero)):=by
 have h:=same_ev _ v Vl.zero (Nat.lt_succ_self _) hv;refine q00 (c:=q5p) rfl rfl ?_;simp only [evA,q04,Vl.zero,Vl.kind,Vl.b,Vl.i,Vl.s,Vl.id,Vl.kn,Vl.keys,Vl.xn,Vl.items,Vl.rn,Vl.rest,yr] at h ⊢;simp [q5p,-V,-y3,-y0,J,h]
theorem rblank_ev (v:Vl) (hv:v.ok):evA 189 [.agg (valC v),.agg [.int .i64 0,.bool false,.int .i64 0,.str ⟨#[]⟩,.int .i64 0,.sl true [],.sl true [],.sl true []]] (.bool (v.same Vl.zero)):=by
 have h:=rsame_ev _ v Vl.zero (Nat.lt_succ_self _) hv;simp only [evA,q04,Vl.zero,Vl.kind,Vl.b,Vl.i,Vl.s,Vl.id,Vl.kn,Vl.keys,Vl.xn,Vl.items,Vl.rn,Vl.rest,yr] at h ⊢;exact h
def q0T (rec:Bool) (m:Mem):Bool:=!(!rec&&(m.crit||m.has))&&!(m.crit&&m.has)&&(m.has||m.dflt.same Vl.zero)
def q5B (rec:Bool) (l:List Mem):Bool:=l.all (q0T rec)&&((rec||decide (0<l.length))&&(q1P 0 [] (l.map memE)&&decide (l.length<=16)))
theorem members_ev (t:Typ) (ht:t.ok) (hl:t.mems.length<=8796093022206) (hk:t.kind=5\/t.kind=6):evA 236 [.agg (typC t)] (.bool (q5B (decide (t.kind=5)) t.mems)):=by
 obtain ⟨rc,nF⟩:∃ rc,rc=decide (t.kind=5):=⟨_,rfl⟩;have hk:t.kind=5/\rc=true\/t.kind=6/\rc=false:=by
  rcases hk with h | h
  ·exact .inl ⟨h,by rw [nF,h]; rfl⟩
  ·exact .inr ⟨h,by rw [nF,h]; rfl⟩
 rw [<- nF];clear nF;refine q00 (c:=q43) rfl rfl ?_;have wg:=fun b1 b2=>ids_ev (t.mems.map memE) (by simp; omega) b1 b2
 simp only [evA] at wg;simp [q43,-V,-y3,-y0,J,typC];refine q06 t.mems.length (fun i s=>(s.env 1).v=.ptr 1 1 0/\s.mem 1 1=some (q0b t)/\(s.env 8).v=.sl t.mn (t.mems.map memC)/\(s.env 9).v=.int .i64 t.mems.length/\(s.env 10).v=.int .i64 i/\(s.env 3).v=.sl (t.mems.take i).isEmpty (((t.mems.take i).map memE).map idC)/\(s.env 4).v=.sl (t.mems.take i).isEmpty (((t.mems.take i).map memE).map nmC)/\((t.mems.take i).isEmpty=(t.mems.take i).isEmpty/\(s.env 3).a=.ex/\(s.env 4).a=.ex\/(t.mems.take i).isEmpty=false/\(s.env 3).a=.own 18 3/\(s.env 4).a=.own 23 9)/\(t.mems.drop i).all (q0T rc)=t.mems.all (q0T rc))
  (fun e s=>(e=.exit 0/\t.mems.all (q0T rc)=true/\(s.env 1).v=.ptr 1 1 0/\s.mem 1 1=some (q0b t)/\(s.env 3).v=.sl t.mems.isEmpty ((t.mems.map memE).map idC)/\(s.env 4).v=.sl t.mems.isEmpty ((t.mems.map memE).map nmC))\/(e=.ret/\t.mems.all (q0T rc)=false/\(s.env 2).v=.bool false)) (fun i hi s k h ih zc=>?_) _ _ ?_ (fun e s h=>?_)
 ·obtain ⟨e1,m1,e8,e9,e10,e3,e4,an,hs⟩:=h;refine q02 ?_;by_cases fa:i<t.mems.length
  ·have ga:(i:Int)<t.mems.length:=by omega
   have g1:(t.mems.map memC)[i]?=some (memC t.mems[i]):=by simp [fa]
   have hw:=q0s (i:=i);have mw:t.mems.take (i + 1)=t.mems.take i++[t.mems[i]]:=(yK fa).symm;have gk:=blank_ev t.mems[i].dflt (ht.2.2 _ (y6 _)).1;rw [y9 fa,List.all_cons] at hs;generalize t.mems[i]=x at *
   simp only [memC] at g1;simp only [evA,q04] at gk;have ja:(t.mems.take i).length=i:=by simp; omega
   generalize hq:t.mems.take i=q at *
   have df:q0G 8 (q.length + 1)=true:=by rw [q0d]; omega
   have oh:q0G 16 (q.length + 1)=true:=by rw [q0d]; omega
   have q1:q13 1 ((q.map memE).map idC)=true:=q1a _ _ _ fun _=>rfl
   have q2:q13 1 ((q.map memE).map nmC)=true:=q1a _ _ _ fun _=>rfl
   have fail:∀ s',(s'.env 2).v=.bool false->q0T rc x=false->k .ret s'=some (.bool (q5B rc t.mems),none):=fun s' h4 hf=>zc _ _ (.inr ⟨rfl,by rw [<- hs,hf]; rfl,h4⟩)
   have good:q0T rc x=true->(t.mems.drop (i + 1)).all (q0T rc)=t.mems.all (q0T rc):=fun h=>by rw [<- hs,h]; rfl
   generalize hB:t.mems.all (q0T rc)=B at *
   cases hg:q0T rc x with
   | false =>
    cases hz:x.dflt.same Vl.zero <;> rw [hz] at gk <;> rcases hk with ⟨h5,rfl⟩ | ⟨h5,rfl⟩ <;> cases hc:x.crit <;> cases hh:x.has <;> first | (simp [q0T,hc,hh,hz] at hg; done) | skip
    all_goals rcases an with ⟨a0,a3,a4⟩ | ⟨a0,a3,a4⟩ <;>
     simp [q2X,-V,-y3,-y0,J,e1,m1,e8,e9,e10,e3,e4,a0,a3,a4,ga,g1,hw,df,oh,q1,q2,hc,hh,h5,gk]
    all_goals exact fail _ (by simp) hg
   | true =>
    have good:=good hg;cases hz:x.dflt.same Vl.zero <;> rw [hz] at gk <;> rcases hk with ⟨h5,rfl⟩ | ⟨h5,rfl⟩ <;> cases hc:x.crit <;> cases hh:x.has <;> first | (simp [q0T,hc,hh,hz] at hg; done) | skip
    all_goals rcases an with ⟨a0,a3,a4⟩ | ⟨a0,a3,a4⟩ <;>
     simp [q2X,-V,-y3,-y0,J,e1,m1,e8,e9,e10,e3,e4,a0,a3,a4,ga,g1,hw,df,oh,q1,q2,hc,hh,h5,gk]
    all_goals refine ih fa _ ⟨?_,?_,?_,?_,?_,?_,?_,?_,good⟩
    all_goals simp [mw,e1,m1,e8,e9,idC,nmC,memE,An.strip]
  ·have ga:¬ (i:Int)<t.mems.length:=by omega
   simp [q2X,-V,-y3,-y0,J,e9,e10,ga];rw [yD (by omega)] at e3 e4;rw [ye (by omega)] at hs;exact zc _ _ (.inl ⟨rfl,hs.symm,by simp [e1],by simp [m1],by simp [e3],by simp [e4]⟩)
 ·simp
 ·unfold q5B;rcases h with ⟨rfl,h1,e1,m1,e3,e4⟩ | ⟨rfl,h1,e2⟩
  ·rw [h1];rcases hk with ⟨h5,rfl⟩ | ⟨h5,rfl⟩
   ·simp [-V,-y3,-y0,J,e1,m1,e3,e4,h5,wg]
   ·by_cases h0:0<t.mems.length
    ·have af:(0:Int)<t.mems.length:=by omega
     simp [-V,-y3,-y0,J,e1,m1,e3,e4,h5,h0,af,wg]
    ·have af:¬ (0:Int)<t.mems.length:=by omega
     simp [-V,-y3,-y0,J,e1,m1,e3,e4,h5,h0,af]
  ·simp [-V,-y3,-y0,J,h1,e2]
theorem rmembers_ev (l:List Mem) (hl:l.length<=8796093022206) (la:∀ m∈l,m.ok) (b rec:Bool):evA 212 [.sl b (l.map memC),.bool rec] (.bool (q5B rec l)):=by
  refine q00 (c:=q4C) rfl rfl ?_;simp [q4C,-V,-y3,-y0,J];refine q06 l.length (fun i s=>(s.env 0).v=.sl b (l.map memC)/\(s.env 1).v=.bool rec/\(s.env 5).v=.int .i64 (q2T (l.map memE) i)/\(s.env 6).v=.int .i64 i/\(q1P (q2T (l.map memE) i) ((l.map memE).take i |>.map (·.2)) ((l.map memE).drop i)&&(l.drop i).all (q0T rec))=(q1P 0 [] (l.map memE)&&l.all (q0T rec)))
    (fun e s=>(e=.exit 0/\(q1P 0 [] (l.map memE)&&l.all (q0T rec))=true/\(s.env 0).v=.sl b (l.map memC)/\(s.env 1).v=.bool rec)\/(e=.ret/\(q1P 0 [] (l.map memE)&&l.all (q0T rec))=false/\(s.env 4).v=.bool false)) (fun i hi s k h ih hk=>?_) _ _ ?_ (fun e s h=>?_)
  · obtain ⟨e0,e1,e5,e6,hs⟩:=h
    refine q02 ?_;by_cases fa:i<l.length
    · have ga:(i:Int)<l.length:=by omega
      have g1:(l.map memC)[i]?=some (memC l[i]):=by simp [fa]
      have hw:=q0s (i:=i);have zg:i<(l.map memE).length:=by simpa using fa
      have hp:q2T (l.map memE) (i + 1)=l[i].id:=by simp [q2T,fa,memE]
      have hn:=rname_ev l[i].name;have hid:=rid_ev (q2T (l.map memE) i) l[i].id;have gk:=rblank_ev l[i].dflt (la _ (y6 _)).1;have te:(l.map memE)[i]=memE l[i]:=by simp
      have ht:((l.map memE).take (i + 1)).map (·.2)=((l.map memE).take i).map (·.2)++[l[i].name]:=by rw [<- yK zg,te]; simp [memE]
      rw [y9 zg,te,y9 fa,List.all_cons] at hs;obtain ⟨x,hx⟩:∃ x,x=l[i]:=⟨_,rfl⟩;rw [<- hx] at g1 hp hn hid ht hs gk;simp only [q1P] at hs;have sF:((idOk (q2T (l.map memE) i) x.id&&!hasStr x.name (((l.map memE).take i).map (·.2))&&q3V x.name&&q0T rec x)&&(q1P x.id (((l.map memE).take i).map (·.2)++[x.name]) ((l.map memE).drop (i + 1))&&(l.drop (i + 1)).all (q0T rec)))=(q1P 0 [] (l.map memE)&&l.all (q0T rec)):=by
        rw [<- hs];simp only [memE,Bool.and_assoc];congr 1;congr 1;congr 1;rw [<- Bool.and_assoc,<- Bool.and_assoc,Bool.and_comm (q0T rec x)]
      clear hs;have fail:∀ s',(s'.env 4).v=.bool false->(idOk (q2T (l.map memE) i) x.id&&!hasStr x.name (((l.map memE).take i).map (·.2))&&q3V x.name&&q0T rec x)=false->k .ret s'=some (.bool (q5B rec l),none):=fun s' h4 hf=>hk _ _ (.inr ⟨rfl,by rw [<- sF,hf]; rfl,h4⟩)
      simp only [evA,q04] at hn hid gk;simp only [memC] at g1;cases c1:idOk (q2T (l.map memE) i) x.id with
      | false =>
        rw [c1] at hid;simp [q1T,-V,-y3,-y0,J,e0,e1,e5,e6,ga,g1,hid];exact fail _ (by simp) (by simp [c1])
      | true =>
        rw [c1] at hid;cases c2:q3V x.name with
        | false =>
          rw [c2] at hn;simp [q1T,-V,-y3,-y0,J,e0,e1,e5,e6,ga,g1,hid,hn];exact fail _ (by simp) (by simp [c2])
        | true =>
          rw [c2] at hn;have ll:((l.map memE).take i).map (·.2)=(l.take i).map Mem.name:=by simp [<- List.map_take,memE,Function.comp_def]
          have inner:∀ s:MSt,q0T rec x=true->(s.env 0).v=.sl b (l.map memC)->(s.env 1).v=.bool rec->(s.env 6).v=.int .i64 i->(s.env 8).v=.int .i64 0->∀ p,(s.env 7).v=.ptr 7 p 0->s.mem 7 p=some ((memC x).map (⟨·,.no⟩)) →
              ∀ k2:Ex->MSt->Option RV,(∀ s',(s'.env 4).v=.bool false->k2 .ret s'=k .ret s')->(∀ s',(s'.env 0).v=.sl b (l.map memC)->(s'.env 1).v=.bool rec->(s'.env 6).v=.int .i64 i->(s'.env 7).v=.ptr 7 p 0->s'.mem 7 p=some ((memC x).map (⟨·,.no⟩))->¬ x.name∈(l.take i).map Mem.name->k2 (.exit 2) s'=some (.bool (q5B rec l),none)) →
              evL allT q01 q2q s k2=some (.bool (q5B rec l),none):=by
            intro s hgood e0 e1 e6 e8 p e7 m7 k2 aI xO;refine q06 i (fun j s=>(s.env 0).v=.sl b (l.map memC)/\(s.env 1).v=.bool rec/\(s.env 6).v=.int .i64 i/\(s.env 7).v=.ptr 7 p 0/\s.mem 7 p=some ((memC x).map (⟨·,.no⟩))/\(s.env 8).v=.int .i64 j/\¬ x.name∈(l.take j).map Mem.name)
              (fun e s=>(e=.exit 2/\¬ x.name∈(l.take i).map Mem.name/\(s.env 0).v=.sl b (l.map memC)/\(s.env 1).v=.bool rec/\(s.env 6).v=.int .i64 i/\(s.env 7).v=.ptr 7 p 0/\s.mem 7 p=some ((memC x).map (⟨·,.no⟩)))\/(e=.ret/\x.name∈(l.take i).map Mem.name/\(s.env 4).v=.bool false)) (fun j hj s k' h tw zc=>?_) _ _ ?_ (fun e s h=>?_)
            · obtain ⟨e0,e1,e6,e7,m7,e8,hm⟩:=h
              refine q02 ?_;by_cases fB:j<i
              · have nj:(j:Int)<i:=by omega
                have g2:(l.map memC)[j]?=some (memC l[j]):=by simp [show j<l.length from by omega]
                have sx:=q0s (i:=j);have aJ:l.take (j + 1)=l.take j++[l[j]]:=(yK (by omega)).symm;simp only [memC,yh,yr] at g2 m7;by_cases sf:l[j].name=x.name
                · simp [q2q,-V,-y3,-y0,J,e0,e1,e6,e7,m7,e8,nj,g1,g2,sf]
                  refine zc _ _ (.inr ⟨rfl,?_,by simp⟩);rw [<- sf];exact yX (List.mem_take_iff_getElem.2 ⟨j,by omega,rfl⟩)
                · simp [q2q,-V,-y3,-y0,J,e0,e1,e6,e7,m7,e8,nj,g1,g2,sf,sx]
                  refine tw fB _ ⟨?_,?_,?_,?_,?_,?_,?_⟩
                  · simp [e0]
                  · simp [e1]
                  · simp [e6]
                  · simp [e7]
                  · simp [m7,memC]
                  · simp
                  · rw [aJ,List.map_append,yu]
                    rintro (h | h)
                    · exact hm h
                    · simp at h; exact sf h.symm
              · have nj:¬ (j:Int)<i:=by omega
                have nz:j=i:=by omega
                simp [q2q,-V,-y3,-y0,J,e6,e8,nj];exact zc _ _ (.inl ⟨rfl,nz ▸ hm,by simp [e0],by simp [e1],by simp [e6],by simp [e7],by simp [m7]⟩)
            · simp [e0,e1,e6,e7,e8,m7]
            · rcases h with ⟨rfl,h1,e0,e1,e6,e7,m7⟩ | ⟨rfl,h1,e4⟩
              · exact xO s e0 e1 e6 e7 m7 h1
              · rw [aI _ e4]
                exact fail _ e4 (by rw [ll,qbK h1]; simp)
          have next:∀ s',(s'.env 0).v=.sl b (l.map memC)->(s'.env 1).v=.bool rec->(s'.env 5).v=.int .i64 x.id->(s'.env 6).v=.int .i64 ((i + 1:Nat):Int)->q0T rec x=true->¬ x.name∈(l.take i).map Mem.name->evL allT q01 q1T s' k=some (.bool (q5B rec l),none):=fun s' f0 f1 f5 f6 hg jb=>ih fa _ ⟨f0,f1,by rw [hp]; exact f5,f6,by rw [hp,ht,<- sF,c1,c2,hg,ll,qbJ jb]; rfl⟩
          cases hz:x.dflt.same Vl.zero <;> rw [hz] at gk <;> cases rec <;> cases hc:x.crit <;> cases hh:x.has <;>
            simp [q1T,-V,-y3,-y0,J,e0,e1,e5,e6,ga,g1,hid,hn,hc,hh,gk] <;>
            first
            | exact fail _ (by simp) (by simp [q0T,hc,hh,hz])
            | (refine inner _ (by simp [q0T,hc,hh,hz]) ?_ ?_ ?_ ?_ (s.next + 1) ?_ ?_ _ ?_ ?_
               · simp [e0]
               · simp [e1]
               · simp [e6]
               · simp
               · simp
               · simp [memC,hc,hh]
               · intro s' _; rfl
               · intro s' f0 f1 f6 f7 fm jb
                 simp only [memC,yh,yr] at fm;simp [-V,-y3,-y0,J,f0,f1,f6,f7,fm,hw];refine next _ ?_ ?_ ?_ ?_ (by simp [q0T,hc,hh,hz]) jb <;> simp [f0,f1])
    · have ga:¬ (i:Int)<l.length:=by omega
      simp [q1T,-V,-y3,-y0,J,e0,e6,ga];refine hk _ _ (.inl ⟨rfl,?_,by simp [e0],by simp [e1]⟩);rw [<- hs,ye (by simp; omega),ye (by omega),q1P];rfl
  · simp [q2T]
  · unfold q5B
    rcases h with ⟨rfl,h1,e0,e1⟩ | ⟨rfl,h1,e2⟩
    · rw [y7] at h1
      rw [h1.1,h1.2];by_cases tA:l.length<=16
      · have dr:(l.length:Int)<=16:=by omega
        cases rec
        · by_cases h0:0<l.length
          · have af:(1:Int)<=l.length:=by omega
            simp [-V,-y3,-y0,J,e0,e1,h0,af,tA,dr]
          · have af:¬ (1:Int)<=l.length:=by omega
            simp [-V,-y3,-y0,J,e0,e1,h0,af,tA,dr]
        · simp [-V,-y3,-y0,J,e0,e1,tA,dr]
      · have dr:¬ (l.length:Int)<=16:=by omega
        simp [-V,-y3,-y0,J,e0,e1,tA,dr]
    · have:(l.all (q0T rec)&&((rec||decide (0<l.length))&&(q1P 0 [] (l.map memE)&&decide (l.length<=16))))=false:=by
        rw [Bool.and_eq_false_iff] at h1;rcases h1 with h1 | h1 <;> simp [h1]
      rw [this];simp [-V,-y3,-y0,J,e2]
mutual
theorem Vl.same_refl:∀ v:Vl,v.same v=true
 | .mk k b i s d kn ks xn xs rn rs=>by rw [Vl.same]; simp [Vl.sames_refl ks,Vl.sames_refl xs]
theorem Vl.sames_refl:∀ l:List Vl,Vl.sames l l=true
 | []=>by rw [Vl.sames]
 | v :: r=>by rw [Vl.sames]; simp [Vl.same_refl v,Vl.sames_refl r]
end
theorem Mem.same_refl (m:Mem):m.same m=true:=by simp [Mem.same,Vl.same_refl]
theorem qa1:∀ l:List Mem,q0A l l=true
 | []=>rfl
 | m :: r=>by simp [q0A,Mem.same_refl,qa1 r]
def q1S:Typ:=⟨0,⟨#[]⟩,0,0,0,true,[],true,[],0,0,false⟩
def Typ.left (t:Typ):Typ :=
 if t.kind=1 then { t with kind:=0 }
 else if t.kind=2 then { t with kind:=0,low:=0,high:=0 }
 else if t.kind=3 then { t with kind:=0,max:=0 }
 else if t.kind=4 then { t with kind:=0,name:=⟨#[]⟩,sn:=true,syms:=[],opn:=false }
 else if t.kind=5 then { t with kind:=0,name:=⟨#[]⟩,mn:=true,mems:=[] }
 else if t.kind=6 then { t with kind:=0,name:=⟨#[]⟩,mn:=true,mems:=[],opn:=false }
 else if t.kind=7 then { t with kind:=0,max:=0,elem:=0 }
 else if t.kind=8 then { t with kind:=0,max:=0,elem:=0,key:=0 }
 else { t with kind:=0,elem:=0 }
def q6R (t:Typ):Bool :=
 if t.kind=2 then decide (t.low<=t.high)
 else if t.kind=3 then decide (0<=t.max)&&decide (t.max<=200)
 else if t.kind=4 then q3V t.name&&q90 t.syms
 else if t.kind=5 then q3V t.name&&q5B true t.mems
 else if t.kind=6 then q3V t.name&&q5B false t.mems
 else if t.kind=7\/t.kind=8 then decide (0<=t.max)&&decide (t.max<=50)
 else true
def q0L (t:Typ):Bool:=decide (1<=t.kind/\t.kind<=9)&&(q6R t&&t.left.same q1S)
def Typ.fine (t:Typ):Prop:=t.ok/\t.syms.length<=8796093022206/\t.mems.length<=8796093022206
theorem ok_of {t u:Typ} (h:t.ok) (h1:u.syms=t.syms\/u.syms=[]) (h2:u.mems=t.mems\/u.mems=[]):u.ok:=by
 refine ⟨?_,?_,?_⟩
 ·rcases h1 with h1 | h1
  ·rw [h1]; exact h.1
  ·rw [h1]; simp
 ·rcases h2 with h2 | h2
  ·rw [h2]; exact h.2.1
  ·rw [h2]; simp
 ·rcases h2 with h2 | h2
  ·rw [h2]; exact h.2.2
  ·rw [h2]; simp
theorem left_ok {t:Typ} (h:t.ok):t.left.ok:=by
 unfold Typ.left;by_cases h1:t.kind=1
 ·rw [if_pos h1]; exact ok_of h (.inl rfl) (.inl rfl)
 by_cases h2:t.kind=2
 ·rw [if_neg h1,if_pos h2]; exact ok_of h (.inl rfl) (.inl rfl)
 by_cases h3:t.kind=3
 ·rw [if_neg h1,if_neg h2,if_pos h3]; exact ok_of h (.inl rfl) (.inl rfl)
 by_cases h4:t.kind=4
 ·rw [if_neg h1,if_neg h2,if_neg h3,if_pos h4]; exact ok_of h (.inr rfl) (.inl rfl)
 by_cases h5:t.kind=5
 ·rw [if_neg h1,if_neg h2,if_neg h3,if_neg h4,if_pos h5]; exact ok_of h (.inl rfl) (.inr rfl)
 by_cases h6:t.kind=6
 ·rw [if_neg h1,if_neg h2,if_neg h3,if_neg h4,if_neg h5,if_pos h6]; exact ok_of h (.inl rfl) (.inr rfl)
 rw [if_neg h1,if_neg h2,if_neg h3,if_neg h4,if_neg h5,if_neg h6];by_cases h7:t.kind=7
 ·rw [if_pos h7]; exact ok_of h (.inl rfl) (.inl rfl)
 by_cases h8:t.kind=8
 ·rw [if_neg h7,if_pos h8]; exact ok_of h (.inl rfl) (.inl rfl)
 rw [if_neg h7,if_neg h8]; exact ok_of h (.inl rfl) (.inl rfl)
theorem kinds (k:Int):k=1\/k=2\/k=3\/k=4\/k=5\/k=6\/k=7\/k=8\/k=9\/¬ (1<=k/\k<=9):=by omega
def intC (n:Int):List AV:=[.int .i64 n]
def Typ.usesL (t:Typ):List Int:=(t.mems.map Mem.ty++(if t.kind=8 then [t.key] else []))++(if 7<=t.kind then [t.elem] else [])
section
variable (t:Typ) (hl:t.mems.length<=8796093022206)
include t hl
theorem uses_lp (r:RV) (k:Ex->MSt->Option RV)
  (hk:∀ s':MSt,(s'.env 1).v=.ptr 1 1 0->s'.mem 1 1=some (q0b t)->(s'.env 3).v=.sl t.mems.isEmpty ((t.mems.map Mem.ty).map intC)->(t.mems.isEmpty=t.mems.isEmpty/\(s'.env 3).a=.ex\/t.mems.isEmpty=false/\(s'.env 3).a=.own 17 3)->k (.exit 0) s'=some r)
  (s:MSt) (h1:(s.env 1).v=.ptr 1 1 0) (h2:s.mem 1 1=some (q0b t)) (h3:(s.env 7).v=.sl t.mn (t.mems.map memC)) (h4:(s.env 8).v=.int .i64 t.mems.length) (h5:(s.env 9).v=.int .i64 0) (h6:(s.env 3).v=.sl true []) (h7:(s.env 3).a=.ex):evL allT q01 q35 s k=some r:=by
 refine q06 t.mems.length (fun i s=>(s.env 1).v=.ptr 1 1 0/\s.mem 1 1=some (q0b t)/\(s.env 7).v=.sl t.mn (t.mems.map memC)/\(s.env 8).v=.int .i64 t.mems.length/\(s.env 9).v=.int .i64 i/\(s.env 3).v=.sl (t.mems.take i).isEmpty (((t.mems.take i).map Mem.ty).map intC)/\((t.mems.take i).isEmpty=(t.mems.take i).isEmpty/\(s.env 3).a=.ex\/(t.mems.take i).isEmpty=false/\(s.env 3).a=.own 17 3))
  (fun e s=>e=.exit 0/\(s.env 1).v=.ptr 1 1 0/\s.mem 1 1=some (q0b t)/\(s.env 3).v=.sl t.mems.isEmpty ((t.mems.map Mem.ty).map intC)/\(t.mems.isEmpty=t.mems.isEmpty/\(s.env 3).a=.ex\/t.mems.isEmpty=false/\(s.env 3).a=.own 17 3)) (fun i hi s k h ih hk=>?_) _ _ ?_ (fun e s h=>?_)
 ·obtain ⟨e1,m1,e7,e8,e9,e3,an⟩:=h;refine q02 ?_;by_cases fa:i<t.mems.length
  ·have ga:(i:Int)<t.mems.length:=by omega
   have g1:(t.mems.map memC)[i]?=some (memC t.mems[i]):=by simp [fa]
   have hw:=q0s (i:=i);have ht:t.mems.take (i + 1)=t.mems.take i++[t.mems[i]]:=(yK fa).symm;generalize t.mems[i]=x at *
   simp only [memC] at g1;have ja:(t.mems.take i).length=i:=by simp; omega
   generalize t.mems.take i=q at *
   have df:q0G 8 (q.length + 1)=true:=by rw [q0d]; omega
   have q1:q13 1 ((q.map Mem.ty).map intC)=true:=q1a _ _ _ fun _=>rfl
   rcases an with ⟨a0,a3⟩ | ⟨a0,a3⟩
   ·simp [q35,-V,-y3,-y0,J,e1,m1,e7,e8,e9,e3,a0,a3,ga,g1,hw,df,q1];refine ih fa _ ⟨?_,?_,?_,?_,?_,?_,?_⟩ <;> simp [ht,e1,m1,e7,e8,intC,An.strip]
   ·simp [q35,-V,-y3,-y0,J,e1,m1,e7,e8,e9,e3,a0,a3,ga,g1,hw,df,q1];refine ih fa _ ⟨?_,?_,?_,?_,?_,?_,?_⟩ <;> simp [ht,e1,m1,e7,e8,intC,An.strip]
  ·have ga:¬ (i:Int)<t.mems.length:=by omega
   simp [q35,-V,-y3,-y0,J,e8,e9,ga];rw [yD (by omega)] at e3 an;exact hk _ _ ⟨rfl,by simp [e1],by simp [m1],by simp [e3],by simpa using an⟩
 ·simp [h1,h2,h3,h4,h5,h6,h7]
 ·obtain ⟨rfl,e1,m1,e3,an⟩:=h;exact hk s e1 m1 e3 an
theorem uses_ev (b:Bool) (hb:b=t.usesL.isEmpty):evA 222 [.agg (typC t)] (.sl b (t.usesL.map intC)):=by
 subst hb;refine q00 (c:=q6f) rfl rfl ?_;simp [q6f,-V,-y3,-y0,J,typC];refine uses_lp t hl _ _ (fun s e1 m1 e3 an=>?_) _ ?_ ?_ ?_ ?_ ?_ ?_ ?_
 ·have q1:q13 1 ((t.mems.map Mem.ty).map intC)=true:=q1a _ _ _ fun _=>rfl
  have df:q0G 8 (t.mems.length + 1)=true:=by rw [q0d]; omega
  have oh:q0G 8 (t.mems.length + 1 + 1)=true:=by rw [q0d]; omega
  unfold Typ.usesL;by_cases h8:t.kind=8
  ·rcases an with ⟨a0,a3⟩ | ⟨a0,a3⟩
   ·simp [-V,-y3,-y0,J,e1,m1,e3,a0,a3,h8,q1,df,oh,intC]
   ·simp [-V,-y3,-y0,J,e1,m1,e3,a0,a3,h8,q1,df,oh,intC]
  ·by_cases h7:7<=t.kind
   ·rcases an with ⟨a0,a3⟩ | ⟨a0,a3⟩
    ·simp [-V,-y3,-y0,J,e1,m1,e3,a0,a3,h8,h7,q1,df,oh,intC]
    ·simp [-V,-y3,-y0,J,e1,m1,e3,a0,a3,h8,h7,q1,df,oh,intC]
   ·simp [-V,-y3,-y0,J,e1,m1,e3,h8,h7]
 all_goals simp
theorem ruses_lp (r:RV) (k:Ex->MSt->Option RV)
  (hk:∀ s':MSt,(s'.env 1).v=.ptr 1 1 0->s'.mem 1 1=some (q0b t)->(s'.env 3).v=.sl t.mems.isEmpty ((t.mems.map Mem.ty).map intC)->(t.mems.isEmpty=t.mems.isEmpty/\(s'.env 3).a=.ex\/t.mems.isEmpty=false/\(s'.env 3).a=.own 20 3)->k (.exit 0) s'=some r)
  (s:MSt) (h1:(s.env 1).v=.ptr 1 1 0) (h2:s.mem 1 1=some (q0b t)) (h5:(s.env 4).v=.int .i64 0) (h6:(s.env 3).v=.sl true []) (h7:(s.env 3).a=.ex):evL allT q01 q3u s k=some r:=by
 refine q06 t.mems.length (fun i s=>(s.env 1).v=.ptr 1 1 0/\s.mem 1 1=some (q0b t)/\(s.env 4).v=.int .i64 i/\(s.env 3).v=.sl (t.mems.take i).isEmpty (((t.mems.take i).map Mem.ty).map intC)/\((t.mems.take i).isEmpty=(t.mems.take i).isEmpty/\(s.env 3).a=.ex\/(t.mems.take i).isEmpty=false/\(s.env 3).a=.own 20 3))
  (fun e s=>e=.exit 0/\(s.env 1).v=.ptr 1 1 0/\s.mem 1 1=some (q0b t)/\(s.env 3).v=.sl t.mems.isEmpty ((t.mems.map Mem.ty).map intC)/\(t.mems.isEmpty=t.mems.isEmpty/\(s.env 3).a=.ex\/t.mems.isEmpty=false/\(s.env 3).a=.own 20 3)) (fun i hi s k h ih hk=>?_) _ _ ?_ (fun e s h=>?_)
 ·obtain ⟨e1,m1,e9,e3,an⟩:=h;refine q02 ?_;by_cases fa:i<t.mems.length
  ·have ga:(i:Int)<t.mems.length:=by omega
   have g1:(t.mems.map memC)[i]?=some (memC t.mems[i]):=by simp [fa]
   have hw:=q0s (i:=i);have ht:t.mems.take (i + 1)=t.mems.take i++[t.mems[i]]:=(yK fa).symm;generalize t.mems[i]=x at *
   simp only [memC] at g1;have ja:(t.mems.take i).length=i:=by simp; omega
   generalize t.mems.take i=q at *
   have df:q0G 8 (q.length + 1)=true:=by rw [q0d]; omega
   have q1:q13 1 ((q.map Mem.ty).map intC)=true:=q1a _ _ _ fun _=>rfl
   rcases an with ⟨a0,a3⟩ | ⟨a0,a3⟩
   ·simp [q3u,-V,-y3,-y0,J,e1,m1,e9,e3,a0,a3,ga,g1,hw,df,q1];refine ih fa _ ⟨?_,?_,?_,?_,?_⟩ <;> simp [ht,e1,m1,intC,An.strip]
   ·simp [q3u,-V,-y3,-y0,J,e1,m1,e9,e3,a0,a3,ga,g1,hw,df,q1];refine ih fa _ ⟨?_,?_,?_,?_,?_⟩ <;> simp [ht,e1,m1,intC,An.strip]
  ·have ga:¬ (i:Int)<t.mems.length:=by omega
   simp [q3u,-V,-y3,-y0,J,e1,m1,e9,ga];rw [yD (by omega)] at e3 an;exact hk _ _ ⟨rfl,by simp [e1],by simp [m1],by simp [e3],by simpa using an⟩
 ·simp [h1,h2,h5,h6,h7]
 ·obtain ⟨rfl,e1,m1,e3,an⟩:=h;exact hk s e1 m1 e3 an
theorem ruses_ev (h9:t.kind<=9) (b:Bool) (hb:b=t.usesL.isEmpty):evA 181 [.agg (typC t)] (.sl b (t.usesL.map intC)):=by
 subst hb;refine q00 (c:=q6X) rfl rfl ?_;simp [q6X,-V,-y3,-y0,J,typC];refine ruses_lp t hl _ _ (fun s e1 m1 e3 an=>?_) _ ?_ ?_ ?_ ?_ ?_
 ·have q1:q13 1 ((t.mems.map Mem.ty).map intC)=true:=q1a _ _ _ fun _=>rfl
  have df:q0G 8 (t.mems.length + 1)=true:=by rw [q0d]; omega
  have oh:q0G 8 (t.mems.length + 1 + 1)=true:=by rw [q0d]; omega
  unfold Typ.usesL;have hc:t.kind=8\/t.kind=7\/t.kind=9\/(¬ t.kind=8/\¬ t.kind=7/\¬ t.kind=9/\¬ 7<=t.kind):=by omega
  rcases hc with h | h | h | ⟨h8,h7,h9,h⟩
  ·rcases an with ⟨a0,a3⟩ | ⟨a0,a3⟩ <;> simp [-V,-y3,-y0,J,e1,m1,e3,a0,a3,h,q1,df,oh,intC]
  ·rcases an with ⟨a0,a3⟩ | ⟨a0,a3⟩ <;> simp [-V,-y3,-y0,J,e1,m1,e3,a0,a3,h,q1,df,oh,intC]
  ·rcases an with ⟨a0,a3⟩ | ⟨a0,a3⟩ <;> simp [-V,-y3,-y0,J,e1,m1,e3,a0,a3,h,q1,df,oh,intC]
  ·simp [-V,-y3,-y0,J,e1,m1,e3,h8,h7,h9,h]
 all_goals simp
end
def q3M (v:Vl):Bool :=
 (decide (v.kind=1)||!v.b)&&((decide (v.kind=2)||decide (v.i=0))&&((decide (v.kind=3)||decide (v.s=⟨#[]⟩))&&((decide (v.kind=4)||decide (v.kind=6)||decide (v.id=0))&&((decide (v.kind=8)||v.keys.isEmpty)&&((decide (5<=v.kind)||v.items.isEmpty)&&(decide (v.kind=5)||decide (v.kind=6)||v.rest.isEmpty))))))
def Vl.bare (v:Vl):Vl:=.mk v.kind (if v.kind=1 then v.b else false) (if v.kind=2 then v.i else 0) (if v.kind=3 then v.s else ⟨#[]⟩) (if v.kind=4\/v.kind=6 then v.id else 0)
 (if v.kind=8 then v.kn else true) (if v.kind=8 then v.keys else []) (if 5<=v.kind then v.xn else true) (if 5<=v.kind then v.items else []) (if v.kind=5\/v.kind=6 then v.rn else true) (if v.kind=5\/v.kind=6 then v.rest else [])
section
variable (v:Vl)
include v
theorem bare_ev1 (h:v.kind=1):evA 256 [.agg (valC v)] (.agg (valC v.bare)):=by
 refine q00 (c:=q0x) rfl rfl ?_;obtain ⟨k,b,i,s,d,kn,ks,xn,xs,rn,rs⟩:=v;have h:k=1:=h;subst h;rw [q04,q04];simp [q0x,-V,-y3,-y0,J,Vl.bare,Vl.kind,Vl.b,Vl.i,Vl.s,Vl.id,Vl.kn,Vl.keys,Vl.xn,Vl.items,Vl.rn,Vl.rest]
theorem bare_ev2 (h:v.kind=2):evA 256 [.agg (valC v)] (.agg (valC v.bare)):=by
 refine q00 (c:=q0x) rfl rfl ?_;obtain ⟨k,b,i,s,d,kn,ks,xn,xs,rn,rs⟩:=v;have h:k=2:=h;subst h;rw [q04,q04];simp [q0x,-V,-y3,-y0,J,Vl.bare,Vl.kind,Vl.b,Vl.i,Vl.s,Vl.id,Vl.kn,Vl.keys,Vl.xn,Vl.items,Vl.rn,Vl.rest]
theorem bare_ev3 (h:v.kind=3):evA 256 [.agg (valC v)] (.agg (valC v.bare)):=by
 refine q00 (c:=q0x) rfl rfl ?_;obtain ⟨k,b,i,s,d,kn,ks,xn,xs,rn,rs⟩:=v;have h:k=3:=h;subst h;rw [q04,q04];simp [q0x,-V,-y3,-y0,J,Vl.bare,Vl.kind,Vl.b,Vl.i,Vl.s,Vl.id,Vl.kn,Vl.keys,Vl.xn,Vl.items,Vl.rn,Vl.rest]
theorem bare_ev4 (h:v.kind=4):evA 256 [.agg (valC v)] (.agg (valC v.bare)):=by
 refine q00 (c:=q0x) rfl rfl ?_;obtain ⟨k,b,i,s,d,kn,ks,xn,xs,rn,rs⟩:=v;have h:k=4:=h;subst h;rw [q04,q04];simp [q0x,-V,-y3,-y0,J,Vl.bare,Vl.kind,Vl.b,Vl.i,Vl.s,Vl.id,Vl.kn,Vl.keys,Vl.xn,Vl.items,Vl.rn,Vl.rest]
theorem bare_ev5 (h:v.kind=5):evA 256 [.agg (valC v)] (.agg (valC v.bare)):=by
 refine q00 (c:=q0x) rfl rfl ?_;obtain ⟨k,b,i,s,d,kn,ks,xn,xs,rn,rs⟩:=v;have h:k=5:=h;subst h;rw [q04,q04];simp [q0x,-V,-y3,-y0,J,Vl.bare,Vl.kind,Vl.b,Vl.i,Vl.s,Vl.id,Vl.kn,Vl.keys,Vl.xn,Vl.items,Vl.rn,Vl.rest]
theorem bare_ev6 (h:v.kind=6):evA 256 [.agg (valC v)] (.agg (valC v.bare)):=by
 refine q00 (c:=q0x) rfl rfl ?_;obtain ⟨k,b,i,s,d,kn,ks,xn,xs,rn,rs⟩:=v;have h:k=6:=h;subst h;rw [q04,q04];simp [q0x,-V,-y3,-y0,J,Vl.bare,Vl.kind,Vl.b,Vl.i,Vl.s,Vl.id,Vl.kn,Vl.keys,Vl.xn,Vl.items,Vl.rn,Vl.rest]
theorem bare_ev7 (h:v.kind=7):evA 256 [.agg (valC v)] (.agg (valC v.bare)):=by
 refine q00 (c:=q0x) rfl rfl ?_;obtain ⟨k,b,i,s,d,kn,ks,xn,xs,rn,rs⟩:=v;have h:k=7:=h;subst h;rw [q04,q04];simp [q0x,-V,-y3,-y0,J,Vl.bare,Vl.kind,Vl.b,Vl.i,Vl.s,Vl.id,Vl.kn,Vl.keys,Vl.xn,Vl.items,Vl.rn,Vl.rest]
theorem bare_ev8 (h:v.kind=8):evA 256 [.agg (valC v)] (.agg (valC v.bare)):=by
 refine q00 (c:=q0x) rfl rfl ?_;obtain ⟨k,b,i,s,d,kn,ks,xn,xs,rn,rs⟩:=v;have h:k=8:=h;subst h;rw [q04,q04];simp [q0x,-V,-y3,-y0,J,Vl.bare,Vl.kind,Vl.b,Vl.i,Vl.s,Vl.id,Vl.kn,Vl.keys,Vl.xn,Vl.items,Vl.rn,Vl.rest]
theorem bare_ev9 (h:v.kind=9):evA 256 [.agg (valC v)] (.agg (valC v.bare)):=by
 refine q00 (c:=q0x) rfl rfl ?_;obtain ⟨k,b,i,s,d,kn,ks,xn,xs,rn,rs⟩:=v;have h:k=9:=h;subst h;rw [q04,q04];simp [q0x,-V,-y3,-y0,J,Vl.bare,Vl.kind,Vl.b,Vl.i,Vl.s,Vl.id,Vl.kn,Vl.keys,Vl.xn,Vl.items,Vl.rn,Vl.rest]
theorem bare_ev (h:1<=v.kind/\v.kind<=9):evA 256 [.agg (valC v)] (.agg (valC v.bare)):=by
 rcases kinds v.kind with e | e | e | e | e | e | e | e | e | e
 ·exact bare_ev1 v e
 ·exact bare_ev2 v e
 ·exact bare_ev3 v e
 ·exact bare_ev4 v e
 ·exact bare_ev5 v e
 ·exact bare_ev6 v e
 ·exact bare_ev7 v e
 ·exact bare_ev8 v e
 ·exact bare_ev9 v e
 ·exact absurd h e
end
theorem proper_ev1 (v w:Vl) (hb:evA 256 [.agg (valC v)] (.agg (valC w))):evA 238 [.agg (valC v)] (.bool ((v.b == w.b)&&(decide (v.i=w.i)&&(decide (v.s=w.s)&&(decide (v.id=w.id)&&(decide (v.keys.length=w.keys.length)&&(decide (v.items.length=w.items.length)&&decide (v.rest.length=w.rest.length)))))))):=by
 refine q00 (c:=q1g) rfl rfl ?_;rw [q04,q04] at hb;rw [q04];simp only [evA] at hb;by_cases h1:v.b=w.b
 ·by_cases h2:v.i=w.i
  ·by_cases h3:v.s=w.s
   ·by_cases h4:v.id=w.id
    ·by_cases h5:v.keys.length=w.keys.length
     ·by_cases h6:v.items.length=w.items.length
      ·by_cases h7:v.rest.length=w.rest.length
       ·simp [q1g,-V,-y3,-y0,J,hb,h1.symm,h2.symm,h3.symm,h4.symm,h5,h6,h7]
       ·have xM:¬ (v.rest.length:Int)=w.rest.length:=by omega
        simp [q1g,-V,-y3,-y0,J,hb,h1.symm,h2.symm,h3.symm,h4.symm,h5,h6,h7,xM]
      ·have uM:¬ (v.items.length:Int)=w.items.length:=by omega
       simp [q1g,-V,-y3,-y0,J,hb,h1.symm,h2.symm,h3.symm,h4.symm,h5,h6,uM]
     ·have tM:¬ (v.keys.length:Int)=w.keys.length:=by omega
      simp [q1g,-V,-y3,-y0,J,hb,h1.symm,h2.symm,h3.symm,h4.symm,h5,tM]
    ·simp [q1g,-V,-y3,-y0,J,hb,h1.symm,h2.symm,h3.symm,h4]
   ·simp [q1g,-V,-y3,-y0,J,hb,h1.symm,h2.symm,h3]
  ·simp [q1g,-V,-y3,-y0,J,hb,h1.symm,h2]
 ·simp [q1g,-V,-y3,-y0,J,hb,h1]
theorem zero_bare {α β:Type} (k:Int) (h:1<=k/\k<=9) (b:Bool) (i:Int) (s:ByteArray) (d:Int) (ks xs:List α) (rs:List β) :
  ((decide (k=1)||!b)&&((decide (k=2)||decide (i=0))&&((decide (k=3)||decide (s=⟨#[]⟩))&&((decide (k=4)||decide (k=6)||decide (d=0))&&((decide (k=8)||ks.isEmpty)&&((decide (5<=k)||xs.isEmpty)&&(decide (k=5)||decide (k=6)||rs.isEmpty))))))) =
  ((b == (if k=1 then b else false))&&(decide (i=(if k=2 then i else 0))&&(decide (s=(if k=3 then s else ⟨#[]⟩))&&(decide (d=(if k=4\/k=6 then d else 0))&&(decide (ks.length=(if k=8 then ks else []).length)&&(decide (xs.length=(if 5<=k then xs else []).length)&&decide (rs.length=(if k=5\/k=6 then rs else []).length))))))):=by
 rcases kinds k with e | e | e | e | e | e | e | e | e | e
 all_goals first | exact absurd h e | skip
 all_goals cases b <;> cases ks <;> cases xs <;> cases rs <;> simp [e]
theorem proper_ev (v:Vl) (h:1<=v.kind/\v.kind<=9):evA 238 [.agg (valC v)] (.bool (q3M v)):=by
 have r:=proper_ev1 v v.bare (bare_ev v h);have e:=zero_bare v.kind h v.b v.i v.s v.id v.keys v.items v.rest;unfold q3M;rw [e];exact r
theorem rzero_ev1 (v:Vl) (h:v.kind=1):evA 182 [.agg (valC v)] (.bool (q3M v)):=by
 refine q00 (c:=q03) rfl rfl ?_;rw [q04];unfold q3M;by_cases hi:v.i=0
 ·by_cases hs:v.s=⟨#[]⟩
  ·by_cases hd:v.id=0
   ·by_cases hk:v.keys=[]
    ·by_cases hx:v.items=[]
     ·by_cases hr:v.rest=[]
      ·simp [q03,-V,-y3,-y0,J,h,hi,hs,hd,hk,hx,hr]
      ·simp [q03,-V,-y3,-y0,J,h,hi,hs,hd,hk,hx,hr]
     ·simp [q03,-V,-y3,-y0,J,h,hi,hs,hd,hk,hx]
    ·simp [q03,-V,-y3,-y0,J,h,hi,hs,hd,hk]
   ·simp [q03,-V,-y3,-y0,J,h,hi,hs,hd]
  ·simp [q03,-V,-y3,-y0,J,h,hi,hs]
 ·simp [q03,-V,-y3,-y0,J,h,hi]
theorem rzero_ev2 (v:Vl) (h:v.kind=2):evA 182 [.agg (valC v)] (.bool (q3M v)):=by
 refine q00 (c:=q03) rfl rfl ?_;rw [q04];unfold q3M;by_cases hb:v.b=false
 ·by_cases hs:v.s=⟨#[]⟩
  ·by_cases hd:v.id=0
   ·by_cases hk:v.keys=[]
    ·by_cases hx:v.items=[]
     ·by_cases hr:v.rest=[]
      ·simp [q03,-V,-y3,-y0,J,h,hb,hs,hd,hk,hx,hr]
      ·simp [q03,-V,-y3,-y0,J,h,hb,hs,hd,hk,hx,hr]
     ·simp [q03,-V,-y3,-y0,J,h,hb,hs,hd,hk,hx]
    ·simp [q03,-V,-y3,-y0,J,h,hb,hs,hd,hk]
   ·simp [q03,-V,-y3,-y0,J,h,hb,hs,hd]
  ·simp [q03,-V,-y3,-y0,J,h,hb,hs]
 ·simp [q03,-V,-y3,-y0,J,h,hb]
theorem rzero_ev3 (v:Vl) (h:v.kind=3):evA 182 [.agg (valC v)] (.bool (q3M v)):=by
 refine q00 (c:=q03) rfl rfl ?_;rw [q04];unfold q3M;by_cases hb:v.b=false
 ·by_cases hi:v.i=0
  ·by_cases hd:v.id=0
   ·by_cases hk:v.keys=[]
    ·by_cases hx:v.items=[]
     ·by_cases hr:v.rest=[]
      ·simp [q03,-V,-y3,-y0,J,h,hb,hi,hd,hk,hx,hr]
      ·simp [q03,-V,-y3,-y0,J,h,hb,hi,hd,hk,hx,hr]
     ·simp [q03,-V,-y3,-y0,J,h,hb,hi,hd,hk,hx]
    ·simp [q03,-V,-y3,-y0,J,h,hb,hi,hd,hk]
   ·simp [q03,-V,-y3,-y0,J,h,hb,hi,hd]
  ·simp [q03,-V,-y3,-y0,J,h,hb,hi]
 ·simp [q03,-V,-y3,-y0,J,h,hb]
theorem rzero_ev4 (v:Vl) (h:v.kind=4):evA 182 [.agg (valC v)] (.bool (q3M v)):=by
 refine q00 (c:=q03) rfl rfl ?_;rw [q04];unfold q3M;by_cases hb:v.b=false
 ·by_cases hi:v.i=0
  ·by_cases hs:v.s=⟨#[]⟩
   ·by_cases hk:v.keys=[]
    ·by_cases hx:v.items=[]
     ·by_cases hr:v.rest=[]
      ·simp [q03,-V,-y3,-y0,J,h,hb,hi,hs,hk,hx,hr]
      ·simp [q03,-V,-y3,-y0,J,h,hb,hi,hs,hk,hx,hr]
     ·simp [q03,-V,-y3,-y0,J,h,hb,hi,hs,hk,hx]
    ·simp [q03,-V,-y3,-y0,J,h,hb,hi,hs,hk]
   ·simp [q03,-V,-y3,-y0,J,h,hb,hi,hs]
  ·simp [q03,-V,-y3,-y0,J,h,hb,hi]
 ·simp [q03,-V,-y3,-y0,J,h,hb]
theorem rzero_ev5 (v:Vl) (h:v.kind=5):evA 182 [.agg (valC v)] (.bool (q3M v)):=by
 refine q00 (c:=q03) rfl rfl ?_;rw [q04];unfold q3M;by_cases hb:v.b=false
 ·by_cases hi:v.i=0
  ·by_cases hs:v.s=⟨#[]⟩
   ·by_cases hd:v.id=0
    ·by_cases hk:v.keys=[]
     ·simp [q03,-V,-y3,-y0,J,h,hb,hi,hs,hd,hk]
     ·simp [q03,-V,-y3,-y0,J,h,hb,hi,hs,hd,hk]
    ·simp [q03,-V,-y3,-y0,J,h,hb,hi,hs,hd]
   ·simp [q03,-V,-y3,-y0,J,h,hb,hi,hs]
  ·simp [q03,-V,-y3,-y0,J,h,hb,hi]
 ·simp [q03,-V,-y3,-y0,J,h,hb]
theorem rzero_ev6 (v:Vl) (h:v.kind=6):evA 182 [.agg (valC v)] (.bool (q3M v)):=by
 refine q00 (c:=q03) rfl rfl ?_;rw [q04];unfold q3M;by_cases hb:v.b=false
 ·by_cases hi:v.i=0
  ·by_cases hs:v.s=⟨#[]⟩
   ·by_cases hk:v.keys=[]
    ·simp [q03,-V,-y3,-y0,J,h,hb,hi,hs,hk]
    ·simp [q03,-V,-y3,-y0,J,h,hb,hi,hs,hk]
   ·simp [q03,-V,-y3,-y0,J,h,hb,hi,hs]
  ·simp [q03,-V,-y3,-y0,J,h,hb,hi]
 ·simp [q03,-V,-y3,-y0,J,h,hb]
theorem rzero_ev7 (v:Vl) (h:v.kind=7):evA 182 [.agg (valC v)] (.bool (q3M v)):=by
 refine q00 (c:=q03) rfl rfl ?_;rw [q04];unfold q3M;by_cases hb:v.b=false
 ·by_cases hi:v.i=0
  ·by_cases hs:v.s=⟨#[]⟩
   ·by_cases hd:v.id=0
    ·by_cases hk:v.keys=[]
     ·by_cases hr:v.rest=[]
      ·simp [q03,-V,-y3,-y0,J,h,hb,hi,hs,hd,hk,hr]
      ·simp [q03,-V,-y3,-y0,J,h,hb,hi,hs,hd,hk,hr]
     ·simp [q03,-V,-y3,-y0,J,h,hb,hi,hs,hd,hk]
    ·simp [q03,-V,-y3,-y0,J,h,hb,hi,hs,hd]
   ·simp [q03,-V,-y3,-y0,J,h,hb,hi,hs]
  ·simp [q03,-V,-y3,-y0,J,h,hb,hi]
 ·simp [q03,-V,-y3,-y0,J,h,hb]
theorem rzero_ev8 (v:Vl) (h:v.kind=8):evA 182 [.agg (valC v)] (.bool (q3M v)):=by
 refine q00 (c:=q03) rfl rfl ?_;rw [q04];unfold q3M;by_cases hb:v.b=false
 ·by_cases hi:v.i=0
  ·by_cases hs:v.s=⟨#[]⟩
   ·by_cases hd:v.id=0
    ·by_cases hr:v.rest=[]
     ·simp [q03,-V,-y3,-y0,J,h,hb,hi,hs,hd,hr]
     ·simp [q03,-V,-y3,-y0,J,h,hb,hi,hs,hd,hr]
    ·simp [q03,-V,-y3,-y0,J,h,hb,hi,hs,hd]
   ·simp [q03,-V,-y3,-y0,J,h,hb,hi,hs]
  ·simp [q03,-V,-y3,-y0,J,h,hb,hi]
 ·simp [q03,-V,-y3,-y0,J,h,hb]
theorem rzero_ev9 (v:Vl) (h:v.kind=9):evA 182 [.agg (valC v)] (.bool (q3M v)):=by
 refine q00 (c:=q03) rfl rfl ?_;rw [q04];unfold q3M;by_cases hb:v.b=false
 ·by_cases hi:v.i=0
  ·by_cases hs:v.s=⟨#[]⟩
   ·by_cases hd:v.id=0
    ·by_cases hk:v.keys=[]
     ·by_cases hr:v.rest=[]
      ·simp [q03,-V,-y3,-y0,J,h,hb,hi,hs,hd,hk,hr]
      ·simp [q03,-V,-y3,-y0,J,h,hb,hi,hs,hd,hk,hr]
     ·simp [q03,-V,-y3,-y0,J,h,hb,hi,hs,hd,hk]
    ·simp [q03,-V,-y3,-y0,J,h,hb,hi,hs,hd]
   ·simp [q03,-V,-y3,-y0,J,h,hb,hi,hs]
  ·simp [q03,-V,-y3,-y0,J,h,hb,hi]
 ·simp [q03,-V,-y3,-y0,J,h,hb]
def q96:C:=oR [oB 101 .lss 100 99] (.seq (oD 101 .skip (.exit 10)) (.seq (.block 11 (oR [oI 102 1 98 100,oL 103 102,oM 20 103] (.reg [oM 104 7,oF 105 1 16,oL 106 105,oM 107 20,oS 108 (.build zzj [(0,(1,(.t 106))),(1,(1,(.t 107)))]),oN (.mset (.agg [.none,(.some .i64)]) (.t 104) (.t 108) (.c (.bool true)))]))) (.reg [oC 109 .add 100 1,oM 100 109])))
def q97:C:=oR [oS 80 (.nxt (.t 79)),oX 81 80 0] (.seq (oD 81 .skip (.exit 8)) (.block 9 (oR [oS 82 (.ent (.t 79)),oX 83 82 0,oY 18 zzj,oV 2 18 83] (oR [oF 84 0 18,oL 85 84,oF 86 1 16,oL 87 86,oB 88 .eql 85 87,oM 89 88,oMg 90 17 89 true,oFg 91 1 18 89 true,oP 92 91 89 true,oCg 93 106 90 92 89 true,oUg 94 93 89 true,oPa 95 89 94] (oD 95 (.reg [oM 96 8,oA 97 2 18,oN (.mset (.agg [.none,(.some .i64)]) (.t 96) (.t 97) (.c (.bool true)))]) .skip)))))
def q98:C:=oR [oB 70 .lss 69 68] (.seq (oD 70 .skip (.exit 6)) (.seq (.block 7 (oR [oI 71 10 67 69,oA 72 10 71,oY 16 zze,oV 10 16 72] (.seq (oR [oF 73 1 16,oL 74 73,oS 75 (.bin .eql false (.t 74) (.c (.str (ByteArray.mk #[]))))] (oD 75 (.exit 7) .skip)) (oR [oA 76 10 16,oC1 77 105 76,oM 17 77] (.seq (oR [oM 78 7,oS 79 (.rng (.t 78))] (.block 8 (.loop q97))) (oR [oM 98 17,oH 99 98,oJ 100 0] (.block 10 (.loop q96)))))))) (.reg [oC 110 .add 69 1,oM 69 110])))
def q99:C:=oR [oB 50 .lss 49 48] (.seq (oD 50 .skip (.exit 4)) (.seq (.block 5 (oR [oI 51 1 47 49,oL 52 51,oM 14 52] (oR [oM 53 8,oF 54 1 12,oL 55 54,oM 56 14,oS 57 (.build zzj [(0,(1,(.t 55))),(1,(1,(.t 56)))]),oS 58 (.mget false (.agg [.none,(.some .i64)]) (.bool false) (.t 53) (.t 57))] (oD 58 (oR [oM 59 9,oF 60 1 12,oL 61 60,oM 62 14,oM 2 59,oM 3 61,oM 4 62,oJ 5 0] .ret) .skip)))) (.reg [oC 63 .add 49 1,oM 49 63])))
def q9a:C:=oR [oB 40 .lss 39 38] (.seq (oD 40 .skip (.exit 2)) (.seq (.block 3 (oR [oI 41 10 37 39,oA 42 10 41,oY 12 zze,oV 10 12 42] (.seq (oR [oF 43 1 12,oL 44 43,oS 45 (.bin .eql false (.t 44) (.c (.str (ByteArray.mk #[]))))] (oD 45 (.exit 3) .skip)) (oR [oA 46 10 12,oC1 47 105 46,oH 48 47,oJ 49 0] (.block 4 (.loop q99)))))) (.reg [oC 64 .add 39 1,oM 39 64])))
def q9b:C:=oR [oB 31 .lss 30 29] (.seq (oD 31 .skip (.exit 0)) (.seq (.block 1 (oR [oM 32 30,oI 33 2 28 30,oA 34 2 33,oS 10 (.alloc [(.sl true []),(.int .i64 0)]),oM 9 32,oV 2 10 34] (.seq (oR [oF 35 0 10,oF 36 0 35,oL 37 36,oH 38 37,oJ 39 0] (.block 2 (.loop q9a))) (oR [oF 65 0 10,oF 66 0 65,oL 67 66,oH 68 67,oJ 69 0] (.block 6 (.loop q98)))))) (.reg [oC 111 .add 30 1,oM 30 111])))
def q5J:FnC:=⟨(oR [oJ 2 0,oS 3 (.mv (.c (.str (ByteArray.mk #[])))),oJ 4 0,oJ 5 0] (.seq (oR [oM 21 0,oC1 22 103 21,oM 6 22] (oR [oM 23 6,oC 24 .neq 23 0] (oD 24 (oR [oM 25 6,oJ 2 0,oS 3 (.mv (.c (.str (ByteArray.mk #[])))),oJ 4 0,oM 5 25] .ret) .skip))) (oR [oS 26 (.mkm),oS 27 (.mkm),oM 7 26,oM 8 27] (.seq (oR [oM 28 0,oH 29 28,oJ 30 0] (.block 0 (.loop q9b))) (oR [oJ 2 0,oS 3 (.mv (.c (.str (ByteArray.mk #[])))),oJ 4 0,oJ 5 15] .ret))))),[(.tmp 2),(.tmp 3),(.tmp 4),(.tmp 5)],1,[]⟩ --@@ sheave/history.Reused
theorem qax:FnOk Tryz.prog 48 q5J:=okF Tryz.func48
def ruT:Nat->Option FnC:=fun f=>if f=48 then some q5J else none
theorem ruT_ok (f:Nat) (c:FnC) (h:ruT f=some c):FnOk Tryz.prog f c:=by
 unfold ruT at h;split at h
 ·rename_i e;injection h with h;subst h;subst e;exact qax
 ·cases h
theorem mixedO:Tryz.prog.follows .mixedOrders=true:=by kernel_rfl
def ruArgs:List AV:=[(.sl false [[(.sl false [[(.int .i64 5),(.str (ByteArray.mk #[82])),(.int .i64 0),(.int .i64 0),(.int .i64 0),(.sl true []),(.sl false [[(.int .i64 1),(.str (ByteArray.mk #[120])),(.int .i64 1),(.bool false),(.bool true),(.int .i64 1),(.bool true),(.int .i64 0),(.str (ByteArray.mk #[])),(.int .i64 0),(.sl true []),(.sl true []),(.sl true [])]]),(.int .i64 0),(.int .i64 0),(.bool false)],[(.int .i64 1),(.str (ByteArray.mk #[])),(.int .i64 0),(.int .i64 0),(.int .i64 0),(.sl true []),(.sl true []),(.int .i64 0),(.int .i64 0),(.bool false)]]),(.int .i64 0)],[(.sl false [[(.int .i64 5),(.str (ByteArray.mk #[82])),(.int .i64 0),(.int .i64 0),(.int .i64 0),(.sl true []),(.sl true []),(.int .i64 0),(.int .i64 0),(.bool false)],[(.int .i64 1),(.str (ByteArray.mk #[])),(.int .i64 0),(.int .i64 0),(.int .i64 0),(.sl true []),(.sl true []),(.int .i64 0),(.int .i64 0),(.bool false)]]),(.int .i64 0)],[(.sl false [[(.int .i64 5),(.str (ByteArray.mk #[82])),(.int .i64 0),(.int .i64 0),(.int .i64 0),(.sl true []),(.sl false [[(.int .i64 1),(.str (ByteArray.mk #[120])),(.int .i64 1),(.bool false),(.bool true),(.int .i64 1),(.bool false),(.int .i64 0),(.str (ByteArray.mk #[])),(.int .i64 0),(.sl true []),(.sl true []),(.sl true [])]]),(.int .i64 0),(.int .i64 0),(.bool false)],[(.int .i64 1),(.str (ByteArray.mk #[])),(.int .i64 0),(.int .i64 0),(.int .i64 0),(.sl true []),(.sl true []),(.int .i64 0),(.int .i64 0),(.bool false)]]),(.int .i64 0)]])]
def ruV:AV:=(.tup [(.int .i64 2),(.str (ByteArray.mk #[82])),(.int .i64 1),(.int .i64 0)])
theorem no_reused {args:List AV} {S:Option AV}:q01 48 args S=none:=by simp [q01]
theorem no_reused' {args:List AV} {S:Option AV} {r:RV} (h:evC allT q01 48 args S=some r):False:=by
 obtain ⟨n,hn⟩:=q4X.1 h;have hT:allT 48=none:=by kernel_rfl
 cases n <;> (unfold q38 at hn; rw [hT] at hn; simp only at hn; rw [no_reused] at hn; cases hn)
theorem ru_knows:q0r ruT (evC allT q01) awkh_M84:=fun f args S r h=>by
 have h:=awkh_knows f args S r h;by_cases e:f=48
 ·subst e;exact (no_reused' h).elim
 ·have hT:ruT f=none:=by unfold ruT; rw [if_neg e]
  exact q4X.2 ⟨0,by unfold q38; rw [hT]; exact h⟩
theorem reused_ev:evC ruT (evC allT q01) 48 ruArgs none=some (ruV,none):=ru_knows.every (c:=q5J) rfl rfl rfl rfl 100 (by kernel_rfl)
theorem reused_ok {O:Objs}:q2i Tryz.prog O 48 ruArgs none (ruV,none):=qbG mixedO ruT_ok (fun _ _ _ _ h=>qbG mixedO allT_ok bldExt_ok h) reused_ev
def q9T:q18:=fun f args S=>if Nat.beq f 48&&(AV.beqL args ruArgs&&AV.beqO S none) then some (ruV,none) else q01 f args S
theorem hisExt_ok {O:Objs} (f:Nat) (args:List AV) (S:Option AV) (r:RV) (h:q9T f args S=some r):q2i Tryz.prog O f args S r:=by
 unfold q9T at h;split at h
 ·rename_i hc;simp only [y7] at hc;obtain ⟨h1,h2,h3⟩:=hc;injection h with h;subst h;rw [Nat.eq_of_beq_eq_true h1,AV.beqL_eq _ _ h2,AV.beqO_eq _ _ h3];exact reused_ok
 ·exact bldExt_ok f args S r h
theorem qbL (f:Nat) (args:List AV) (S:Option AV) (r:RV) (h:q01 f args S=some r):q9T f args S=some r:=by
 unfold q9T;split
 ·rename_i hc;simp only [y7] at hc;rw [Nat.eq_of_beq_eq_true hc.1,no_reused] at h;cases h
 ·exact h
abbrev evG (f:Nat) (args:List AV) (v:AV):Prop:=evC allT q9T f args none=some (v,none)
theorem ev_G {f:Nat} {args:List AV} {v:AV} (h:evC allT q01 f args none=some (v,none)):evG f args v:=qbE qbL h
theorem awake24_ev:evG 45 [] (.bool true):=q0r.run (fun f args S r h=>qbE qbL (awkh_knows f args S r h)) 3000 (by kernel_rfl)
end Go.Proofs.YtbnlmgncbgaepaaGreat
