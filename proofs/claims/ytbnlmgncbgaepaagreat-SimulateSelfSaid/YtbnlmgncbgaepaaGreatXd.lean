/- A part of the proof. -/
import Derived.Test.YtbnlmgncbgaepaaGreatXc
set_option linter.all false
set_option maxRecDepth 100000
set_option maxHeartbeats 8000000
open Option renaming bind_some → V
open List renaming range_succ → J, map_map → y0, getElem_mem → y6, drop_eq_getElem_cons → yb, drop_eq_nil_of_le → ye, map_cons → yg, map_nil → yn, mem_append → yt, take_of_length_le → yx, take_append_getElem → yH, mem_map_of_mem → yN, map_append → yS
open Int renaming toNat_lt → y3
open Bool renaming and_eq_true → y7
namespace Go.Proofs.YtbnlmgncbgaepaaGreat
open Go
structure Raw where
 id:Int
 data:ByteArray
 deriving DecidableEq
inductive Vl where
 | mk (kind:Int) (b:Bool) (i:Int) (s:ByteArray) (id:Int) (kn:Bool) (keys:List Vl) (xn:Bool) (items:List Vl) (rn:Bool) (rest:List Raw)
namespace Vl
def kind:Vl->Int | .mk k _ _ _ _ _ _ _ _ _ _=>k
def b:Vl->Bool | .mk _ b _ _ _ _ _ _ _ _ _=>b
def i:Vl->Int | .mk _ _ i _ _ _ _ _ _ _ _=>i
def s:Vl->ByteArray | .mk _ _ _ s _ _ _ _ _ _ _=>s
def id:Vl->Int | .mk _ _ _ _ d _ _ _ _ _ _=>d
def kn:Vl->Bool | .mk _ _ _ _ _ k _ _ _ _ _=>k
def keys:Vl->List Vl | .mk _ _ _ _ _ _ l _ _ _ _=>l
def xn:Vl->Bool | .mk _ _ _ _ _ _ _ x _ _ _=>x
def items:Vl->List Vl | .mk _ _ _ _ _ _ _ _ l _ _=>l
def rn:Vl->Bool | .mk _ _ _ _ _ _ _ _ _ r _=>r
def rest:Vl->List Raw | .mk _ _ _ _ _ _ _ _ _ _ l=>l
theorem keys_lt (v x:Vl) (h:x∈v.keys):SizeOf.sizeOf x<SizeOf.sizeOf v:=by
 cases v;have:=List.sizeOf_lt_of_mem h;simp only [keys] at this;simp only [mk.sizeOf_spec];omega
theorem items_lt (v x:Vl) (h:x∈v.items):SizeOf.sizeOf x<SizeOf.sizeOf v:=by
 cases v;have:=List.sizeOf_lt_of_mem h;simp only [items] at this;simp only [mk.sizeOf_spec];omega
end Vl
def kO (r:Raw):List AV:=[.int .i64 r.id,.str r.data]
mutual
def zA:Vl->List AV
 | .mk k b i s d kn ks xn xs rn rs=>[.int .i64 k,.bool b,.int .i64 i,.str s,.int .i64 d,.sl kn (lZ ks),.sl xn (lZ xs),.sl rn (rs.map kO)]
def lZ:List Vl->List (List AV)
 | []=>[]
 | v :: r=>zA v :: lZ r
end
theorem JT:∀ l:List Vl,lZ l=l.map zA
 | []=>by rw [lZ]; rfl
 | v :: r=>by rw [lZ,JT r]; rfl
theorem iA (v:Vl):zA v=[.int .i64 v.kind,.bool v.b,.int .i64 v.i,.str v.s,.int .i64 v.id,.sl v.kn (v.keys.map zA),.sl v.xn (v.items.map zA),.sl v.rn (v.rest.map kO)]:=by
 cases v;rw [zA,JT,JT];rfl
mutual
/-- lengths that occur -/
def Vl.ok:Vl->Prop
 | .mk _ _ _ s _ _ ks _ xs _ rs=>ks.length<=9223372036854775807/\xs.length<=9223372036854775807/\rs.length<=9223372036854775807/\s.size<=9223372036854775807/\Vl.oks ks/\Vl.oks xs
def Vl.oks:List Vl->Prop
 | []=>True
 | v :: r=>Vl.ok v/\Vl.oks r
end
theorem Vl.oks_iff:∀ l:List Vl,Vl.oks l ↔ ∀ v∈l,v.ok
 | []=>by simp [Vl.oks]
 | v :: r=>by simp [Vl.oks,Vl.oks_iff r]
theorem Vl.ok_def (v:Vl):v.ok ↔ v.keys.length<=9223372036854775807/\v.items.length<=9223372036854775807/\v.rest.length<=9223372036854775807/\v.s.size<=9223372036854775807/\(∀ x∈v.keys,x.ok)/\∀ x∈v.items,x.ok:=by
 cases v;rw [Vl.ok,Vl.oks_iff,Vl.oks_iff];rfl
def Vl.zero:Vl:=.mk 0 false 0 ⟨#[]⟩ 0 true [] true [] true []
structure IS where
 id:Int
 name:ByteArray
 deriving DecidableEq
def RD (x:IS):List AV:=[.int .i64 x.id,.str x.name]
structure BB where
 id:Int
 name:ByteArray
 ty:Int
 crit:Bool
 has:Bool
 dflt:Vl
def nA (m:BB):List AV:=[.int .i64 m.id,.str m.name,.int .i64 m.ty,.bool m.crit,.bool m.has,.int .i64 m.dflt.kind,.bool m.dflt.b,.int .i64 m.dflt.i,.str m.dflt.s,.int .i64 m.dflt.id,.sl m.dflt.kn (m.dflt.keys.map zA),.sl m.dflt.xn (m.dflt.items.map zA),.sl m.dflt.rn (m.dflt.rest.map kO)]
structure fA where
 kind:Int
 name:ByteArray
 low:Int
 high:Int
 max:Int
 sn:Bool
 syms:List IS
 mn:Bool
 mems:List BB
 key:Int
 elem:Int
 opn:Bool
def eA (t:fA):List AV:=[.int .i64 t.kind,.str t.name,.int .i64 t.low,.int .i64 t.high,.int .i64 t.max,.sl t.sn (t.syms.map RD),.sl t.mn (t.mems.map nA),.int .i64 t.key,.int .i64 t.elem,.bool t.opn]
structure SG where
 nl:Bool
 types:List fA
def WA (s:SG):List AV:=[.sl s.nl (s.types.map eA)]
def BB.ok (m:BB):Prop:=m.dflt.ok/\m.name.size<=9223372036854775807
def fA.ok (t:fA):Prop:=t.syms.length<=9223372036854775807/\t.mems.length<=9223372036854775807/\∀ m∈t.mems,m.ok
def SG.ok (s:SG):Prop:=s.types.length<=9223372036854775807/\∀ t∈s.types,t.ok
theorem ZA {i:Nat} (h:i<9223372036854775807:=by omega):IntKind.i64.wrap ((i:Int) + 1)=((i + 1:Nat):Int):=by
 rw [IntWalk.i64_in _ (by omega)]; rfl
theorem els_sym (l:List IS):lB 2 (l.map RD)=true:=cC _ _ _ fun _=>rfl
theorem BU (l:List BB):lB 13 (l.map nA)=true:=cC _ _ _ fun _=>rfl
theorem wA {f:Nat} {c:zB} {args:List AV} {r:RV} (hT:jA f=some c) (hl:args.length=c.np) (h:c.code.run (wH jA rA) (HK jA rA) (aA.init args none) (KN c none)=some r) (hm:kK args=false:=by rfl):wH jA rA f args none=some r:=aK c hT hl h hm
abbrev gA (f:Nat) (args:List AV) (v:AV):Prop:=wH jA rA f args none=some (v,none)
def QQ (x:Int):Bool:=decide (x=95)||(decide (97<=x)&&decide (x<=122))||(decide (65<=x)&&decide (x<=90))
def CV (x:Int):Bool:=decide (48<=x)&&decide (x<=57)
def PG (s:ByteArray):Nat->Nat->Bool
 | 0,_=>true
 | n + 1,i=>(match s[i]? with | some u=>QQ u.toNat||CV u.toNat | none=>false)&&PG s n (i + 1)
def QF (s:ByteArray):Bool:=decide (s.size≠0)&&decide (s.size<=24)&&(match s[0]? with | some u=>QQ u.toNat | none=>false)&&PG s s.size 0
theorem HY (x:Int):gA 248 [.int .u8 x] (.bool (QQ x)):=by
 refine wA (c:=cH) rfl rfl ?_;unfold QQ;by_cases h1:x=95 <;> by_cases h2:97<=x <;> by_cases h3:65<=x <;> by_cases h4:x<=122 <;> by_cases h5:x<=90 <;> simp [cH,-V,AC,J,h1,h2,h3,h4,h5]
theorem digit_ev (x:Int):gA 249 [.int .u8 x] (.bool (CV x)):=by
 refine wA (c:=sI) rfl rfl ?_;unfold CV;by_cases h1:48<=x <;> simp [sI,-V,AC,J,h1]
theorem eX (x:Int):gA 224 [.int .u8 x] (.bool (QQ x)):=by
 refine wA (c:=tJ) rfl rfl ?_;unfold QQ;by_cases h1:x=95 <;> by_cases h2:97<=x <;> by_cases h3:65<=x <;> by_cases h4:x<=122 <;> by_cases h5:x<=90 <;> simp [tJ,-V,AC,J,h1,h2,h3,h4,h5]
theorem rdigit_ev (x:Int):gA 225 [.int .u8 x] (.bool (CV x)):=by
 refine wA (c:=mK) rfl rfl ?_;unfold CV;by_cases h1:48<=x <;> simp [mK,-V,AC,J,h1]
theorem PP {s:ByteArray} {i:Nat} (h:i<s.size):∃ u,s[i]?=some u:=⟨s[i],getElem?_pos s i h⟩
theorem name_lp (s:ByteArray) (hs:s.size<=24) (r:RV) (k:Ex->aA->Option RV) (hk:∀ s',PG s s.size 0=true->k (.exit 0) s'=some r) (hr:∀ s':aA,PG s s.size 0=false->(s'.env 2).v=.bool false->k .ret s'=some r) :
  ∀ (n i:Nat),i + n=s.size->PG s n i=PG s s.size 0->∀ s':aA,(s'.env 0).v=.str s->(s'.env 18).v=.int .i64 s.size->(s'.env 19).v=.int .i64 i->OI jA rA fE s' k=some r:=by
 intro n
 induction n with
 | zero =>
  intro i hi hf s' e0 ao e19;have da:¬ ((i:Int)<s.size):=by omega
  refine tA ?_;simp [fE,-V,AC,J,e0,ao,e19,da];exact hk _ (by rw [<- hf]; rfl)
 | succ n ih =>
  intro i hi hf s' e0 ao e19;have da:(i:Int)<s.size:=by omega
  obtain ⟨u,hu⟩:=PP (s:=s) (i:=i) (by omega);have hw:=ZA (i:=i);have h1:=HY u.toNat;have h2:=digit_ev u.toNat;simp only [PG,hu] at hf;refine tA ?_;cases b1:QQ u.toNat with
  | true =>
   simp only [b1] at h1 hf;simp [fE,-V,AC,J,e0,ao,e19,da,hu,h1,hw];refine ih (i + 1) (by omega) (by simpa using hf) _ ?_ ?_ ?_ <;> simp [*]
  | false =>
   cases b2:CV u.toNat with
   | true =>
    simp only [b1,b2] at h1 h2 hf;simp [fE,-V,AC,J,e0,ao,e19,da,hu,h1,h2,hw];refine ih (i + 1) (by omega) (by simpa using hf) _ ?_ ?_ ?_ <;> simp [*]
   | false =>
    simp only [b1,b2] at h1 h2 hf;simp [fE,-V,AC,J,e0,ao,e19,da,hu,h1,h2,hw];refine hr _ (by simpa using hf.symm) ?_;simp
theorem name_ev (s:ByteArray):gA 234 [.str s] (.bool (QF s)):=by
 refine wA (c:=OE) rfl rfl ?_;unfold QF;by_cases h0:s=⟨#[]⟩
 ·subst h0;simp [OE,-V,AC,J];exact fun h=>absurd rfl h
 ·have hz:s.size≠0:=fun h=>h0 (by
   obtain ⟨d⟩:=s;have h:d.size=0:=h;rw [Array.eq_empty_of_size_eq_zero h])
  by_cases h1:s.size<=24
  ·have kp:¬ ((24:Int)<s.size):=by omega
   obtain ⟨u,hu⟩:=PP (s:=s) (i:=0) (by omega);have h2:=HY u.toNat;cases b1:QQ u.toNat with
   | false =>
    simp only [b1] at h2;simp [OE,-V,AC,J,h0,kp,hu,h2,b1]
   | true =>
    simp only [b1] at h2;simp [OE,-V,AC,J,h0,kp,hu,h2,b1,hz,h1];refine name_lp s h1 _ _ (fun s' hf=>?main) (fun s' hf h2=>?main2) s.size 0 (by simp) rfl _ ?_ ?_ ?_
    case main=>simp [-V,AC,J,hf]
    case main2=>simp [-V,AC,J,hf,h2]
    all_goals simp
  ·have kp:(24:Int)<s.size:=by omega
   simp [OE,-V,AC,J,h0,kp,h1]
theorem rname_lp (s:ByteArray) (hs:s.size<=24) (r:RV) (k:Ex->aA->Option RV) (hk:∀ s',PG s s.size 0=true->k (.exit 0) s'=some r) (hr:∀ s':aA,PG s s.size 0=false->(s'.env 2).v=.bool false->k .ret s'=some r) :
  ∀ (n i:Nat),i + n=s.size->PG s n i=PG s s.size 0->∀ s':aA,(s'.env 0).v=.str s->(s'.env 3).v=.int .i64 i->OI jA rA gE s' k=some r:=by
 intro n
 induction n with
 | zero =>
  intro i hi hf s' e0 e3;have da:¬ ((i:Int)<s.size):=by omega
  refine tA ?_;simp [gE,-V,AC,J,e0,e3,da];exact hk _ (by rw [<- hf]; rfl)
 | succ n ih =>
  intro i hi hf s' e0 e3;have da:(i:Int)<s.size:=by omega
  obtain ⟨u,hu⟩:=PP (s:=s) (i:=i) (by omega);have hw:=ZA (i:=i);have h1:=eX u.toNat;have h2:=rdigit_ev u.toNat;simp only [PG,hu] at hf;refine tA ?_;cases b1:QQ u.toNat with
  | true =>
   simp only [b1] at h1 hf;simp [gE,-V,AC,J,e0,e3,da,hu,h1,hw];refine ih (i + 1) (by omega) (by simpa using hf) _ ?_ ?_ <;> simp [*]
  | false =>
   cases b2:CV u.toNat with
   | true =>
    simp only [b1,b2] at h1 h2 hf;simp [gE,-V,AC,J,e0,e3,da,hu,h1,h2,hw];refine ih (i + 1) (by omega) (by simpa using hf) _ ?_ ?_ <;> simp [*]
   | false =>
    simp only [b1,b2] at h1 h2 hf;simp [gE,-V,AC,J,e0,e3,da,hu,h1,h2,hw];refine hr _ (by simpa using hf.symm) ?_;simp
theorem rX (s:ByteArray):gA 210 [.str s] (.bool (QF s)):=by
 refine wA (c:=PE) rfl rfl ?_;unfold QF;by_cases h0:s=⟨#[]⟩
 ·subst h0;simp [PE,-V,AC,J];exact fun h=>absurd rfl h
 ·have hz:s.size≠0:=fun h=>h0 (by
   obtain ⟨d⟩:=s;have h:d.size=0:=h;rw [Array.eq_empty_of_size_eq_zero h])
  by_cases h1:s.size<=24
  ·have kp:¬ ((24:Int)<s.size):=by omega
   obtain ⟨u,hu⟩:=PP (s:=s) (i:=0) (by omega);have h2:=eX u.toNat;cases b1:QQ u.toNat with
   | false =>
    simp only [b1] at h2;simp [PE,-V,AC,J,h0,kp,hu,h2,b1]
   | true =>
    simp only [b1] at h2;simp [PE,-V,AC,J,h0,kp,hu,h2,b1,hz,h1];refine rname_lp s h1 _ _ (fun s' hf=>?main) (fun s' hf h2=>?main2) s.size 0 (by simp) rfl _ ?_ ?_
    case main=>simp [-V,AC,J,hf]
    case main2=>simp [-V,AC,J,hf,h2]
    all_goals simp
  ·have kp:(24:Int)<s.size:=by omega
   simp [PE,-V,AC,J,h0,kp,h1]
mutual
def Vl.same:Vl->Vl->Bool
 | .mk k b i s d _ ks _ xs _ rs,.mk k' b' i' s' d' _ ks' _ oj _ rs'=>decide (k=k')&&(b == b')&&decide (i=i')&&decide (s=s')&&decide (d=d')&&decide (rs=rs')&&Vl.sames ks ks'&&Vl.sames xs oj
def Vl.sames:List Vl->List Vl->Bool
 | [],[]=>true
 | v :: r,v' :: r'=>Vl.same v v'&&Vl.sames r r'
 | [],_ :: _=>false
 | _ :: _,[]=>false
end
theorem Vl.same_def (v w:Vl):v.same w=(decide (v.kind=w.kind)&&(v.b == w.b)&&decide (v.i=w.i)&&decide (v.s=w.s)&&decide (v.id=w.id)&&decide (v.rest=w.rest)&&Vl.sames v.keys w.keys&&Vl.sames v.items w.items):=by
 cases v; cases w; rw [Vl.same]; rfl
theorem Vl.sames_len:∀ l m:List Vl,l.length≠m.length->Vl.sames l m=false
 | [],[],h=>absurd rfl h
 | [],_ :: _,_=>by rw [Vl.sames]
 | _ :: _,[],_=>by rw [Vl.sames]
 | v :: r,w :: r',h=>by rw [Vl.sames,Vl.sames_len r r' (by simpa using h)]; simp
theorem raws_lp (rs qs:List Raw) (hl:rs.length<=9223372036854775807) (he:rs.length=qs.length) (b1 b2:Bool) (r:RV) (k:Ex->aA->Option RV) (hk:∀ s',rs=qs->k (.exit 0) s'=some r) (hr:∀ s':aA,rs≠qs->(s'.env 4).v=.bool false->k .ret s'=some r) :
  ∀ (n i:Nat),i + n=rs.length->(rs.drop i=qs.drop i ↔ rs=qs)->∀ s':aA,(s'.env 0).v=.sl b1 (rs.map kO)->(s'.env 1).v=.sl b2 (qs.map kO)->(s'.env 12).v=.int .i64 rs.length->(s'.env 13).v=.int .i64 i->OI jA rA qC s' k=some r:=by
 intro n
 induction n with
 | zero =>
  intro i hi hf s' e0 e1 e12 kh;have da:¬ ((i:Int)<rs.length):=by omega
  refine tA ?_;simp [qC,-V,AC,J,e12,kh,da];exact hk _ (hf.1 (by rw [ye (by omega),ye (by omega)]))
 | succ n ih =>
  intro i hi hf s' e0 e1 e12 kh;have da:(i:Int)<rs.length:=by omega
  have oe:i<rs.length:=by omega
  have ph:i<qs.length:=by omega
  have hw:=ZA (i:=i);have g1:(rs.map kO)[i]?=some (kO rs[i]):=by simp [oe]
  have g2:(qs.map kO)[i]?=some (kO qs[i]):=by simp [ph]
  rw [yb oe,yb ph] at hf;simp only [List.cons.injEq] at hf;generalize rs[i]=x at *
  generalize qs[i]=y at *
  obtain ⟨xi,xd⟩:=x;obtain ⟨yi,yd⟩:=y;simp only [kO] at g1 g2;simp only [Raw.mk.injEq] at hf;refine tA ?_;by_cases h1:xi=yi
  ·by_cases h2:xd=yd
   ·subst h1 h2;simp [qC,-V,AC,J,e0,e1,e12,kh,da,g1,g2,zL,hw];refine ih (i + 1) (by omega) (by simpa using hf) _ ?_ ?_ ?_ ?_ <;> simp [*]
   ·subst h1;simp [qC,-V,AC,J,e0,e1,e12,kh,da,g1,g2,zL,h2];exact hr _ (fun h=>h2 (hf.2 h).1.2) (by simp)
  ·simp [qC,-V,AC,J,e0,e1,e12,kh,da,g1,g2,zL,h1];exact hr _ (fun h=>h1 (hf.2 h).1.1) (by simp)
theorem raws_ev (rs qs:List Raw) (hl:rs.length<=9223372036854775807) (b1 b2:Bool):gA 196 [.sl b1 (rs.map kO),.sl b2 (qs.map kO)] (.bool (decide (rs=qs))):=by
 refine wA (c:=ED) rfl rfl ?_;by_cases he:rs.length=qs.length
 ·have zg:(rs.length:Int)=qs.length:=by omega
  simp [ED,-V,AC,J,he];refine raws_lp rs qs hl he b1 b2 _ _ (fun s' hf=>?main) (fun s' hf h4=>?main2) rs.length 0 (by simp) (by simp) _ ?_ ?_ ?_ ?_
  case main=>simp [-V,AC,J,hf]
  case main2=>simp [-V,AC,J,hf,h4]
  all_goals simp [he]
 ·have zg:¬ (rs.length:Int)=qs.length:=by omega
  have na:rs≠qs:=fun h=>he (by rw [h])
  simp [ED,-V,AC,J,zg,na]
theorem eqf_lp (F:Nat) (l m:List Vl) (hl:l.length<=9223372036854775807) (he:l.length=m.length) (hF:∀ x∈l,∀ y∈m,gA F [.agg (zA x),.agg (zA y)] (.bool (x.same y))) (b1 b2:Bool) (r:RV) (k:Ex->aA->Option RV) (hk:∀ s',Vl.sames l m=true->k (.exit 0) s'=some r) (hr:∀ s':aA,Vl.sames l m=false->(s'.env 6).v=.bool false->k .ret s'=some r) :
  ∀ (n i:Nat),i + n=l.length->Vl.sames (l.drop i) (m.drop i)=Vl.sames l m->∀ s':aA,(s'.env 1).v=.sl b2 (m.map zA)->(s'.env 2).v=.fn F []->(s'.env 15).v=.sl b1 (l.map zA)->(s'.env 16).v=.int .i64 l.length->(s'.env 17).v=.int .i64 i->OI jA rA SB s' k=some r:=by
 intro n
 induction n with
 | zero =>
  intro i hi hf s' e1 e2 ue wd mh;have da:¬ ((i:Int)<l.length):=by omega
  refine tA ?_;simp [SB,-V,AC,J,wd,mh,da];refine hk _ ?_;rw [<- hf,ye (by omega),ye (by omega),Vl.sames]
 | succ n ih =>
  intro i hi hf s' e1 e2 ue wd mh;have da:(i:Int)<l.length:=by omega
  have oe:i<l.length:=by omega
  have ph:i<m.length:=by omega
  have hw:=ZA (i:=i);have g1:(l.map zA)[i]?=some (zA l[i]):=by simp [oe]
  have g2:(m.map zA)[i]?=some (zA m[i]):=by simp [ph]
  have hx:=hF l[i] (y6 _) m[i] (y6 _);rw [yb oe,yb ph,Vl.sames] at hf;generalize l[i]=x at *
  generalize m[i]=y at *
  simp only [gA,iA] at g1 g2 hx;refine tA ?_;cases h1:x.same y with
  | true =>
   rw [h1] at hx hf;simp [SB,-V,AC,J,e1,e2,ue,wd,mh,da,g1,g2,qG,OD,hx,hw];refine ih (i + 1) (by omega) (by simpa using hf) _ ?_ ?_ ?_ ?_ ?_ <;> simp [*]
  | false =>
   rw [h1] at hx hf;simp [SB,-V,AC,J,e1,e2,ue,wd,mh,da,g1,g2,qG,OD,hx];exact hr _ (by simpa using hf.symm) (by simp)
theorem DZ (F:Nat) (l m:List Vl) (hl:l.length<=9223372036854775807) (hF:∀ x∈l,∀ y∈m,gA F [.agg (zA x),.agg (zA y)] (.bool (x.same y))) (b1 b2:Bool):gA 197 [.sl b1 (l.map zA),.sl b2 (m.map zA),.fn F []] (.bool (Vl.sames l m)):=by
 refine wA (c:=tC) rfl rfl ?_;by_cases he:l.length=m.length
 ·simp [tC,-V,AC,J,he];refine eqf_lp F l m hl he hF b1 b2 _ _ (fun s' hf=>?main) (fun s' hf h4=>?main2) l.length 0 (by simp) (by simp) _ ?_ ?_ ?_ ?_ ?_
  case main=>simp [-V,AC,J,hf]
  case main2=>simp [-V,AC,J,hf,h4]
  all_goals simp [he]
 ·have zg:¬ (l.length:Int)=m.length:=by omega
  simp [tC,-V,AC,J,zg,Vl.sames_len l m he]
theorem same_ev:∀ (n:Nat) (v w:Vl),SizeOf.sizeOf v<n->v.ok->gA 255 [.agg (zA v),.agg (zA w)] (.bool (v.same w)):=by
 intro n
 induction n with
 | zero=>intro v w h; omega
 | succ n ih =>
  intro v w hn hv;rw [Vl.ok_def] at hv;obtain ⟨o1,o2,o3,o4,o5,o6⟩:=hv;have hr:=raws_ev v.rest w.rest o3 v.rn w.rn;have zj:=DZ 255 v.keys w.keys o1 (fun x hx y _=>ih x y (by have:=Vl.keys_lt v x hx; omega) (o5 x hx)) v.kn w.kn;have be:=DZ 255 v.items w.items o2 (fun x hx y _=>ih x y (by have:=Vl.items_lt v x hx; omega) (o6 x hx)) v.xn w.xn;simp only [gA] at hr zj be;refine wA (c:=eD) rfl rfl ?_;rw [iA,iA,Vl.same_def];by_cases h1:v.kind=w.kind
  ·by_cases h2:v.b=w.b
   ·by_cases h3:v.i=w.i
    ·by_cases h4:v.s=w.s
     ·by_cases h5:v.id=w.id
      ·by_cases h6:v.rest=w.rest
       ·cases h7:Vl.sames v.keys w.keys with
        | true=>rw [h7] at zj; simp [eD,-V,AC,J,h1,h2,h3,h4,h5,h6 ▸ hr,h6,qG,OD,zj,be,h7]
        | false=>rw [h7] at zj; simp [eD,-V,AC,J,h1,h2,h3,h4,h5,h6 ▸ hr,h6,qG,OD,zj,h7]
       ·simp [eD,-V,AC,J,h1,h2,h3,h4,h5,hr,h6]
      ·simp [eD,-V,AC,J,h1,h2,h3,h4,h5]
     ·simp [eD,-V,AC,J,h1,h2,h3,h4]
    ·simp [eD,-V,AC,J,h1,h2,h3]
   ·simp [eD,-V,AC,J,h1,h2]
  ·simp [eD,-V,AC,J,h1]
abbrev uR (v:Vl):List qA:=[⟨.int .i64 v.kind,.no⟩,⟨.bool v.b,.no⟩,⟨.int .i64 v.i,.no⟩,⟨.str v.s,.no⟩,⟨.int .i64 v.id,.no⟩,⟨.sl v.kn (v.keys.map zA),.no⟩,⟨.sl v.xn (v.items.map zA),.no⟩,⟨.sl v.rn (v.rest.map kO),.no⟩]
theorem rrest_lp (v w:Vl) (hl:v.rest.length<=9223372036854775807) (he:v.rest.length=w.rest.length) (m:Nat) (r:RV) (k:Ex->aA->Option RV)
  (hk:∀ s':aA,v.rest=w.rest->(s'.env 2).v=.ptr 2 m 0->(s'.env 3).v=.ptr 3 m 0->s'.mem 2 m=some (uR v)->s'.mem 3 m=some (uR w)->k (.exit 0) s'=some r) (hr:∀ s':aA,v.rest≠w.rest->(s'.env 4).v=.bool false->k .ret s'=some r) :
  ∀ (n i:Nat),i + n=v.rest.length->(v.rest.drop i=w.rest.drop i ↔ v.rest=w.rest)->∀ s':aA,(s'.env 2).v=.ptr 2 m 0->(s'.env 3).v=.ptr 3 m 0->s'.mem 2 m=some (uR v)->s'.mem 3 m=some (uR w)->(s'.env 5).v=.int .i64 i->OI jA rA lD s' k=some r:=by
 intro n
 induction n with
 | zero =>
  intro i hi hf s' e2 e3 m2 m3 e5;have da:¬ ((i:Int)<v.rest.length):=by omega
  refine tA ?_;simp [lD,-V,AC,J,e2,e3,m2,m3,e5,da];exact hk _ (hf.1 (by rw [ye (by omega),ye (by omega)])) (by simp [e2]) (by simp [e3]) (by simp [m2]) (by simp [m3])
 | succ n ih =>
  intro i hi hf s' e2 e3 m2 m3 e5;have da:(i:Int)<v.rest.length:=by omega
  have oe:i<v.rest.length:=by omega
  have ph:i<w.rest.length:=by omega
  have hw:=ZA (i:=i);have g1:(v.rest.map kO)[i]?=some (kO v.rest[i]):=by simp [oe]
  have g2:(w.rest.map kO)[i]?=some (kO w.rest[i]):=by simp [ph]
  rw [yb oe,yb ph] at hf;simp only [List.cons.injEq] at hf;generalize v.rest[i]=x at *
  generalize w.rest[i]=y at *
  obtain ⟨xi,xd⟩:=x;obtain ⟨yi,yd⟩:=y;simp only [kO] at g1 g2;simp only [Raw.mk.injEq] at hf;refine tA ?_;by_cases h1:xi=yi
  ·by_cases h2:xd=yd
   ·subst h1 h2;simp [lD,-V,AC,J,e2,e3,m2,m3,e5,da,g1,g2,zL,hw];refine ih (i + 1) (by omega) (by simpa using hf) _ ?_ ?_ ?_ ?_ ?_ <;> simp [*]
   ·subst h1;simp [lD,-V,AC,J,e2,e3,m2,m3,e5,da,g1,g2,zL,h2];exact hr _ (fun h=>h2 (hf.2 h).1.2) (by simp)
  ·simp [lD,-V,AC,J,e2,e3,m2,m3,e5,da,g1,g2,zL,h1];exact hr _ (fun h=>h1 (hf.2 h).1.1) (by simp)
theorem rsames_lp (l m:List Vl) (hl:l.length<=9223372036854775807) (he:l.length=m.length) (hF:∀ x∈l,∀ y∈m,gA 189 [.agg (zA x),.agg (zA y)] (.bool (x.same y))) (b1 b2:Bool) (r:RV) (k:Ex->aA->Option RV) (hk:∀ s',Vl.sames l m=true->k (.exit 0) s'=some r) (hr:∀ s':aA,Vl.sames l m=false->(s'.env 4).v=.bool false->k .ret s'=some r) :
  ∀ (n i:Nat),i + n=l.length->Vl.sames (l.drop i) (m.drop i)=Vl.sames l m->∀ s':aA,(s'.env 0).v=.sl b1 (l.map zA)->(s'.env 1).v=.sl b2 (m.map zA)->(s'.env 5).v=.int .i64 i->OI jA rA DD s' k=some r:=by
 intro n
 induction n with
 | zero =>
  intro i hi hf s' e0 e1 e5;have da:¬ ((i:Int)<l.length):=by omega
  refine tA ?_;simp [DD,-V,AC,J,e0,e5,da];refine hk _ ?_;rw [<- hf,ye (by omega),ye (by omega),Vl.sames]
 | succ n ih =>
  intro i hi hf s' e0 e1 e5;have da:(i:Int)<l.length:=by omega
  have oe:i<l.length:=by omega
  have ph:i<m.length:=by omega
  have hw:=ZA (i:=i);have g1:(l.map zA)[i]?=some (zA l[i]):=by simp [oe]
  have g2:(m.map zA)[i]?=some (zA m[i]):=by simp [ph]
  have hx:=hF l[i] (y6 _) m[i] (y6 _);rw [yb oe,yb ph,Vl.sames] at hf;generalize l[i]=x at *
  generalize m[i]=y at *
  simp only [gA,iA] at g1 g2 hx;refine tA ?_;cases h1:x.same y with
  | true =>
   rw [h1] at hx hf;simp [DD,-V,AC,J,e0,e1,e5,da,g1,g2,qG,hx,hw];refine ih (i + 1) (by omega) (by simpa using hf) _ ?_ ?_ ?_ <;> simp [*]
  | false =>
   rw [h1] at hx hf;simp [DD,-V,AC,J,e0,e1,e5,da,g1,g2,qG,hx];exact hr _ (by simpa using hf.symm) (by simp)
theorem iZ (l m:List Vl) (hl:l.length<=9223372036854775807) (hF:∀ x∈l,∀ y∈m,gA 189 [.agg (zA x),.agg (zA y)] (.bool (x.same y))) (b1 b2:Bool):gA 213 [.sl b1 (l.map zA),.sl b2 (m.map zA)] (.bool (Vl.sames l m)):=by
 refine wA (c:=AE) rfl rfl ?_;by_cases he:l.length=m.length
 ·simp [AE,-V,AC,J,he];refine rsames_lp l m hl he hF b1 b2 _ _ (fun s' hf=>?main) (fun s' hf h4=>?main2) l.length 0 (by simp) (by simp) _ ?_ ?_ ?_
  case main=>simp [-V,AC,J,hf]
  case main2=>simp [-V,AC,J,hf,h4]
  all_goals simp [he]
 ·have zg:¬ (l.length:Int)=m.length:=by omega
  simp [AE,-V,AC,J,zg,Vl.sames_len l m he]
theorem fX:∀ (n:Nat) (v w:Vl),SizeOf.sizeOf v<n->v.ok->gA 189 [.agg (zA v),.agg (zA w)] (.bool (v.same w)):=by
 intro n
 induction n with
 | zero=>intro v w h; omega
 | succ n ih =>
  intro v w hn hv;rw [Vl.ok_def] at hv;obtain ⟨o1,o2,o3,o4,o5,o6⟩:=hv;have zj:=iZ v.keys w.keys o1 (fun x hx y _=>ih x y (by have:=Vl.keys_lt v x hx; omega) (o5 x hx)) v.kn w.kn;have be:=iZ v.items w.items o2 (fun x hx y _=>ih x y (by have:=Vl.items_lt v x hx; omega) (o6 x hx)) v.xn w.xn;simp only [gA] at zj be;refine wA (c:=JB) rfl rfl ?_;rw [iA,iA,Vl.same_def];by_cases h1:v.kind=w.kind
  ·by_cases h2:v.b=w.b
   ·by_cases h3:v.i=w.i
    ·by_cases h4:v.s=w.s
     ·by_cases h5:v.id=w.id
      ·by_cases he:v.rest.length=w.rest.length
       ·simp [JB,-V,AC,J,h1,h2,h3,h4,h5,he];refine rrest_lp v w o3 he 1 _ _ (fun s' h6 e2 e3 m2 m3=>?main) (fun s' h6 e4=>?main2) v.rest.length 0 (by simp) (by simp) _ ?_ ?_ ?_ ?_ ?_
        case main =>
         cases h7:Vl.sames v.keys w.keys with
         | true=>rw [h7] at zj; simp [-V,AC,J,e2,e3,m2,m3,qG,zj,be,h6]
         | false=>rw [h7] at zj; simp [-V,AC,J,e2,e3,m2,m3,qG,zj,h6]
        case main2=>simp [-V,AC,J,e4,h6]
        all_goals simp [h1,h2,h3,h4,h5]
       ·have zg:¬ (v.rest.length:Int)=w.rest.length:=by omega
        have h6:¬ v.rest=w.rest:=fun h=>he (by rw [h])
        simp [JB,-V,AC,J,h1,h2,h3,h4,h5,zg,h6]
      ·simp [JB,-V,AC,J,h1,h2,h3,h4,h5]
     ·simp [JB,-V,AC,J,h1,h2,h3,h4]
    ·simp [JB,-V,AC,J,h1,h2,h3]
   ·simp [JB,-V,AC,J,h1,h2]
  ·simp [JB,-V,AC,J,h1]
def BB.same (m m':BB):Bool:=decide (m.id=m'.id)&&decide (m.name=m'.name)&&decide (m.ty=m'.ty)&&(m.crit == m'.crit)&&(m.has == m'.has)&&m.dflt.same m'.dflt
def aB:List BB->List BB->Bool
 | [],[]=>true
 | m :: r,m' :: r'=>m.same m'&&aB r r'
 | [],_ :: _=>false
 | _ :: _,[]=>false
theorem uO:∀ l m:List BB,l.length≠m.length->aB l m=false
 | [],[],h=>absurd rfl h
 | [],_ :: _,_=>rfl
 | _ :: _,[],_=>rfl
 | v :: r,w :: r',h=>by rw [aB,uO r r' (by simpa using h)]; simp
def fA.same (t u:fA):Bool:=decide (t.kind=u.kind)&&decide (t.name=u.name)&&decide (t.low=u.low)&&decide (t.high=u.high)&&decide (t.max=u.max)&&decide (t.key=u.key)&&decide (t.elem=u.elem)&&(t.opn == u.opn)&&decide (t.syms=u.syms)&&aB t.mems u.mems
theorem msame_ev (m m':BB) (hm:m.ok):gA 254 [.agg (nA m),.agg (nA m')] (.bool (m.same m')):=by
 have hs:=same_ev _ m.dflt m'.dflt (Nat.lt_succ_self _) hm.1;simp only [gA,iA] at hs;refine wA (c:=gC) rfl rfl ?_;unfold BB.same nA;by_cases h1:m.id=m'.id
 ·by_cases h2:m.name=m'.name
  ·by_cases h3:m.ty=m'.ty
   ·by_cases h4:m.crit=m'.crit
    ·by_cases h5:m.has=m'.has
     ·simp [gC,-V,AC,J,h1,h2,h3,h4,h5,hs]
     ·simp [gC,-V,AC,J,h1,h2,h3,h4,h5]
    ·simp [gC,-V,AC,J,h1,h2,h3,h4]
   ·simp [gC,-V,AC,J,h1,h2,h3]
  ·simp [gC,-V,AC,J,h1,h2]
 ·simp [gC,-V,AC,J,h1]
theorem rmsame_ev (m m':BB) (hm:m.ok):gA 223 [.agg (nA m),.agg (nA m')] (.bool (m.same m')):=by
 have hs:=fX _ m.dflt m'.dflt (Nat.lt_succ_self _) hm.1;simp only [gA,iA] at hs;refine wA (c:=wC) rfl rfl ?_;unfold BB.same nA;by_cases h1:m.id=m'.id
 ·by_cases h2:m.name=m'.name
  ·by_cases h3:m.ty=m'.ty
   ·by_cases h4:m.crit=m'.crit
    ·by_cases h5:m.has=m'.has
     ·simp [wC,-V,AC,J,h1,h2,h3,h4,h5,hs]
     ·simp [wC,-V,AC,J,h1,h2,h3,h4,h5]
    ·simp [wC,-V,AC,J,h1,h2,h3,h4]
   ·simp [wC,-V,AC,J,h1,h2,h3]
  ·simp [wC,-V,AC,J,h1,h2]
 ·simp [wC,-V,AC,J,h1]
theorem syms_lp (rs qs:List IS) (hl:rs.length<=9223372036854775807) (he:rs.length=qs.length) (b1 b2:Bool) (r:RV) (k:Ex->aA->Option RV) (hk:∀ s',rs=qs->k (.exit 0) s'=some r) (hr:∀ s':aA,rs≠qs->(s'.env 4).v=.bool false->k .ret s'=some r) :
  ∀ (n i:Nat),i + n=rs.length->(rs.drop i=qs.drop i ↔ rs=qs)->∀ s':aA,(s'.env 0).v=.sl b1 (rs.map RD)->(s'.env 1).v=.sl b2 (qs.map RD)->(s'.env 12).v=.int .i64 rs.length->(s'.env 13).v=.int .i64 i->OI jA rA RB s' k=some r:=by
 intro n
 induction n with
 | zero =>
  intro i hi hf s' e0 e1 e12 kh;have da:¬ ((i:Int)<rs.length):=by omega
  refine tA ?_;simp [RB,-V,AC,J,e12,kh,da];exact hk _ (hf.1 (by rw [ye (by omega),ye (by omega)]))
 | succ n ih =>
  intro i hi hf s' e0 e1 e12 kh;have da:(i:Int)<rs.length:=by omega
  have oe:i<rs.length:=by omega
  have ph:i<qs.length:=by omega
  have hw:=ZA (i:=i);have g1:(rs.map RD)[i]?=some (RD rs[i]):=by simp [oe]
  have g2:(qs.map RD)[i]?=some (RD qs[i]):=by simp [ph]
  rw [yb oe,yb ph] at hf;simp only [List.cons.injEq] at hf;generalize rs[i]=x at *
  generalize qs[i]=y at *
  obtain ⟨xi,xd⟩:=x;obtain ⟨yi,yd⟩:=y;simp only [RD] at g1 g2;simp only [IS.mk.injEq] at hf;refine tA ?_;by_cases h1:xi=yi
  ·by_cases h2:xd=yd
   ·subst h1 h2;simp [RB,-V,AC,J,e0,e1,e12,kh,da,g1,g2,zL,hw];refine ih (i + 1) (by omega) (by simpa using hf) _ ?_ ?_ ?_ ?_ <;> simp [*]
   ·subst h1;simp [RB,-V,AC,J,e0,e1,e12,kh,da,g1,g2,zL,h2];exact hr _ (fun h=>h2 (hf.2 h).1.2) (by simp)
  ·simp [RB,-V,AC,J,e0,e1,e12,kh,da,g1,g2,zL,h1];exact hr _ (fun h=>h1 (hf.2 h).1.1) (by simp)
theorem syms_ev (rs qs:List IS) (hl:rs.length<=9223372036854775807) (b1 b2:Bool):gA 252 [.sl b1 (rs.map RD),.sl b2 (qs.map RD)] (.bool (decide (rs=qs))):=by
 refine wA (c:=JC) rfl rfl ?_;by_cases he:rs.length=qs.length
 ·simp [JC,-V,AC,J,he];refine syms_lp rs qs hl he b1 b2 _ _ (fun s' hf=>?main) (fun s' hf h4=>?main2) rs.length 0 (by simp) (by simp) _ ?_ ?_ ?_ ?_
  case main=>simp [-V,AC,J,hf]
  case main2=>simp [-V,AC,J,hf,h4]
  all_goals simp [he]
 ·have zg:¬ (rs.length:Int)=qs.length:=by omega
  have na:rs≠qs:=fun h=>he (by rw [h])
  simp [JC,-V,AC,J,zg,na]
theorem eqm_lp (l m:List BB) (hl:l.length<=9223372036854775807) (he:l.length=m.length) (hF:∀ x∈l,x.ok) (b1 b2:Bool) (r:RV) (k:Ex->aA->Option RV) (hk:∀ s',aB l m=true->k (.exit 0) s'=some r) (hr:∀ s':aA,aB l m=false->(s'.env 6).v=.bool false->k .ret s'=some r) :
  ∀ (n i:Nat),i + n=l.length->aB (l.drop i) (m.drop i)=aB l m->∀ s':aA,(s'.env 1).v=.sl b2 (m.map nA)->(s'.env 2).v=.fn 254 []->(s'.env 15).v=.sl b1 (l.map nA)->(s'.env 16).v=.int .i64 l.length->(s'.env 17).v=.int .i64 i->OI jA rA IB s' k=some r:=by
 intro n
 induction n with
 | zero =>
  intro i hi hf s' e1 e2 ue wd mh;have da:¬ ((i:Int)<l.length):=by omega
  refine tA ?_;simp [IB,-V,AC,J,wd,mh,da];refine hk _ ?_;rw [<- hf,ye (by omega),ye (by omega),aB]
 | succ n ih =>
  intro i hi hf s' e1 e2 ue wd mh;have da:(i:Int)<l.length:=by omega
  have oe:i<l.length:=by omega
  have ph:i<m.length:=by omega
  have hw:=ZA (i:=i);have g1:(l.map nA)[i]?=some (nA l[i]):=by simp [oe]
  have g2:(m.map nA)[i]?=some (nA m[i]):=by simp [ph]
  have hx:=msame_ev l[i] m[i] (hF l[i] (y6 _));rw [yb oe,yb ph,aB] at hf;generalize l[i]=x at *
  generalize m[i]=y at *
  simp only [gA,nA] at g1 g2 hx;refine tA ?_;cases h1:x.same y with
  | true =>
   rw [h1] at hx hf;simp [IB,-V,AC,J,e1,e2,ue,wd,mh,da,g1,g2,qG,OD,hx,hw];refine ih (i + 1) (by omega) (by simpa using hf) _ ?_ ?_ ?_ ?_ ?_ <;> simp [*]
  | false =>
   rw [h1] at hx hf;simp [IB,-V,AC,J,e1,e2,ue,wd,mh,da,g1,g2,qG,OD,hx];exact hr _ (by simpa using hf.symm) (by simp)
theorem eqm_ev (l m:List BB) (hl:l.length<=9223372036854775807) (hF:∀ x∈l,x.ok) (b1 b2:Bool):gA 253 [.sl b1 (l.map nA),.sl b2 (m.map nA),.fn 254 []] (.bool (aB l m)):=by
 refine wA (c:=XB) rfl rfl ?_;by_cases he:l.length=m.length
 ·simp [XB,-V,AC,J,he];refine eqm_lp l m hl he hF b1 b2 _ _ (fun s' hf=>?main) (fun s' hf h4=>?main2) l.length 0 (by simp) (by simp) _ ?_ ?_ ?_ ?_ ?_
  case main=>simp [-V,AC,J,hf]
  case main2=>simp [-V,AC,J,hf,h4]
  all_goals simp [he]
 ·have zg:¬ (l.length:Int)=m.length:=by omega
  simp [XB,-V,AC,J,zg,uO l m he]
theorem tsame_ev (t u:fA) (ht:t.ok):gA 237 [.agg (eA t),.agg (eA u)] (.bool (t.same u)):=by
 have hs:=syms_ev t.syms u.syms ht.1 t.sn u.sn;have hm:=eqm_ev t.mems u.mems ht.2.1 ht.2.2 t.mn u.mn;simp only [gA] at hs hm;refine wA (c:=HB) rfl rfl ?_;unfold fA.same eA;by_cases h1:t.kind=u.kind
 ·by_cases h2:t.name=u.name
  ·by_cases h3:t.low=u.low
   ·by_cases h4:t.high=u.high
    ·by_cases h5:t.max=u.max
     ·by_cases h6:t.key=u.key
      ·by_cases h7:t.elem=u.elem
       ·by_cases h8:t.opn=u.opn
        ·by_cases h9:t.syms=u.syms
         ·rw [decide_eq_true h9] at hs;simp [HB,-V,AC,J,h1,h2,h3,h4,h5,h6,h7,h8,hs,h9 ▸ hs,h9,qG,OD,hm]
         ·rw [decide_eq_false h9] at hs;simp [HB,-V,AC,J,h1,h2,h3,h4,h5,h6,h7,h8,hs,h9]
        ·simp [HB,-V,AC,J,h1,h2,h3,h4,h5,h6,h7,h8]
       ·simp [HB,-V,AC,J,h1,h2,h3,h4,h5,h6,h7]
      ·simp [HB,-V,AC,J,h1,h2,h3,h4,h5,h6]
     ·simp [HB,-V,AC,J,h1,h2,h3,h4,h5]
    ·simp [HB,-V,AC,J,h1,h2,h3,h4]
   ·simp [HB,-V,AC,J,h1,h2,h3]
  ·simp [HB,-V,AC,J,h1,h2]
 ·simp [HB,-V,AC,J,h1]
abbrev kA (t:fA):List qA:=[⟨.int .i64 t.kind,.no⟩,⟨.str t.name,.no⟩,⟨.int .i64 t.low,.no⟩,⟨.int .i64 t.high,.no⟩,⟨.int .i64 t.max,.no⟩,⟨.sl t.sn (t.syms.map RD),.no⟩,⟨.sl t.mn (t.mems.map nA),.no⟩,⟨.int .i64 t.key,.no⟩,⟨.int .i64 t.elem,.no⟩,⟨.bool t.opn,.no⟩]
theorem rsyms_lp (v w:fA) (hl:v.syms.length<=9223372036854775807) (he:v.syms.length=w.syms.length) (m:Nat) (r:RV) (k:Ex->aA->Option RV)
  (hk:∀ s':aA,v.syms=w.syms->(s'.env 2).v=.ptr 2 m 0->(s'.env 3).v=.ptr 3 m 0->s'.mem 2 m=some (kA v)->s'.mem 3 m=some (kA w)->k (.exit 0) s'=some r) (hr:∀ s':aA,v.syms≠w.syms->(s'.env 4).v=.bool false->k .ret s'=some r) :
  ∀ (n i:Nat),i + n=v.syms.length->(v.syms.drop i=w.syms.drop i ↔ v.syms=w.syms)->∀ s':aA,(s'.env 2).v=.ptr 2 m 0->(s'.env 3).v=.ptr 3 m 0->s'.mem 2 m=some (kA v)->s'.mem 3 m=some (kA w)->(s'.env 5).v=.int .i64 i->OI jA rA UD s' k=some r:=by
 intro n
 induction n with
 | zero =>
  intro i hi hf s' e2 e3 m2 m3 e5;have da:¬ ((i:Int)<v.syms.length):=by omega
  refine tA ?_;simp [UD,-V,AC,J,e2,e3,m2,m3,e5,da];exact hk _ (hf.1 (by rw [ye (by omega),ye (by omega)])) (by simp [e2]) (by simp [e3]) (by simp [m2]) (by simp [m3])
 | succ n ih =>
  intro i hi hf s' e2 e3 m2 m3 e5;have da:(i:Int)<v.syms.length:=by omega
  have oe:i<v.syms.length:=by omega
  have ph:i<w.syms.length:=by omega
  have hw:=ZA (i:=i);have g1:(v.syms.map RD)[i]?=some (RD v.syms[i]):=by simp [oe]
  have g2:(w.syms.map RD)[i]?=some (RD w.syms[i]):=by simp [ph]
  rw [yb oe,yb ph] at hf;simp only [List.cons.injEq] at hf;generalize v.syms[i]=x at *
  generalize w.syms[i]=y at *
  obtain ⟨xi,xd⟩:=x;obtain ⟨yi,yd⟩:=y;simp only [RD] at g1 g2;simp only [IS.mk.injEq] at hf;refine tA ?_;by_cases h1:xi=yi
  ·by_cases h2:xd=yd
   ·subst h1 h2;simp [UD,-V,AC,J,e2,e3,m2,m3,e5,da,g1,g2,zL,hw];refine ih (i + 1) (by omega) (by simpa using hf) _ ?_ ?_ ?_ ?_ ?_ <;> simp [*]
   ·subst h1;simp [UD,-V,AC,J,e2,e3,m2,m3,e5,da,g1,g2,zL,h2];exact hr _ (fun h=>h2 (hf.2 h).1.2) (by simp)
  ·simp [UD,-V,AC,J,e2,e3,m2,m3,e5,da,g1,g2,zL,h1];exact hr _ (fun h=>h1 (hf.2 h).1.1) (by simp)
theorem rmems_lp (v w:fA) (hl:v.mems.length<=9223372036854775807) (hF:∀ x∈v.mems,x.ok) (he:v.mems.length=w.mems.length) (m:Nat) (r:RV) (k:Ex->aA->Option RV)
  (hk:∀ s':aA,aB v.mems w.mems=true->k (.exit 2) s'=some r) (hr:∀ s':aA,aB v.mems w.mems=false->(s'.env 4).v=.bool false->k .ret s'=some r) :
  ∀ (n i:Nat),i + n=v.mems.length->aB (v.mems.drop i) (w.mems.drop i)=aB v.mems w.mems->∀ s':aA,(s'.env 2).v=.ptr 2 m 0->(s'.env 3).v=.ptr 3 m 0->s'.mem 2 m=some (kA v)->s'.mem 3 m=some (kA w)->(s'.env 6).v=.int .i64 i->OI jA rA mE s' k=some r:=by
 intro n
 induction n with
 | zero =>
  intro i hi hf s' e2 e3 m2 m3 e6;have da:¬ ((i:Int)<v.mems.length):=by omega
  refine tA ?_;simp [mE,-V,AC,J,e2,e3,m2,m3,e6,da];refine hk _ ?_;rw [<- hf,ye (by omega),ye (by omega),aB]
 | succ n ih =>
  intro i hi hf s' e2 e3 m2 m3 e6;have da:(i:Int)<v.mems.length:=by omega
  have oe:i<v.mems.length:=by omega
  have ph:i<w.mems.length:=by omega
  have hw:=ZA (i:=i);have g1:(v.mems.map nA)[i]?=some (nA v.mems[i]):=by simp [oe]
  have g2:(w.mems.map nA)[i]?=some (nA w.mems[i]):=by simp [ph]
  have hx:=rmsame_ev v.mems[i] w.mems[i] (hF _ (y6 _));rw [yb oe,yb ph,aB] at hf;generalize v.mems[i]=x at *
  generalize w.mems[i]=y at *
  simp only [gA,nA] at g1 g2 hx;refine tA ?_;cases h1:x.same y with
  | true =>
   rw [h1] at hx hf;simp [mE,-V,AC,J,e2,e3,m2,m3,e6,da,g1,g2,qG,hx,hw];refine ih (i + 1) (by omega) (by simpa using hf) _ ?_ ?_ ?_ ?_ ?_ <;> simp [*]
  | false =>
   rw [h1] at hx hf;simp [mE,-V,AC,J,e2,e3,m2,m3,e6,da,g1,g2,qG,hx];exact hr _ (by simpa using hf.symm) (by simp)
theorem rtsame_ev (t u:fA) (ht:t.ok):gA 208 [.agg (eA t),.agg (eA u)] (.bool (t.same u)):=by
 refine wA (c:=dB) rfl rfl ?_;unfold fA.same eA;by_cases h1:t.kind=u.kind
 ·by_cases h2:t.name=u.name
  ·by_cases h3:t.low=u.low
   ·by_cases h4:t.high=u.high
    ·by_cases h5:t.max=u.max
     ·by_cases h6:t.key=u.key
      ·by_cases h7:t.elem=u.elem
       ·by_cases h8:t.opn=u.opn
        ·by_cases h9:t.syms.length=u.syms.length
         ·by_cases pr:t.mems.length=u.mems.length
          ·simp [dB,-V,AC,J,h1,h2,h3,h4,h5,h6,h7,h8,h9,pr];refine rsyms_lp t u ht.1 h9 1 _ _ (fun s' io e2 e3 m2 m3=>?main) (fun s' io e4=>?main2) t.syms.length 0 (by simp) (by simp) _ ?_ ?_ ?_ ?_ ?_
           case main =>
            simp [-V,AC,J,io];refine rmems_lp t u ht.2.1 ht.2.2 pr 1 _ _ (fun s' jo=>?a) (fun s' jo e4=>?b) t.mems.length 0 (by simp) (by simp) _ ?_ ?_ ?_ ?_ ?_
            case a=>simp [-V,AC,J,jo]
            case b=>simp [-V,AC,J,jo,e4]
            all_goals simp [e2,e3,m2,m3]
           case main2=>simp [-V,AC,J,io,e4]
           all_goals simp [h1,h2,h3,h4,h5,h6,h7,h8]
          ·have h10':¬ (t.mems.length:Int)=u.mems.length:=by omega
           simp [dB,-V,AC,J,h1,h2,h3,h4,h5,h6,h7,h8,h9,h10',uO _ _ pr]
         ·have h9':¬ (t.syms.length:Int)=u.syms.length:=by omega
          have io:¬ t.syms=u.syms:=fun h=>h9 (by rw [h])
          simp [dB,-V,AC,J,h1,h2,h3,h4,h5,h6,h7,h8,h9',io]
        ·simp [dB,-V,AC,J,h1,h2,h3,h4,h5,h6,h7,h8]
       ·simp [dB,-V,AC,J,h1,h2,h3,h4,h5,h6,h7]
      ·simp [dB,-V,AC,J,h1,h2,h3,h4,h5,h6]
     ·simp [dB,-V,AC,J,h1,h2,h3,h4,h5]
    ·simp [dB,-V,AC,J,h1,h2,h3,h4]
   ·simp [dB,-V,AC,J,h1,h2,h3]
  ·simp [dB,-V,AC,J,h1,h2]
 ·simp [dB,-V,AC,J,h1]
theorem anN_t (a:An):AC true a=.ex:=rfl
theorem anN_f (a:An):AC false a=a:=rfl
theorem anN_ex (b:Bool):AC b .ex=.ex:=by cases b <;> rfl
attribute [simp] anN_t anN_f anN_ex
theorem xA {b:C} {r:RV} (n:Nat) (I:Nat->aA->Prop) (E:Ex->aA->Prop)
  (step:∀ i,i<=n->∀ s k,I i s->(i<n->∀ s',I (i + 1) s'->OI jA rA b s' k=some r)->(∀ e s',E e s'->k e s'=some r)->OI jA rA b s k=some r)
  (s:aA) (k:Ex->aA->Option RV) (h:I 0 s) (hk:∀ e s',E e s'->k e s'=some r):OI jA rA b s k=some r:=by
 have:∀ m i,i + m=n->∀ s,I i s->OI jA rA b s k=some r:=by
  intro m
  induction m with
  | zero=>intro i hi s h; exact step i (by omega) s k h (fun da=>absurd da (by omega)) hk
  | succ m ih=>intro i hi s h; exact step i (by omega) s k h (fun _ s' h'=>ih (i + 1) (by omega) s' h') hk
 exact this n 0 (by omega) s h
instance memStr (s:ByteArray) (l:List ByteArray):Decidable (s∈l):=@List.instDecidableMemOfLawfulBEq _ instBEqOfDecidableEq _ s l
def FQ (s:ByteArray) (l:List ByteArray):Bool:=decide (s∈l)
theorem UR {s:ByteArray} {l:List ByteArray} (h:s∈l):FQ s l=true:=decide_eq_true h
theorem TR {s:ByteArray} {l:List ByteArray} (h:¬ s∈l):FQ s l=false:=decide_eq_false h
def GQ (b n:Int):Bool:=decide (b<n)&&decide (1<=n)&&decide (n<=1000)
def TC:Int->List ByteArray->List (Int × ByteArray)->Bool
 | _,_,[]=>true
 | b,seen,(n,s) :: r=>GQ b n&&!FQ s seen&&QF s&&TC n (seen++[s]) r
def JZ (x:Int × ByteArray):List AV:=[.int .i64 x.1]
def nmC (x:Int × ByteArray):List AV:=[.str x.2]
def CI (s:ByteArray):List AV:=[.str s,.bool true]
theorem lX (s:ByteArray):∀ l:List ByteArray,DI (l.map CI) (.str s)=if s∈l then some (AV.bool true) else none
 | []=>rfl
 | x :: r=>by
  simp only [yg,CI,DI,TO];by_cases h:x=s
  ·simp [h]
  ·have h':¬ s=x:=fun e=>h e.symm
   have:=lX s r;simp [h,h',this]
theorem zX (s:ByteArray):∀ l:List ByteArray,¬ s∈l->lG (l.map CI) (.str s) (.bool true)=(l++[s]).map CI
 | [],_=>rfl
 | x :: r,hn=>by
  have h:¬ x=s:=fun e=>hn (by simp [e])
  have:=zX s r fun e=>hn (by simp [e])
  simp [CI,lG,TO,h,this]
theorem F1:∀ l:List ByteArray,AI .none (l.map CI)=true
 | []=>rfl
 | x :: r=>by
  have:=F1 r;simp only [AI] at this;simp [AI,CI,NF,AV.flat,AV.scal]
def pE (l:List (Int × ByteArray)):Nat->Int
 | 0=>0
 | i + 1=>match l[i]? with
  | some x=>x.1
  | none=>0
theorem ids_ev (l:List (Int × ByteArray)) (hl:l.length<=9223372036854775807) (b1 b2:Bool):gA 250 [.sl b1 (l.map JZ),.sl b2 (l.map nmC)] (.bool (TC 0 [] l&&decide (l.length<=16))):=by
 refine wA (c:=PL) rfl rfl ?_;simp [PL,-V,-y3,-y0,J];refine xA l.length (fun i s=>(s.env 0).v=.sl b1 (l.map JZ)/\(s.env 1).v=.sl b2 (l.map nmC)/\(s.env 5).v=.mp 8 2/\(s.env 9).v=.sl b1 (l.map JZ)/\(s.env 10).v=.int .i64 l.length/\(s.env 11).v=.int .i64 i/\s.obj 8 2=some (OG (((l.take i).map (·.2)).map CI))/\TC (pE l i) ((l.take i).map (·.2)) (l.drop i)=TC 0 [] l)
  (fun e s=>(e=.exit 0/\TC 0 [] l=true/\(s.env 0).v=.sl b1 (l.map JZ))\/(e=.ret/\TC 0 [] l=false/\(s.env 4).v=.bool false)) (fun i hi s k h ih hk=>?_) _ _ ?_ (fun e s h=>?_)
 ·obtain ⟨e0,e1,e5,e9,e10,e11,o,hs⟩:=h;refine tA ?_;by_cases da:i<l.length
  ·have fa:(i:Int)<l.length:=by omega
   have g1:(l.map JZ)[i]?=some (JZ l[i]):=by simp [da]
   have g2:(l.map nmC)[i]?=some (nmC l[i]):=by simp [da]
   have hw:=ZA (i:=i);have ht:l.take (i + 1)=l.take i++[l[i]]:=(yH da).symm;have hp:pE l (i + 1)=l[i].1:=by simp [pE,da]
   have hn:=name_ev l[i].2;rw [yb da,TC] at hs;generalize hx:l[i]=x at *
   generalize hsn:(l.take i).map (·.2)=seen at *
   have hg:=lX x.2 seen;have bn:=F1 seen;simp only [JZ,nmC] at g1 g2;have hprev:(0<(i:Int)->∃ p,(l.map JZ)[i - 1]?=some [.int .i64 p]/\pE l i=p):=fun h0=>by
    obtain ⟨j,rfl⟩:∃ j,i=j + 1:=⟨i - 1,by omega⟩;exact ⟨l[j].1,by simp [JZ,show j<l.length from by omega],by simp [pE,show j<l.length from by omega]⟩
   have fail:∀ s',(s'.env 4).v=.bool false->(GQ (pE l i) x.1&&!FQ x.2 seen&&QF x.2)=false->k .ret s'=some (.bool (TC 0 [] l&&decide (l.length<=16)),none):=fun s' h4 hf=>hk _ _ (.inr ⟨rfl,by rw [<- hs,hf]; rfl,h4⟩)
   obtain ⟨z,hz⟩:∃ z:Int,z=i:=⟨_,rfl⟩;have gc:0<=z:=by omega
   have hzt:z.toNat=i:=by omega
   have fk:z<l.length:=by omega
   have jr:IntKind.i64.wrap (z + 1)=((i + 1:Nat):Int):=by rw [hz]; exact hw
   rw [<- hz] at e11;rw [<- hzt] at g1 g2;by_cases c1:x.1<1
   ·simp [EB,-V,-y3,-y0,J,e0,e1,e5,e9,e10,e11,fk,gc,g1,c1];exact fail _ (by simp) (by simp [GQ,show ¬ 1<=x.1 from by omega])
   by_cases c2:1000<x.1
   ·simp [EB,-V,-y3,-y0,J,e0,e1,e5,e9,e10,e11,fk,gc,g1,c1,c2];exact fail _ (by simp) (by simp [GQ,show ¬ x.1<=1000 from by omega])
   have rest:(¬ 0<z\/∃ y p,0<z/\IntKind.i64.wrap (z - 1)=y/\0<=y/\(l.map JZ)[y.toNat]?=some [.int .i64 p]/\¬ x.1<=p)->pE l i<x.1->EB.run (wH jA rA) (HK jA rA) s (uM (OI jA rA) EB k)=some (.bool (TC 0 [] l&&decide (l.length<=16)),none):=by
    intro h0 xp;by_cases c5:x.2∈seen
    ·rw [if_pos c5] at hg;rcases h0 with c3 | ⟨y,p,c3,hy,ii,ai,hp3⟩
     ·simp [EB,-V,-y3,-y0,J,e0,e1,e5,e9,e10,e11,fk,gc,g1,g2,c1,c2,c3,o,XE,bn,NF,AV.flat,AV.scal,hg];exact fail _ (by simp) (by simp [UR c5])
     ·simp [EB,-V,-y3,-y0,J,e0,e1,e5,e9,e10,e11,fk,gc,g1,g2,c1,c2,c3,hy,ii,ai,hp3,o,XE,bn,NF,AV.flat,AV.scal,hg];exact fail _ (by simp) (by simp [UR c5])
    ·rw [if_neg c5] at hg;have db:=zX x.2 seen c5;cases c6:QF x.2 with
     | false =>
      rw [c6] at hn;rcases h0 with c3 | ⟨y,p,c3,hy,ii,ai,hp3⟩
      ·simp [EB,-V,-y3,-y0,J,e0,e1,e5,e9,e10,e11,fk,gc,g1,g2,c1,c2,c3,o,XE,bn,NF,AV.flat,AV.scal,hg,hn];exact fail _ (by simp) (by simp [c6])
      ·simp [EB,-V,-y3,-y0,J,e0,e1,e5,e9,e10,e11,fk,gc,g1,g2,c1,c2,c3,hy,ii,ai,hp3,o,XE,bn,NF,AV.flat,AV.scal,hg,hn];exact fail _ (by simp) (by simp [c6])
     | true =>
      rw [c6] at hn;have ji:TC x.1 (seen++[x.2]) (l.drop (i + 1))=TC 0 [] l:=by rw [<- hs]; simp [GQ,TR c5,c6,xp,show 1<=x.1 from by omega,show x.1<=1000 from by omega]
      rcases h0 with c3 | ⟨y,p,c3,hy,ii,ai,hp3⟩
      ·simp [EB,-V,-y3,-y0,J,e0,e1,e5,e9,e10,e11,fk,gc,g1,g2,c1,c2,c3,o,XE,bn,NF,AV.flat,AV.scal,hg,hn,db,jr];refine ih da _ ⟨?_,?_,?_,?_,?_,?_,?_,?_⟩ <;> simp [ht,hsn,hp,ji,e0,e1,e5,e9,e10]
      ·simp [EB,-V,-y3,-y0,J,e0,e1,e5,e9,e10,e11,fk,gc,g1,g2,c1,c2,c3,hy,ii,ai,hp3,o,XE,bn,NF,AV.flat,AV.scal,hg,hn,db,jr];refine ih da _ ⟨?_,?_,?_,?_,?_,?_,?_,?_⟩ <;> simp [ht,hsn,hp,ji,e0,e1,e5,e9,e10]
   by_cases c3:0<(i:Int)
   ·obtain ⟨p,jx,ai⟩:=hprev c3;have c3z:0<z:=by omega
    have xx:IntKind.i64.wrap (z - 1)=((i - 1:Nat):Int):=by rw [IntWalk.i64_in _ (by omega)]; omega
    obtain ⟨y,hy⟩:∃ y:Int,y=((i - 1:Nat):Int):=⟨_,rfl⟩;have ii:0<=y:=by omega
    rw [<- hy] at xx;rw [show i - 1=y.toNat from by omega] at jx;by_cases c4:x.1<=p
    ·simp [EB,-V,-y3,-y0,J,e0,e1,e5,e9,e10,e11,fk,gc,g1,c1,c2,c3z,xx,ii,jx,c4];exact fail _ (by simp) (by simp [GQ,ai,show ¬ p<x.1 from by omega])
    ·exact rest (.inr ⟨y,p,c3z,xx,ii,jx,c4⟩) (by rw [ai]; omega)
   ·have h0:i=0:=by omega
    subst h0;exact rest (.inl (by omega)) (by simp only [pE]; omega)
  ·have fa:¬ (i:Int)<l.length:=by omega
   simp [EB,-V,-y3,-y0,J,e10,e11,fa];refine hk _ _ (.inl ⟨rfl,?_,by simp [e0]⟩);rw [<- hs,ye (by omega),TC]
 ·simp [OG,pE]
 ·rcases h with ⟨rfl,h1,h2⟩ | ⟨rfl,h1,h2⟩ <;> simp [-V,-y3,-y0,J,h1,h2]
  omega
def uI (x:IS):Int × ByteArray:=(x.id,x.name)
def zF (x:BB):Int × ByteArray:=(x.id,x.name)
def aN (l:List IS):Bool:=decide (0<l.length)&&(TC 0 [] (l.map uI)&&decide (l.length<=16))
theorem X7 (l:List IS) (hl:l.length<=8796093022206) (b:Bool):gA 235 [.sl b (l.map RD)] (.bool (aN l)):=by
 refine wA (c:=EH) rfl rfl ?_;have fh:=fun b1 b2=>ids_ev (l.map uI) (by simp; omega) b1 b2
 simp only [gA] at fh;simp [EH,-V,-y3,-y0,J];refine xA l.length (fun i s=>(s.env 0).v=.sl b (l.map RD)/\(s.env 7).v=.sl b (l.map RD)/\(s.env 8).v=.int .i64 l.length/\(s.env 9).v=.int .i64 i/\(s.env 3).v=.sl (l.take i).isEmpty (((l.take i).map uI).map JZ)/\(s.env 4).v=.sl (l.take i).isEmpty (((l.take i).map uI).map nmC)/\((s.env 3).a=.ex/\(s.env 4).a=.ex\/(l.take i).isEmpty=false/\(s.env 3).a=.own 17 3/\(s.env 4).a=.own 22 9))
  (fun e s=>e=.exit 0/\(s.env 0).v=.sl b (l.map RD)/\(s.env 3).v=.sl l.isEmpty ((l.map uI).map JZ)/\(s.env 4).v=.sl l.isEmpty ((l.map uI).map nmC)) (fun i hi s k h ih hk=>?_) _ _ ?_ (fun e s h=>?_)
 ·obtain ⟨e0,e7,e8,e9,e3,e4,an⟩:=h;refine tA ?_;by_cases da:i<l.length
  ·have fa:(i:Int)<l.length:=by omega
   have g1:(l.map RD)[i]?=some (RD l[i]):=by simp [da]
   have hw:=ZA (i:=i);have ht:l.take (i + 1)=l.take i++[l[i]]:=(yH da).symm;generalize l[i]=x at *
   simp only [RD] at g1;have ja:(l.take i).length=i:=by simp; omega
   generalize l.take i=t at *
   have mf:eB 8 (t.length + 1)=true:=by rw [EA]; omega
   have sh:eB 16 (t.length + 1)=true:=by rw [EA]; omega
   have q1:lB 1 ((t.map uI).map JZ)=true:=cC _ _ _ fun _=>rfl
   have q2:lB 1 ((t.map uI).map nmC)=true:=cC _ _ _ fun _=>rfl
   rcases an with ⟨a3,a4⟩ | ⟨a0,a3,a4⟩
   ·simp [UF,-V,-y3,-y0,J,e0,e7,e8,e9,e3,e4,a3,a4,fa,g1,hw,mf,sh,q1,q2];refine ih da _ ⟨?_,?_,?_,?_,?_,?_,?_⟩ <;> simp [ht,e0,e7,e8,JZ,nmC,uI]
   ·simp [UF,-V,-y3,-y0,J,e0,e7,e8,e9,e3,e4,a0,a3,a4,fa,g1,hw,mf,sh,q1,q2];refine ih da _ ⟨?_,?_,?_,?_,?_,?_,?_⟩ <;> simp [ht,e0,e7,e8,JZ,nmC,uI]
  ·have fa:¬ (i:Int)<l.length:=by omega
   simp [UF,-V,-y3,-y0,J,e8,e9,fa];rw [yx (by omega)] at e3 e4;exact hk _ _ ⟨rfl,by simp [e0],by simp [e3],by simp [e4]⟩
 ·simp
 ·obtain ⟨rfl,e0,e3,e4⟩:=h;unfold aN;by_cases h0:0<l.length
  ·have we:(0:Int)<l.length:=by omega
   simp [-V,-y3,-y0,J,e0,e3,e4,h0,we,fh]
  ·have we:¬ (0:Int)<l.length:=by omega
   simp [-V,-y3,-y0,J,e0,e3,e4,h0,we]
theorem rid_ev (b n:Int):gA 226 [.int .i64 b,.int .i64 n] (.bool (GQ b n)):=by
 refine wA (c:=BN) rfl rfl ?_;unfold GQ;by_cases h1:b<n <;> by_cases h2:1<=n <;> simp [BN,-V,-y3,-y0,J,h1,h2]
theorem A5 (l:List IS) (hl:l.length<=8796093022206) (b:Bool):gA 211 [.sl b (l.map RD)] (.bool (aN l)):=by
 refine wA (c:=jI) rfl rfl ?_;simp [jI,-V,-y3,-y0,J];have g0:∀ j,j<l.length->∃ x,l[j]?=some x:=fun j hj=>⟨l[j],by simp [hj]⟩
 refine xA l.length (fun i s=>(s.env 0).v=.sl b (l.map RD)/\(s.env 3).v=.int .i64 (pE (l.map uI) i)/\(s.env 4).v=.int .i64 i/\TC (pE (l.map uI) i) ((l.map uI).take i |>.map (·.2)) ((l.map uI).drop i)=TC 0 [] (l.map uI))
  (fun e s=>(e=.exit 0/\TC 0 [] (l.map uI)=true/\(s.env 0).v=.sl b (l.map RD))\/(e=.ret/\TC 0 [] (l.map uI)=false/\(s.env 2).v=.bool false)) (fun i hi s k h ih hk=>?_) _ _ ?_ (fun e s h=>?_)
 ·obtain ⟨e0,e3,e4,hs⟩:=h;refine tA ?_;by_cases da:i<l.length
  ·have fa:(i:Int)<l.length:=by omega
   have g1:(l.map RD)[i]?=some (RD l[i]):=by simp [da]
   have hw:=ZA (i:=i);have kf:i<(l.map uI).length:=by simpa using da
   have hp:pE (l.map uI) (i + 1)=l[i].id:=by simp [pE,da,uI]
   have hn:=rX l[i].name;have MO:=rid_ev (pE (l.map uI) i) l[i].id;have ne:(l.map uI)[i]=uI l[i]:=by simp
   have ht:((l.map uI).take (i + 1)).map (·.2)=((l.map uI).take i).map (·.2)++[l[i].name]:=by rw [<- yH kf,ne]; simp [uI]
   rw [yb kf,ne] at hs;obtain ⟨x,hx⟩:∃ x,x=l[i]:=⟨_,rfl⟩;rw [<- hx] at g1 hp hn MO ht hs;simp only [uI,TC] at hs;have fail:∀ s',(s'.env 2).v=.bool false->(GQ (pE (l.map uI) i) x.id&&!FQ x.name (((l.map uI).take i).map (·.2))&&QF x.name)=false->k .ret s'=some (.bool (aN l),none):=fun s' h4 hf=>hk _ _ (.inr ⟨rfl,by rw [<- hs,hf]; rfl,h4⟩)
   simp only [gA] at hn MO;simp only [RD] at g1;cases c1:GQ (pE (l.map uI) i) x.id with
   | false =>
    rw [c1] at MO;simp [DE,-V,-y3,-y0,J,e0,e3,e4,fa,g1,MO];exact fail _ (by simp) (by simp [c1])
   | true =>
    rw [c1] at MO;cases c2:QF x.name with
    | false =>
     rw [c2] at hn;simp [DE,-V,-y3,-y0,J,e0,e3,e4,fa,g1,MO,hn];exact fail _ (by simp) (by simp [c2])
    | true =>
     rw [c2] at hn;simp [DE,-V,-y3,-y0,J,e0,e3,e4,fa,g1,MO,hn];have jm:((l.map uI).take i).map (·.2)=(l.take i).map IS.name:=by simp [<- List.map_take,uI,Function.comp_def]
     refine xA i (fun j s=>(s.env 0).v=.sl b (l.map RD)/\(s.env 4).v=.int .i64 i/\(s.env 5).v=.int .i64 j/\¬ x.name∈(l.take j).map IS.name)
      (fun e s=>(e=.exit 2/\¬ x.name∈(l.take i).map IS.name/\(s.env 0).v=.sl b (l.map RD)/\(s.env 4).v=.int .i64 i)\/(e=.ret/\x.name∈(l.take i).map IS.name/\(s.env 2).v=.bool false)) (fun j hj s k' h zx tc=>?_) _ _ ?_ (fun e s h=>?_)
     ·obtain ⟨e0,e4,e5,hm⟩:=h;refine tA ?_;by_cases hji:j<i
      ·have wj:(j:Int)<i:=by omega
       have g2:(l.map RD)[j]?=some (RD l[j]):=by simp [show j<l.length from by omega]
       have xv:=ZA (i:=j);have htj:l.take (j + 1)=l.take j++[l[j]]:=(yH (by omega)).symm;simp only [RD] at g2;by_cases xf:l[j].name=x.name
       ·simp [iG,-V,-y3,-y0,J,e0,e4,e5,wj,g1,g2,xf];refine tc _ _ (.inr ⟨rfl,?_,by simp⟩);rw [<- xf];exact yN (List.mem_take_iff_getElem.2 ⟨j,by omega,rfl⟩)
       ·simp [iG,-V,-y3,-y0,J,e0,e4,e5,wj,g1,g2,xf,xv];refine zx hji _ ⟨?_,?_,?_,?_⟩
        ·simp [e0]
        ·simp [e4]
        ·simp
        ·rw [htj,yS,yt];rintro (h | h)
         ·exact hm h
         ·simp at h; exact xf h.symm
      ·have wj:¬ (j:Int)<i:=by omega
       have hjj:j=i:=by omega
       simp [iG,-V,-y3,-y0,J,e4,e5,wj];exact tc _ _ (.inl ⟨rfl,hjj ▸ hm,by simp [e0],by simp [e4]⟩)
     ·simp [e0,e4]
     ·rcases h with ⟨rfl,h1,e0,e4⟩ | ⟨rfl,h1,e2⟩
      ·simp [-V,-y3,-y0,J,e0,e4,g1,hw];refine ih da _ ⟨?_,?_,?_,?_⟩
       ·simp [e0]
       ·simp [hp]
       ·simp
       ·rw [hp,ht,<- hs,c1,c2,jm,TR h1];rfl
      ·simp [-V,-y3,-y0,J];exact fail _ e2 (by rw [jm,UR h1]; simp)
  ·have fa:¬ (i:Int)<l.length:=by omega
   simp [DE,-V,-y3,-y0,J,e0,e4,fa];refine hk _ _ (.inl ⟨rfl,?_,by simp [e0]⟩);rw [<- hs,ye (by simp; omega),TC]
 ·simp [pE]
 ·unfold aN;rcases h with ⟨rfl,h1,e0⟩ | ⟨rfl,h1,e2⟩
  ·by_cases h0:0<l.length
   ·have we:(1:Int)<=l.length:=by omega
    simp [-V,-y3,-y0,J,e0,h0,we,h1];omega
   ·have we:¬ (1:Int)<=l.length:=by omega
    simp [-V,-y3,-y0,J,e0,h0,we,h1]
  ·simp [-V,-y3,-y0,J,h1,e2]
theorem blank_ev (v:Vl) (hv:v.ok):gA 251 [.agg (zA v)] (.bool (v.same Vl.zero)):=by
 have h:=same_ev _ v Vl.zero (Nat.lt_succ_self _) hv;refine wA (c:=nJ) rfl rfl ?_;simp only [gA,iA,Vl.zero,Vl.kind,Vl.b,Vl.i,Vl.s,Vl.id,Vl.kn,Vl.keys,Vl.xn,Vl.items,Vl.rn,Vl.rest,yn] at h ⊢;simp [nJ,-V,-y3,-y0,J,h]
theorem rblank_ev (v:Vl) (hv:v.ok):gA 189 [.agg (zA v),.agg [.int .i64 0,.bool false,.int .i64 0,.str ⟨#[]⟩,.int .i64 0,.sl true [],.sl true [],.sl true []]] (.bool (v.same Vl.zero)):=by
 have h:=fX _ v Vl.zero (Nat.lt_succ_self _) hv;simp only [gA,iA,Vl.zero,Vl.kind,Vl.b,Vl.i,Vl.s,Vl.id,Vl.kn,Vl.keys,Vl.xn,Vl.items,Vl.rn,Vl.rest,yn] at h ⊢;exact h
def WB (rec:Bool) (m:BB):Bool:=!(!rec&&(m.crit||m.has))&&!(m.crit&&m.has)&&(m.has||m.dflt.same Vl.zero)
def dH (rec:Bool) (l:List BB):Bool:=l.all (WB rec)&&((rec||decide (0<l.length))&&(TC 0 [] (l.map zF)&&decide (l.length<=16)))
theorem z7 (t:fA) (ht:t.ok) (hl:t.mems.length<=8796093022206) (hk:t.kind=5\/t.kind=6):gA 236 [.agg (eA t)] (.bool (dH (decide (t.kind=5)) t.mems)):=by
 obtain ⟨rc,hrc⟩:∃ rc,rc=decide (t.kind=5):=⟨_,rfl⟩;have hk:t.kind=5/\rc=true\/t.kind=6/\rc=false:=by
  rcases hk with h | h
  ·exact .inl ⟨h,by rw [hrc,h]; rfl⟩
  ·exact .inr ⟨h,by rw [hrc,h]; rfl⟩
 rw [<- hrc];clear hrc;refine wA (c:=WH) rfl rfl ?_;have fh:=fun b1 b2=>ids_ev (t.mems.map zF) (by simp; omega) b1 b2
 simp only [gA] at fh;simp [WH,-V,-y3,-y0,J,eA];refine xA t.mems.length (fun i s=>(s.env 1).v=.ptr 1 1 0/\s.mem 1 1=some (kA t)/\(s.env 8).v=.sl t.mn (t.mems.map nA)/\(s.env 9).v=.int .i64 t.mems.length/\(s.env 10).v=.int .i64 i/\(s.env 3).v=.sl (t.mems.take i).isEmpty (((t.mems.take i).map zF).map JZ)/\(s.env 4).v=.sl (t.mems.take i).isEmpty (((t.mems.take i).map zF).map nmC)/\((t.mems.take i).isEmpty=(t.mems.take i).isEmpty/\(s.env 3).a=.ex/\(s.env 4).a=.ex\/(t.mems.take i).isEmpty=false/\(s.env 3).a=.own 18 3/\(s.env 4).a=.own 23 9)/\(t.mems.drop i).all (WB rc)=t.mems.all (WB rc))
  (fun e s=>(e=.exit 0/\t.mems.all (WB rc)=true/\(s.env 1).v=.ptr 1 1 0/\s.mem 1 1=some (kA t)/\(s.env 3).v=.sl t.mems.isEmpty ((t.mems.map zF).map JZ)/\(s.env 4).v=.sl t.mems.isEmpty ((t.mems.map zF).map nmC))\/(e=.ret/\t.mems.all (WB rc)=false/\(s.env 2).v=.bool false)) (fun i hi s k h ih tc=>?_) _ _ ?_ (fun e s h=>?_)
 ·obtain ⟨e1,m1,e8,e9,e10,e3,e4,an,hs⟩:=h;refine tA ?_;by_cases da:i<t.mems.length
  ·have fa:(i:Int)<t.mems.length:=by omega
   have g1:(t.mems.map nA)[i]?=some (nA t.mems[i]):=by simp [da]
   have hw:=ZA (i:=i);have rx:t.mems.take (i + 1)=t.mems.take i++[t.mems[i]]:=(yH da).symm;have eg:=blank_ev t.mems[i].dflt (ht.2.2 _ (y6 _)).1;rw [yb da,List.all_cons] at hs;generalize t.mems[i]=x at *
   simp only [nA] at g1;simp only [gA,iA] at eg;have ja:(t.mems.take i).length=i:=by simp; omega
   generalize hq:t.mems.take i=q at *
   have mf:eB 8 (q.length + 1)=true:=by rw [EA]; omega
   have sh:eB 16 (q.length + 1)=true:=by rw [EA]; omega
   have q1:lB 1 ((q.map zF).map JZ)=true:=cC _ _ _ fun _=>rfl
   have q2:lB 1 ((q.map zF).map nmC)=true:=cC _ _ _ fun _=>rfl
   have fail:∀ s',(s'.env 2).v=.bool false->WB rc x=false->k .ret s'=some (.bool (dH rc t.mems),none):=fun s' h4 hf=>tc _ _ (.inr ⟨rfl,by rw [<- hs,hf]; rfl,h4⟩)
   have good:WB rc x=true->(t.mems.drop (i + 1)).all (WB rc)=t.mems.all (WB rc):=fun h=>by rw [<- hs,h]; rfl
   generalize hB:t.mems.all (WB rc)=B at *
   cases hg:WB rc x with
   | false =>
    cases hz:x.dflt.same Vl.zero <;> rw [hz] at eg <;> rcases hk with ⟨h5,rfl⟩ | ⟨h5,rfl⟩ <;> cases hc:x.crit <;> cases hh:x.has <;> first | (simp [WB,hc,hh,hz] at hg; done) | skip
    all_goals rcases an with ⟨a0,a3,a4⟩ | ⟨a0,a3,a4⟩ <;>
     simp [TF,-V,-y3,-y0,J,e1,m1,e8,e9,e10,e3,e4,a0,a3,a4,fa,g1,hw,mf,sh,q1,q2,hc,hh,h5,eg]
    all_goals exact fail _ (by simp) hg
   | true =>
    have good:=good hg;cases hz:x.dflt.same Vl.zero <;> rw [hz] at eg <;> rcases hk with ⟨h5,rfl⟩ | ⟨h5,rfl⟩ <;> cases hc:x.crit <;> cases hh:x.has <;> first | (simp [WB,hc,hh,hz] at hg; done) | skip
    all_goals rcases an with ⟨a0,a3,a4⟩ | ⟨a0,a3,a4⟩ <;>
     simp [TF,-V,-y3,-y0,J,e1,m1,e8,e9,e10,e3,e4,a0,a3,a4,fa,g1,hw,mf,sh,q1,q2,hc,hh,h5,eg]
    all_goals refine ih da _ ⟨?_,?_,?_,?_,?_,?_,?_,?_,good⟩
    all_goals simp [rx,e1,m1,e8,e9,JZ,nmC,zF,An.strip]
  ·have fa:¬ (i:Int)<t.mems.length:=by omega
   simp [TF,-V,-y3,-y0,J,e9,e10,fa];rw [yx (by omega)] at e3 e4;rw [ye (by omega)] at hs;exact tc _ _ (.inl ⟨rfl,hs.symm,by simp [e1],by simp [m1],by simp [e3],by simp [e4]⟩)
 ·simp
 ·unfold dH;rcases h with ⟨rfl,h1,e1,m1,e3,e4⟩ | ⟨rfl,h1,e2⟩
  ·rw [h1];rcases hk with ⟨h5,rfl⟩ | ⟨h5,rfl⟩
   ·simp [-V,-y3,-y0,J,e1,m1,e3,e4,h5,fh]
   ·by_cases h0:0<t.mems.length
    ·have we:(0:Int)<t.mems.length:=by omega
     simp [-V,-y3,-y0,J,e1,m1,e3,e4,h5,h0,we,fh]
    ·have we:¬ (0:Int)<t.mems.length:=by omega
     simp [-V,-y3,-y0,J,e1,m1,e3,e4,h5,h0,we]
  ·simp [-V,-y3,-y0,J,h1,e2]
theorem W5 (l:List BB) (hl:l.length<=8796093022206) (ra:∀ m∈l,m.ok) (b rec:Bool):gA 212 [.sl b (l.map nA),.bool rec] (.bool (dH rec l)):=by
  refine wA (c:=gI) rfl rfl ?_;simp [gI,-V,-y3,-y0,J];refine xA l.length (fun i s=>(s.env 0).v=.sl b (l.map nA)/\(s.env 1).v=.bool rec/\(s.env 5).v=.int .i64 (pE (l.map zF) i)/\(s.env 6).v=.int .i64 i/\(TC (pE (l.map zF) i) ((l.map zF).take i |>.map (·.2)) ((l.map zF).drop i)&&(l.drop i).all (WB rec))=(TC 0 [] (l.map zF)&&l.all (WB rec)))
    (fun e s=>(e=.exit 0/\(TC 0 [] (l.map zF)&&l.all (WB rec))=true/\(s.env 0).v=.sl b (l.map nA)/\(s.env 1).v=.bool rec)\/(e=.ret/\(TC 0 [] (l.map zF)&&l.all (WB rec))=false/\(s.env 4).v=.bool false)) (fun i hi s k h ih hk=>?_) _ _ ?_ (fun e s h=>?_)
  · obtain ⟨e0,e1,e5,e6,hs⟩:=h
    refine tA ?_;by_cases da:i<l.length
    · have fa:(i:Int)<l.length:=by omega
      have g1:(l.map nA)[i]?=some (nA l[i]):=by simp [da]
      have hw:=ZA (i:=i);have kf:i<(l.map zF).length:=by simpa using da
      have hp:pE (l.map zF) (i + 1)=l[i].id:=by simp [pE,da,zF]
      have hn:=rX l[i].name;have MO:=rid_ev (pE (l.map zF) i) l[i].id;have eg:=rblank_ev l[i].dflt (ra _ (y6 _)).1;have ne:(l.map zF)[i]=zF l[i]:=by simp
      have ht:((l.map zF).take (i + 1)).map (·.2)=((l.map zF).take i).map (·.2)++[l[i].name]:=by rw [<- yH kf,ne]; simp [zF]
      rw [yb kf,ne,yb da,List.all_cons] at hs;obtain ⟨x,hx⟩:∃ x,x=l[i]:=⟨_,rfl⟩;rw [<- hx] at g1 hp hn MO ht hs eg;simp only [TC] at hs;have hs2:((GQ (pE (l.map zF) i) x.id&&!FQ x.name (((l.map zF).take i).map (·.2))&&QF x.name&&WB rec x)&&(TC x.id (((l.map zF).take i).map (·.2)++[x.name]) ((l.map zF).drop (i + 1))&&(l.drop (i + 1)).all (WB rec)))=(TC 0 [] (l.map zF)&&l.all (WB rec)):=by
        rw [<- hs];simp only [zF,Bool.and_assoc];congr 1;congr 1;congr 1;rw [<- Bool.and_assoc,<- Bool.and_assoc,Bool.and_comm (WB rec x)]
      clear hs;have fail:∀ s',(s'.env 4).v=.bool false->(GQ (pE (l.map zF) i) x.id&&!FQ x.name (((l.map zF).take i).map (·.2))&&QF x.name&&WB rec x)=false->k .ret s'=some (.bool (dH rec l),none):=fun s' h4 hf=>hk _ _ (.inr ⟨rfl,by rw [<- hs2,hf]; rfl,h4⟩)
      simp only [gA,iA] at hn MO eg;simp only [nA] at g1;cases c1:GQ (pE (l.map zF) i) x.id with
      | false =>
        rw [c1] at MO;simp [BD,-V,-y3,-y0,J,e0,e1,e5,e6,fa,g1,MO];exact fail _ (by simp) (by simp [c1])
      | true =>
        rw [c1] at MO;cases c2:QF x.name with
        | false =>
          rw [c2] at hn;simp [BD,-V,-y3,-y0,J,e0,e1,e5,e6,fa,g1,MO,hn];exact fail _ (by simp) (by simp [c2])
        | true =>
          rw [c2] at hn;have jm:((l.map zF).take i).map (·.2)=(l.take i).map BB.name:=by simp [<- List.map_take,zF,Function.comp_def]
          have inner:∀ s:aA,WB rec x=true->(s.env 0).v=.sl b (l.map nA)->(s.env 1).v=.bool rec->(s.env 6).v=.int .i64 i->(s.env 8).v=.int .i64 0->∀ p,(s.env 7).v=.ptr 7 p 0->s.mem 7 p=some ((nA x).map (⟨·,.no⟩)) →
              ∀ k2:Ex->aA->Option RV,(∀ s',(s'.env 4).v=.bool false->k2 .ret s'=k .ret s')->(∀ s',(s'.env 0).v=.sl b (l.map nA)->(s'.env 1).v=.bool rec->(s'.env 6).v=.int .i64 i->(s'.env 7).v=.ptr 7 p 0->s'.mem 7 p=some ((nA x).map (⟨·,.no⟩))->¬ x.name∈(l.take i).map BB.name->k2 (.exit 2) s'=some (.bool (dH rec l),none)) →
              OI jA rA SE s k2=some (.bool (dH rec l),none):=by
            intro s hgood e0 e1 e6 e8 p e7 m7 k2 hk2 hk3;refine xA i (fun j s=>(s.env 0).v=.sl b (l.map nA)/\(s.env 1).v=.bool rec/\(s.env 6).v=.int .i64 i/\(s.env 7).v=.ptr 7 p 0/\s.mem 7 p=some ((nA x).map (⟨·,.no⟩))/\(s.env 8).v=.int .i64 j/\¬ x.name∈(l.take j).map BB.name)
              (fun e s=>(e=.exit 2/\¬ x.name∈(l.take i).map BB.name/\(s.env 0).v=.sl b (l.map nA)/\(s.env 1).v=.bool rec/\(s.env 6).v=.int .i64 i/\(s.env 7).v=.ptr 7 p 0/\s.mem 7 p=some ((nA x).map (⟨·,.no⟩)))\/(e=.ret/\x.name∈(l.take i).map BB.name/\(s.env 4).v=.bool false)) (fun j hj s k' h zx tc=>?_) _ _ ?_ (fun e s h=>?_)
            · obtain ⟨e0,e1,e6,e7,m7,e8,hm⟩:=h
              refine tA ?_;by_cases hji:j<i
              · have wj:(j:Int)<i:=by omega
                have g2:(l.map nA)[j]?=some (nA l[j]):=by simp [show j<l.length from by omega]
                have xv:=ZA (i:=j);have htj:l.take (j + 1)=l.take j++[l[j]]:=(yH (by omega)).symm;simp only [nA,yg,yn] at g2 m7;by_cases xf:l[j].name=x.name
                · simp [SE,-V,-y3,-y0,J,e0,e1,e6,e7,m7,e8,wj,g1,g2,xf]
                  refine tc _ _ (.inr ⟨rfl,?_,by simp⟩);rw [<- xf];exact yN (List.mem_take_iff_getElem.2 ⟨j,by omega,rfl⟩)
                · simp [SE,-V,-y3,-y0,J,e0,e1,e6,e7,m7,e8,wj,g1,g2,xf,xv]
                  refine zx hji _ ⟨?_,?_,?_,?_,?_,?_,?_⟩
                  · simp [e0]
                  · simp [e1]
                  · simp [e6]
                  · simp [e7]
                  · simp [m7,nA]
                  · simp
                  · rw [htj,yS,yt]
                    rintro (h | h)
                    · exact hm h
                    · simp at h; exact xf h.symm
              · have wj:¬ (j:Int)<i:=by omega
                have hjj:j=i:=by omega
                simp [SE,-V,-y3,-y0,J,e6,e8,wj];exact tc _ _ (.inl ⟨rfl,hjj ▸ hm,by simp [e0],by simp [e1],by simp [e6],by simp [e7],by simp [m7]⟩)
            · simp [e0,e1,e6,e7,e8,m7]
            · rcases h with ⟨rfl,h1,e0,e1,e6,e7,m7⟩ | ⟨rfl,h1,e4⟩
              · exact hk3 s e0 e1 e6 e7 m7 h1
              · rw [hk2 _ e4]
                exact fail _ e4 (by rw [jm,UR h1]; simp)
          have next:∀ s',(s'.env 0).v=.sl b (l.map nA)->(s'.env 1).v=.bool rec->(s'.env 5).v=.int .i64 x.id->(s'.env 6).v=.int .i64 ((i + 1:Nat):Int)->WB rec x=true->¬ x.name∈(l.take i).map BB.name->OI jA rA BD s' k=some (.bool (dH rec l),none):=fun s' f0 f1 f5 f6 hg jb=>ih da _ ⟨f0,f1,by rw [hp]; exact f5,f6,by rw [hp,ht,<- hs2,c1,c2,hg,jm,TR jb]; rfl⟩
          cases hz:x.dflt.same Vl.zero <;> rw [hz] at eg <;> cases rec <;> cases hc:x.crit <;> cases hh:x.has <;>
            simp [BD,-V,-y3,-y0,J,e0,e1,e5,e6,fa,g1,MO,hn,hc,hh,eg] <;>
            first
            | exact fail _ (by simp) (by simp [WB,hc,hh,hz])
            | (refine inner _ (by simp [WB,hc,hh,hz]) ?_ ?_ ?_ ?_ (s.next + 1) ?_ ?_ _ ?_ ?_
               · simp [e0]
               · simp [e1]
               · simp [e6]
               · simp
               · simp
               · simp [nA,hc,hh]
               · intro s' _; rfl
               · intro s' f0 f1 f6 f7 fm jb
                 simp only [nA,yg,yn] at fm;simp [-V,-y3,-y0,J,f0,f1,f6,f7,fm,hw];refine next _ ?_ ?_ ?_ ?_ (by simp [WB,hc,hh,hz]) jb <;> simp [f0,f1])
    · have fa:¬ (i:Int)<l.length:=by omega
      simp [BD,-V,-y3,-y0,J,e0,e6,fa];refine hk _ _ (.inl ⟨rfl,?_,by simp [e0],by simp [e1]⟩);rw [<- hs,ye (by simp; omega),ye (by omega),TC];rfl
  · simp [pE]
  · unfold dH
    rcases h with ⟨rfl,h1,e0,e1⟩ | ⟨rfl,h1,e2⟩
    · rw [y7] at h1
      rw [h1.1,h1.2];by_cases h16:l.length<=16
      · have sr:(l.length:Int)<=16:=by omega
        cases rec
        · by_cases h0:0<l.length
          · have we:(1:Int)<=l.length:=by omega
            simp [-V,-y3,-y0,J,e0,e1,h0,we,h16,sr]
          · have we:¬ (1:Int)<=l.length:=by omega
            simp [-V,-y3,-y0,J,e0,e1,h0,we,h16,sr]
        · simp [-V,-y3,-y0,J,e0,e1,h16,sr]
      · have sr:¬ (l.length:Int)<=16:=by omega
        simp [-V,-y3,-y0,J,e0,e1,h16,sr]
    · have:(l.all (WB rec)&&((rec||decide (0<l.length))&&(TC 0 [] (l.map zF)&&decide (l.length<=16))))=false:=by
        rw [Bool.and_eq_false_iff] at h1;rcases h1 with h1 | h1 <;> simp [h1]
      rw [this];simp [-V,-y3,-y0,J,e2]
mutual
theorem Vl.same_refl:∀ v:Vl,v.same v=true
 | .mk k b i s d kn ks xn xs rn rs=>by rw [Vl.same]; simp [Vl.sames_refl ks,Vl.sames_refl xs]
theorem Vl.sames_refl:∀ l:List Vl,Vl.sames l l=true
 | []=>by rw [Vl.sames]
 | v :: r=>by rw [Vl.sames]; simp [Vl.same_refl v,Vl.sames_refl r]
end
theorem BB.same_refl (m:BB):m.same m=true:=by simp [BB.same,Vl.same_refl]
theorem EQ:∀ l:List BB,aB l l=true
 | []=>rfl
 | m :: r=>by simp [aB,BB.same_refl,EQ r]
def CB:fA:=⟨0,⟨#[]⟩,0,0,0,true,[],true,[],0,0,false⟩
def fA.left (t:fA):fA :=
 if t.kind=1 then { t with kind:=0 }
 else if t.kind=2 then { t with kind:=0,low:=0,high:=0 }
 else if t.kind=3 then { t with kind:=0,max:=0 }
 else if t.kind=4 then { t with kind:=0,name:=⟨#[]⟩,sn:=true,syms:=[],opn:=false }
 else if t.kind=5 then { t with kind:=0,name:=⟨#[]⟩,mn:=true,mems:=[] }
 else if t.kind=6 then { t with kind:=0,name:=⟨#[]⟩,mn:=true,mems:=[],opn:=false }
 else if t.kind=7 then { t with kind:=0,max:=0,elem:=0 }
 else if t.kind=8 then { t with kind:=0,max:=0,elem:=0,key:=0 }
 else { t with kind:=0,elem:=0 }
def PH (t:fA):Bool :=
 if t.kind=2 then decide (t.low<=t.high)
 else if t.kind=3 then decide (0<=t.max)&&decide (t.max<=200)
 else if t.kind=4 then QF t.name&&aN t.syms
 else if t.kind=5 then QF t.name&&dH true t.mems
 else if t.kind=6 then QF t.name&&dH false t.mems
 else if t.kind=7\/t.kind=8 then decide (0<=t.max)&&decide (t.max<=50)
 else true
def bB (t:fA):Bool:=decide (1<=t.kind/\t.kind<=9)&&(PH t&&t.left.same CB)
def fA.fine (t:fA):Prop:=t.ok/\t.syms.length<=8796093022206/\t.mems.length<=8796093022206
theorem NR {t u:fA} (h:t.ok) (h1:u.syms=t.syms\/u.syms=[]) (h2:u.mems=t.mems\/u.mems=[]):u.ok:=by
 refine ⟨?_,?_,?_⟩
 ·rcases h1 with h1 | h1
  ·rw [h1]; exact h.1
  ·rw [h1]; simp
 ·rcases h2 with h2 | h2
  ·rw [h2]; exact h.2.1
  ·rw [h2]; simp
 ·rcases h2 with h2 | h2
  ·rw [h2]; exact h.2.2
  ·rw [h2]; simp
theorem left_ok {t:fA} (h:t.ok):t.left.ok:=by
 unfold fA.left;by_cases h1:t.kind=1
 ·rw [if_pos h1]; exact NR h (.inl rfl) (.inl rfl)
 by_cases h2:t.kind=2
 ·rw [if_neg h1,if_pos h2]; exact NR h (.inl rfl) (.inl rfl)
 by_cases h3:t.kind=3
 ·rw [if_neg h1,if_neg h2,if_pos h3]; exact NR h (.inl rfl) (.inl rfl)
 by_cases h4:t.kind=4
 ·rw [if_neg h1,if_neg h2,if_neg h3,if_pos h4]; exact NR h (.inr rfl) (.inl rfl)
 by_cases h5:t.kind=5
 ·rw [if_neg h1,if_neg h2,if_neg h3,if_neg h4,if_pos h5]; exact NR h (.inl rfl) (.inr rfl)
 by_cases h6:t.kind=6
 ·rw [if_neg h1,if_neg h2,if_neg h3,if_neg h4,if_neg h5,if_pos h6]; exact NR h (.inl rfl) (.inr rfl)
 rw [if_neg h1,if_neg h2,if_neg h3,if_neg h4,if_neg h5,if_neg h6];by_cases h7:t.kind=7
 ·rw [if_pos h7]; exact NR h (.inl rfl) (.inl rfl)
 by_cases h8:t.kind=8
 ·rw [if_neg h7,if_pos h8]; exact NR h (.inl rfl) (.inl rfl)
 rw [if_neg h7,if_neg h8]; exact NR h (.inl rfl) (.inl rfl)
theorem kinds (k:Int):k=1\/k=2\/k=3\/k=4\/k=5\/k=6\/k=7\/k=8\/k=9\/¬ (1<=k/\k<=9):=by omega
def RH (n:Int):List AV:=[.int .i64 n]
def fA.usesL (t:fA):List Int:=(t.mems.map BB.ty++(if t.kind=8 then [t.key] else []))++(if 7<=t.kind then [t.elem] else [])
section
variable (t:fA) (hl:t.mems.length<=8796093022206)
include t hl
theorem uses_lp (r:RV) (k:Ex->aA->Option RV)
  (hk:∀ s':aA,(s'.env 1).v=.ptr 1 1 0->s'.mem 1 1=some (kA t)->(s'.env 3).v=.sl t.mems.isEmpty ((t.mems.map BB.ty).map RH)->(t.mems.isEmpty=t.mems.isEmpty/\(s'.env 3).a=.ex\/t.mems.isEmpty=false/\(s'.env 3).a=.own 17 3)->k (.exit 0) s'=some r)
  (s:aA) (h1:(s.env 1).v=.ptr 1 1 0) (h2:s.mem 1 1=some (kA t)) (h3:(s.env 7).v=.sl t.mn (t.mems.map nA)) (h4:(s.env 8).v=.int .i64 t.mems.length) (h5:(s.env 9).v=.int .i64 0) (h6:(s.env 3).v=.sl true []) (h7:(s.env 3).a=.ex):OI jA rA ZF s k=some r:=by
 refine xA t.mems.length (fun i s=>(s.env 1).v=.ptr 1 1 0/\s.mem 1 1=some (kA t)/\(s.env 7).v=.sl t.mn (t.mems.map nA)/\(s.env 8).v=.int .i64 t.mems.length/\(s.env 9).v=.int .i64 i/\(s.env 3).v=.sl (t.mems.take i).isEmpty (((t.mems.take i).map BB.ty).map RH)/\((t.mems.take i).isEmpty=(t.mems.take i).isEmpty/\(s.env 3).a=.ex\/(t.mems.take i).isEmpty=false/\(s.env 3).a=.own 17 3))
  (fun e s=>e=.exit 0/\(s.env 1).v=.ptr 1 1 0/\s.mem 1 1=some (kA t)/\(s.env 3).v=.sl t.mems.isEmpty ((t.mems.map BB.ty).map RH)/\(t.mems.isEmpty=t.mems.isEmpty/\(s.env 3).a=.ex\/t.mems.isEmpty=false/\(s.env 3).a=.own 17 3)) (fun i hi s k h ih hk=>?_) _ _ ?_ (fun e s h=>?_)
 ·obtain ⟨e1,m1,e7,e8,e9,e3,an⟩:=h;refine tA ?_;by_cases da:i<t.mems.length
  ·have fa:(i:Int)<t.mems.length:=by omega
   have g1:(t.mems.map nA)[i]?=some (nA t.mems[i]):=by simp [da]
   have hw:=ZA (i:=i);have ht:t.mems.take (i + 1)=t.mems.take i++[t.mems[i]]:=(yH da).symm;generalize t.mems[i]=x at *
   simp only [nA] at g1;have ja:(t.mems.take i).length=i:=by simp; omega
   generalize t.mems.take i=q at *
   have mf:eB 8 (q.length + 1)=true:=by rw [EA]; omega
   have q1:lB 1 ((q.map BB.ty).map RH)=true:=cC _ _ _ fun _=>rfl
   rcases an with ⟨a0,a3⟩ | ⟨a0,a3⟩
   ·simp [ZF,-V,-y3,-y0,J,e1,m1,e7,e8,e9,e3,a0,a3,fa,g1,hw,mf,q1];refine ih da _ ⟨?_,?_,?_,?_,?_,?_,?_⟩ <;> simp [ht,e1,m1,e7,e8,RH,An.strip]
   ·simp [ZF,-V,-y3,-y0,J,e1,m1,e7,e8,e9,e3,a0,a3,fa,g1,hw,mf,q1];refine ih da _ ⟨?_,?_,?_,?_,?_,?_,?_⟩ <;> simp [ht,e1,m1,e7,e8,RH,An.strip]
  ·have fa:¬ (i:Int)<t.mems.length:=by omega
   simp [ZF,-V,-y3,-y0,J,e8,e9,fa];rw [yx (by omega)] at e3 an;exact hk _ _ ⟨rfl,by simp [e1],by simp [m1],by simp [e3],by simpa using an⟩
 ·simp [h1,h2,h3,h4,h5,h6,h7]
 ·obtain ⟨rfl,e1,m1,e3,an⟩:=h;exact hk s e1 m1 e3 an
theorem uses_ev (b:Bool) (hb:b=t.usesL.isEmpty):gA 222 [.agg (eA t)] (.sl b (t.usesL.map RH)):=by
 subst hb;refine wA (c:=DK) rfl rfl ?_;simp [DK,-V,-y3,-y0,J,eA];refine uses_lp t hl _ _ (fun s e1 m1 e3 an=>?_) _ ?_ ?_ ?_ ?_ ?_ ?_ ?_
 ·have q1:lB 1 ((t.mems.map BB.ty).map RH)=true:=cC _ _ _ fun _=>rfl
  have mf:eB 8 (t.mems.length + 1)=true:=by rw [EA]; omega
  have sh:eB 8 (t.mems.length + 1 + 1)=true:=by rw [EA]; omega
  unfold fA.usesL;by_cases h8:t.kind=8
  ·rcases an with ⟨a0,a3⟩ | ⟨a0,a3⟩
   ·simp [-V,-y3,-y0,J,e1,m1,e3,a0,a3,h8,q1,mf,sh,RH]
   ·simp [-V,-y3,-y0,J,e1,m1,e3,a0,a3,h8,q1,mf,sh,RH]
  ·by_cases h7:7<=t.kind
   ·rcases an with ⟨a0,a3⟩ | ⟨a0,a3⟩
    ·simp [-V,-y3,-y0,J,e1,m1,e3,a0,a3,h8,h7,q1,mf,sh,RH]
    ·simp [-V,-y3,-y0,J,e1,m1,e3,a0,a3,h8,h7,q1,mf,sh,RH]
   ·simp [-V,-y3,-y0,J,e1,m1,e3,h8,h7]
 all_goals simp
theorem ruses_lp (r:RV) (k:Ex->aA->Option RV)
  (hk:∀ s':aA,(s'.env 1).v=.ptr 1 1 0->s'.mem 1 1=some (kA t)->(s'.env 3).v=.sl t.mems.isEmpty ((t.mems.map BB.ty).map RH)->(t.mems.isEmpty=t.mems.isEmpty/\(s'.env 3).a=.ex\/t.mems.isEmpty=false/\(s'.env 3).a=.own 20 3)->k (.exit 0) s'=some r)
  (s:aA) (h1:(s.env 1).v=.ptr 1 1 0) (h2:s.mem 1 1=some (kA t)) (h5:(s.env 4).v=.int .i64 0) (h6:(s.env 3).v=.sl true []) (h7:(s.env 3).a=.ex):OI jA rA nG s k=some r:=by
 refine xA t.mems.length (fun i s=>(s.env 1).v=.ptr 1 1 0/\s.mem 1 1=some (kA t)/\(s.env 4).v=.int .i64 i/\(s.env 3).v=.sl (t.mems.take i).isEmpty (((t.mems.take i).map BB.ty).map RH)/\((t.mems.take i).isEmpty=(t.mems.take i).isEmpty/\(s.env 3).a=.ex\/(t.mems.take i).isEmpty=false/\(s.env 3).a=.own 20 3))
  (fun e s=>e=.exit 0/\(s.env 1).v=.ptr 1 1 0/\s.mem 1 1=some (kA t)/\(s.env 3).v=.sl t.mems.isEmpty ((t.mems.map BB.ty).map RH)/\(t.mems.isEmpty=t.mems.isEmpty/\(s.env 3).a=.ex\/t.mems.isEmpty=false/\(s.env 3).a=.own 20 3)) (fun i hi s k h ih hk=>?_) _ _ ?_ (fun e s h=>?_)
 ·obtain ⟨e1,m1,e9,e3,an⟩:=h;refine tA ?_;by_cases da:i<t.mems.length
  ·have fa:(i:Int)<t.mems.length:=by omega
   have g1:(t.mems.map nA)[i]?=some (nA t.mems[i]):=by simp [da]
   have hw:=ZA (i:=i);have ht:t.mems.take (i + 1)=t.mems.take i++[t.mems[i]]:=(yH da).symm;generalize t.mems[i]=x at *
   simp only [nA] at g1;have ja:(t.mems.take i).length=i:=by simp; omega
   generalize t.mems.take i=q at *
   have mf:eB 8 (q.length + 1)=true:=by rw [EA]; omega
   have q1:lB 1 ((q.map BB.ty).map RH)=true:=cC _ _ _ fun _=>rfl
   rcases an with ⟨a0,a3⟩ | ⟨a0,a3⟩
   ·simp [nG,-V,-y3,-y0,J,e1,m1,e9,e3,a0,a3,fa,g1,hw,mf,q1];refine ih da _ ⟨?_,?_,?_,?_,?_⟩ <;> simp [ht,e1,m1,RH,An.strip]
   ·simp [nG,-V,-y3,-y0,J,e1,m1,e9,e3,a0,a3,fa,g1,hw,mf,q1];refine ih da _ ⟨?_,?_,?_,?_,?_⟩ <;> simp [ht,e1,m1,RH,An.strip]
  ·have fa:¬ (i:Int)<t.mems.length:=by omega
   simp [nG,-V,-y3,-y0,J,e1,m1,e9,fa];rw [yx (by omega)] at e3 an;exact hk _ _ ⟨rfl,by simp [e1],by simp [m1],by simp [e3],by simpa using an⟩
 ·simp [h1,h2,h5,h6,h7]
 ·obtain ⟨rfl,e1,m1,e3,an⟩:=h;exact hk s e1 m1 e3 an
theorem ruses_ev (h9:t.kind<=9) (b:Bool) (hb:b=t.usesL.isEmpty):gA 181 [.agg (eA t)] (.sl b (t.usesL.map RH)):=by
 subst hb;refine wA (c:=TL) rfl rfl ?_;simp [TL,-V,-y3,-y0,J,eA];refine ruses_lp t hl _ _ (fun s e1 m1 e3 an=>?_) _ ?_ ?_ ?_ ?_ ?_
 ·have q1:lB 1 ((t.mems.map BB.ty).map RH)=true:=cC _ _ _ fun _=>rfl
  have mf:eB 8 (t.mems.length + 1)=true:=by rw [EA]; omega
  have sh:eB 8 (t.mems.length + 1 + 1)=true:=by rw [EA]; omega
  unfold fA.usesL;have hc:t.kind=8\/t.kind=7\/t.kind=9\/(¬ t.kind=8/\¬ t.kind=7/\¬ t.kind=9/\¬ 7<=t.kind):=by omega
  rcases hc with h | h | h | ⟨h8,h7,h9,h⟩
  ·rcases an with ⟨a0,a3⟩ | ⟨a0,a3⟩ <;> simp [-V,-y3,-y0,J,e1,m1,e3,a0,a3,h,q1,mf,sh,RH]
  ·rcases an with ⟨a0,a3⟩ | ⟨a0,a3⟩ <;> simp [-V,-y3,-y0,J,e1,m1,e3,a0,a3,h,q1,mf,sh,RH]
  ·rcases an with ⟨a0,a3⟩ | ⟨a0,a3⟩ <;> simp [-V,-y3,-y0,J,e1,m1,e3,a0,a3,h,q1,mf,sh,RH]
  ·simp [-V,-y3,-y0,J,e1,m1,e3,h8,h7,h9,h]
 all_goals simp
end
def kE (v:Vl):Bool :=
 (decide (v.kind=1)||!v.b)&&((decide (v.kind=2)||decide (v.i=0))&&((decide (v.kind=3)||decide (v.s=⟨#[]⟩))&&((decide (v.kind=4)||decide (v.kind=6)||decide (v.id=0))&&((decide (v.kind=8)||v.keys.isEmpty)&&((decide (5<=v.kind)||v.items.isEmpty)&&(decide (v.kind=5)||decide (v.kind=6)||v.rest.isEmpty))))))
def Vl.bare (v:Vl):Vl:=.mk v.kind (if v.kind=1 then v.b else false) (if v.kind=2 then v.i else 0) (if v.kind=3 then v.s else ⟨#[]⟩) (if v.kind=4\/v.kind=6 then v.id else 0)
 (if v.kind=8 then v.kn else true) (if v.kind=8 then v.keys else []) (if 5<=v.kind then v.xn else true) (if 5<=v.kind then v.items else []) (if v.kind=5\/v.kind=6 then v.rn else true) (if v.kind=5\/v.kind=6 then v.rest else [])
section
variable (v:Vl)
include v
theorem bare_ev1 (h:v.kind=1):gA 256 [.agg (zA v)] (.agg (zA v.bare)):=by
 refine wA (c:=gB) rfl rfl ?_;obtain ⟨k,b,i,s,d,kn,ks,xn,xs,rn,rs⟩:=v;have h:k=1:=h;subst h;rw [iA,iA];simp [gB,-V,-y3,-y0,J,Vl.bare,Vl.kind,Vl.b,Vl.i,Vl.s,Vl.id,Vl.kn,Vl.keys,Vl.xn,Vl.items,Vl.rn,Vl.rest]
theorem bare_ev2 (h:v.kind=2):gA 256 [.agg (zA v)] (.agg (zA v.bare)):=by
 refine wA (c:=gB) rfl rfl ?_;obtain ⟨k,b,i,s,d,kn,ks,xn,xs,rn,rs⟩:=v;have h:k=2:=h;subst h;rw [iA,iA];simp [gB,-V,-y3,-y0,J,Vl.bare,Vl.kind,Vl.b,Vl.i,Vl.s,Vl.id,Vl.kn,Vl.keys,Vl.xn,Vl.items,Vl.rn,Vl.rest]
theorem bare_ev3 (h:v.kind=3):gA 256 [.agg (zA v)] (.agg (zA v.bare)):=by
 refine wA (c:=gB) rfl rfl ?_;obtain ⟨k,b,i,s,d,kn,ks,xn,xs,rn,rs⟩:=v;have h:k=3:=h;subst h;rw [iA,iA];simp [gB,-V,-y3,-y0,J,Vl.bare,Vl.kind,Vl.b,Vl.i,Vl.s,Vl.id,Vl.kn,Vl.keys,Vl.xn,Vl.items,Vl.rn,Vl.rest]
theorem bare_ev4 (h:v.kind=4):gA 256 [.agg (zA v)] (.agg (zA v.bare)):=by
 refine wA (c:=gB) rfl rfl ?_;obtain ⟨k,b,i,s,d,kn,ks,xn,xs,rn,rs⟩:=v;have h:k=4:=h;subst h;rw [iA,iA];simp [gB,-V,-y3,-y0,J,Vl.bare,Vl.kind,Vl.b,Vl.i,Vl.s,Vl.id,Vl.kn,Vl.keys,Vl.xn,Vl.items,Vl.rn,Vl.rest]
theorem bare_ev5 (h:v.kind=5):gA 256 [.agg (zA v)] (.agg (zA v.bare)):=by
 refine wA (c:=gB) rfl rfl ?_;obtain ⟨k,b,i,s,d,kn,ks,xn,xs,rn,rs⟩:=v;have h:k=5:=h;subst h;rw [iA,iA];simp [gB,-V,-y3,-y0,J,Vl.bare,Vl.kind,Vl.b,Vl.i,Vl.s,Vl.id,Vl.kn,Vl.keys,Vl.xn,Vl.items,Vl.rn,Vl.rest]
theorem bare_ev6 (h:v.kind=6):gA 256 [.agg (zA v)] (.agg (zA v.bare)):=by
 refine wA (c:=gB) rfl rfl ?_;obtain ⟨k,b,i,s,d,kn,ks,xn,xs,rn,rs⟩:=v;have h:k=6:=h;subst h;rw [iA,iA];simp [gB,-V,-y3,-y0,J,Vl.bare,Vl.kind,Vl.b,Vl.i,Vl.s,Vl.id,Vl.kn,Vl.keys,Vl.xn,Vl.items,Vl.rn,Vl.rest]
theorem bare_ev7 (h:v.kind=7):gA 256 [.agg (zA v)] (.agg (zA v.bare)):=by
 refine wA (c:=gB) rfl rfl ?_;obtain ⟨k,b,i,s,d,kn,ks,xn,xs,rn,rs⟩:=v;have h:k=7:=h;subst h;rw [iA,iA];simp [gB,-V,-y3,-y0,J,Vl.bare,Vl.kind,Vl.b,Vl.i,Vl.s,Vl.id,Vl.kn,Vl.keys,Vl.xn,Vl.items,Vl.rn,Vl.rest]
theorem bare_ev8 (h:v.kind=8):gA 256 [.agg (zA v)] (.agg (zA v.bare)):=by
 refine wA (c:=gB) rfl rfl ?_;obtain ⟨k,b,i,s,d,kn,ks,xn,xs,rn,rs⟩:=v;have h:k=8:=h;subst h;rw [iA,iA];simp [gB,-V,-y3,-y0,J,Vl.bare,Vl.kind,Vl.b,Vl.i,Vl.s,Vl.id,Vl.kn,Vl.keys,Vl.xn,Vl.items,Vl.rn,Vl.rest]
theorem bare_ev9 (h:v.kind=9):gA 256 [.agg (zA v)] (.agg (zA v.bare)):=by
 refine wA (c:=gB) rfl rfl ?_;obtain ⟨k,b,i,s,d,kn,ks,xn,xs,rn,rs⟩:=v;have h:k=9:=h;subst h;rw [iA,iA];simp [gB,-V,-y3,-y0,J,Vl.bare,Vl.kind,Vl.b,Vl.i,Vl.s,Vl.id,Vl.kn,Vl.keys,Vl.xn,Vl.items,Vl.rn,Vl.rest]
theorem bare_ev (h:1<=v.kind/\v.kind<=9):gA 256 [.agg (zA v)] (.agg (zA v.bare)):=by
 rcases kinds v.kind with e | e | e | e | e | e | e | e | e | e
 ·exact bare_ev1 v e
 ·exact bare_ev2 v e
 ·exact bare_ev3 v e
 ·exact bare_ev4 v e
 ·exact bare_ev5 v e
 ·exact bare_ev6 v e
 ·exact bare_ev7 v e
 ·exact bare_ev8 v e
 ·exact bare_ev9 v e
 ·exact absurd h e
end
theorem W7 (v w:Vl) (hb:gA 256 [.agg (zA v)] (.agg (zA w))):gA 238 [.agg (zA v)] (.bool ((v.b == w.b)&&(decide (v.i=w.i)&&(decide (v.s=w.s)&&(decide (v.id=w.id)&&(decide (v.keys.length=w.keys.length)&&(decide (v.items.length=w.items.length)&&decide (v.rest.length=w.rest.length)))))))):=by
 refine wA (c:=RC) rfl rfl ?_;rw [iA,iA] at hb;rw [iA];simp only [gA] at hb;by_cases h1:v.b=w.b
 ·by_cases h2:v.i=w.i
  ·by_cases h3:v.s=w.s
   ·by_cases h4:v.id=w.id
    ·by_cases h5:v.keys.length=w.keys.length
     ·by_cases h6:v.items.length=w.items.length
      ·by_cases h7:v.rest.length=w.rest.length
       ·simp [RC,-V,-y3,-y0,J,hb,h1.symm,h2.symm,h3.symm,h4.symm,h5,h6,h7]
       ·have h7':¬ (v.rest.length:Int)=w.rest.length:=by omega
        simp [RC,-V,-y3,-y0,J,hb,h1.symm,h2.symm,h3.symm,h4.symm,h5,h6,h7,h7']
      ·have h6':¬ (v.items.length:Int)=w.items.length:=by omega
       simp [RC,-V,-y3,-y0,J,hb,h1.symm,h2.symm,h3.symm,h4.symm,h5,h6,h6']
     ·have h5':¬ (v.keys.length:Int)=w.keys.length:=by omega
      simp [RC,-V,-y3,-y0,J,hb,h1.symm,h2.symm,h3.symm,h4.symm,h5,h5']
    ·simp [RC,-V,-y3,-y0,J,hb,h1.symm,h2.symm,h3.symm,h4]
   ·simp [RC,-V,-y3,-y0,J,hb,h1.symm,h2.symm,h3]
  ·simp [RC,-V,-y3,-y0,J,hb,h1.symm,h2]
 ·simp [RC,-V,-y3,-y0,J,hb,h1]
theorem zero_bare {α β:Type} (k:Int) (h:1<=k/\k<=9) (b:Bool) (i:Int) (s:ByteArray) (d:Int) (ks xs:List α) (rs:List β) :
  ((decide (k=1)||!b)&&((decide (k=2)||decide (i=0))&&((decide (k=3)||decide (s=⟨#[]⟩))&&((decide (k=4)||decide (k=6)||decide (d=0))&&((decide (k=8)||ks.isEmpty)&&((decide (5<=k)||xs.isEmpty)&&(decide (k=5)||decide (k=6)||rs.isEmpty))))))) =
  ((b == (if k=1 then b else false))&&(decide (i=(if k=2 then i else 0))&&(decide (s=(if k=3 then s else ⟨#[]⟩))&&(decide (d=(if k=4\/k=6 then d else 0))&&(decide (ks.length=(if k=8 then ks else []).length)&&(decide (xs.length=(if 5<=k then xs else []).length)&&decide (rs.length=(if k=5\/k=6 then rs else []).length))))))):=by
 rcases kinds k with e | e | e | e | e | e | e | e | e | e
 all_goals first | exact absurd h e | skip
 all_goals cases b <;> cases ks <;> cases xs <;> cases rs <;> simp [e]
theorem proper_ev (v:Vl) (h:1<=v.kind/\v.kind<=9):gA 238 [.agg (zA v)] (.bool (kE v)):=by
 have r:=W7 v v.bare (bare_ev v h);have e:=zero_bare v.kind h v.b v.i v.s v.id v.keys v.items v.rest;unfold kE;rw [e];exact r
theorem rzero_ev1 (v:Vl) (h:v.kind=1):gA 182 [.agg (zA v)] (.bool (kE v)):=by
 refine wA (c:=pA) rfl rfl ?_;rw [iA];unfold kE;by_cases hi:v.i=0
 ·by_cases hs:v.s=⟨#[]⟩
  ·by_cases hd:v.id=0
   ·by_cases hk:v.keys=[]
    ·by_cases hx:v.items=[]
     ·by_cases hr:v.rest=[]
      ·simp [pA,-V,-y3,-y0,J,h,hi,hs,hd,hk,hx,hr]
      ·simp [pA,-V,-y3,-y0,J,h,hi,hs,hd,hk,hx,hr]
     ·simp [pA,-V,-y3,-y0,J,h,hi,hs,hd,hk,hx]
    ·simp [pA,-V,-y3,-y0,J,h,hi,hs,hd,hk]
   ·simp [pA,-V,-y3,-y0,J,h,hi,hs,hd]
  ·simp [pA,-V,-y3,-y0,J,h,hi,hs]
 ·simp [pA,-V,-y3,-y0,J,h,hi]
theorem rzero_ev2 (v:Vl) (h:v.kind=2):gA 182 [.agg (zA v)] (.bool (kE v)):=by
 refine wA (c:=pA) rfl rfl ?_;rw [iA];unfold kE;by_cases hb:v.b=false
 ·by_cases hs:v.s=⟨#[]⟩
  ·by_cases hd:v.id=0
   ·by_cases hk:v.keys=[]
    ·by_cases hx:v.items=[]
     ·by_cases hr:v.rest=[]
      ·simp [pA,-V,-y3,-y0,J,h,hb,hs,hd,hk,hx,hr]
      ·simp [pA,-V,-y3,-y0,J,h,hb,hs,hd,hk,hx,hr]
     ·simp [pA,-V,-y3,-y0,J,h,hb,hs,hd,hk,hx]
    ·simp [pA,-V,-y3,-y0,J,h,hb,hs,hd,hk]
   ·simp [pA,-V,-y3,-y0,J,h,hb,hs,hd]
  ·simp [pA,-V,-y3,-y0,J,h,hb,hs]
 ·simp [pA,-V,-y3,-y0,J,h,hb]
theorem rzero_ev3 (v:Vl) (h:v.kind=3):gA 182 [.agg (zA v)] (.bool (kE v)):=by
 refine wA (c:=pA) rfl rfl ?_;rw [iA];unfold kE;by_cases hb:v.b=false
 ·by_cases hi:v.i=0
  ·by_cases hd:v.id=0
   ·by_cases hk:v.keys=[]
    ·by_cases hx:v.items=[]
     ·by_cases hr:v.rest=[]
      ·simp [pA,-V,-y3,-y0,J,h,hb,hi,hd,hk,hx,hr]
      ·simp [pA,-V,-y3,-y0,J,h,hb,hi,hd,hk,hx,hr]
     ·simp [pA,-V,-y3,-y0,J,h,hb,hi,hd,hk,hx]
    ·simp [pA,-V,-y3,-y0,J,h,hb,hi,hd,hk]
   ·simp [pA,-V,-y3,-y0,J,h,hb,hi,hd]
  ·simp [pA,-V,-y3,-y0,J,h,hb,hi]
 ·simp [pA,-V,-y3,-y0,J,h,hb]
theorem rzero_ev4 (v:Vl) (h:v.kind=4):gA 182 [.agg (zA v)] (.bool (kE v)):=by
 refine wA (c:=pA) rfl rfl ?_;rw [iA];unfold kE;by_cases hb:v.b=false
 ·by_cases hi:v.i=0
  ·by_cases hs:v.s=⟨#[]⟩
   ·by_cases hk:v.keys=[]
    ·by_cases hx:v.items=[]
     ·by_cases hr:v.rest=[]
      ·simp [pA,-V,-y3,-y0,J,h,hb,hi,hs,hk,hx,hr]
      ·simp [pA,-V,-y3,-y0,J,h,hb,hi,hs,hk,hx,hr]
     ·simp [pA,-V,-y3,-y0,J,h,hb,hi,hs,hk,hx]
    ·simp [pA,-V,-y3,-y0,J,h,hb,hi,hs,hk]
   ·simp [pA,-V,-y3,-y0,J,h,hb,hi,hs]
  ·simp [pA,-V,-y3,-y0,J,h,hb,hi]
 ·simp [pA,-V,-y3,-y0,J,h,hb]
theorem rzero_ev5 (v:Vl) (h:v.kind=5):gA 182 [.agg (zA v)] (.bool (kE v)):=by
 refine wA (c:=pA) rfl rfl ?_;rw [iA];unfold kE;by_cases hb:v.b=false
 ·by_cases hi:v.i=0
  ·by_cases hs:v.s=⟨#[]⟩
   ·by_cases hd:v.id=0
    ·by_cases hk:v.keys=[]
     ·simp [pA,-V,-y3,-y0,J,h,hb,hi,hs,hd,hk]
     ·simp [pA,-V,-y3,-y0,J,h,hb,hi,hs,hd,hk]
    ·simp [pA,-V,-y3,-y0,J,h,hb,hi,hs,hd]
   ·simp [pA,-V,-y3,-y0,J,h,hb,hi,hs]
  ·simp [pA,-V,-y3,-y0,J,h,hb,hi]
 ·simp [pA,-V,-y3,-y0,J,h,hb]
theorem rzero_ev6 (v:Vl) (h:v.kind=6):gA 182 [.agg (zA v)] (.bool (kE v)):=by
 refine wA (c:=pA) rfl rfl ?_;rw [iA];unfold kE;by_cases hb:v.b=false
 ·by_cases hi:v.i=0
  ·by_cases hs:v.s=⟨#[]⟩
   ·by_cases hk:v.keys=[]
    ·simp [pA,-V,-y3,-y0,J,h,hb,hi,hs,hk]
    ·simp [pA,-V,-y3,-y0,J,h,hb,hi,hs,hk]
   ·simp [pA,-V,-y3,-y0,J,h,hb,hi,hs]
  ·simp [pA,-V,-y3,-y0,J,h,hb,hi]
 ·simp [pA,-V,-y3,-y0,J,h,hb]
theorem rzero_ev7 (v:Vl) (h:v.kind=7):gA 182 [.agg (zA v)] (.bool (kE v)):=by
 refine wA (c:=pA) rfl rfl ?_;rw [iA];unfold kE;by_cases hb:v.b=false
 ·by_cases hi:v.i=0
  ·by_cases hs:v.s=⟨#[]⟩
   ·by_cases hd:v.id=0
    ·by_cases hk:v.keys=[]
     ·by_cases hr:v.rest=[]
      ·simp [pA,-V,-y3,-y0,J,h,hb,hi,hs,hd,hk,hr]
      ·simp [pA,-V,-y3,-y0,J,h,hb,hi,hs,hd,hk,hr]
     ·simp [pA,-V,-y3,-y0,J,h,hb,hi,hs,hd,hk]
    ·simp [pA,-V,-y3,-y0,J,h,hb,hi,hs,hd]
   ·simp [pA,-V,-y3,-y0,J,h,hb,hi,hs]
  ·simp [pA,-V,-y3,-y0,J,h,hb,hi]
 ·simp [pA,-V,-y3,-y0,J,h,hb]
theorem rzero_ev8 (v:Vl) (h:v.kind=8):gA 182 [.agg (zA v)] (.bool (kE v)):=by
 refine wA (c:=pA) rfl rfl ?_;rw [iA];unfold kE;by_cases hb:v.b=false
 ·by_cases hi:v.i=0
  ·by_cases hs:v.s=⟨#[]⟩
   ·by_cases hd:v.id=0
    ·by_cases hr:v.rest=[]
     ·simp [pA,-V,-y3,-y0,J,h,hb,hi,hs,hd,hr]
     ·simp [pA,-V,-y3,-y0,J,h,hb,hi,hs,hd,hr]
    ·simp [pA,-V,-y3,-y0,J,h,hb,hi,hs,hd]
   ·simp [pA,-V,-y3,-y0,J,h,hb,hi,hs]
  ·simp [pA,-V,-y3,-y0,J,h,hb,hi]
 ·simp [pA,-V,-y3,-y0,J,h,hb]
theorem rzero_ev9 (v:Vl) (h:v.kind=9):gA 182 [.agg (zA v)] (.bool (kE v)):=by
 refine wA (c:=pA) rfl rfl ?_;rw [iA];unfold kE;by_cases hb:v.b=false
 ·by_cases hi:v.i=0
  ·by_cases hs:v.s=⟨#[]⟩
   ·by_cases hd:v.id=0
    ·by_cases hk:v.keys=[]
     ·by_cases hr:v.rest=[]
      ·simp [pA,-V,-y3,-y0,J,h,hb,hi,hs,hd,hk,hr]
      ·simp [pA,-V,-y3,-y0,J,h,hb,hi,hs,hd,hk,hr]
     ·simp [pA,-V,-y3,-y0,J,h,hb,hi,hs,hd,hk]
    ·simp [pA,-V,-y3,-y0,J,h,hb,hi,hs,hd]
   ·simp [pA,-V,-y3,-y0,J,h,hb,hi,hs]
  ·simp [pA,-V,-y3,-y0,J,h,hb,hi]
 ·simp [pA,-V,-y3,-y0,J,h,hb]
end Go.Proofs.YtbnlmgncbgaepaaGreat
