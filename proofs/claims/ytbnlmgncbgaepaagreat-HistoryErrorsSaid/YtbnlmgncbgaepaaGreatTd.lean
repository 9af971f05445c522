/- A part of the proof. -/
import Derived.Test.YtbnlmgncbgaepaaGreatTc
set_option linter.all false
set_option maxRecDepth 100000
set_option maxHeartbeats 8000000
open Option renaming bind_some → V
open List renaming range_succ → y0, map_map → y3, getElem_mem → y7, drop_eq_getElem_cons → y8, drop_eq_nil_of_le → yc, map_cons → yg, map_nil → yk, mem_append → yp, take_of_length_le → yC, take_append_getElem → yE, length_take → yF, map_append → yM
open Int renaming toNat_lt → y4
open Bool renaming and_eq_true → y9
namespace Go.Proofs.YtbnlmgncbgaepaaGreat
open Go
structure Raw where
 id:Int
 data:ByteArray
 deriving DecidableEq
inductive Vl where
 | mk (kind:Int) (b:Bool) (i:Int) (s:ByteArray) (id:Int) (kn:Bool) (keys:List Vl) (xn:Bool) (items:List Vl) (rn:Bool) (rest:List Raw)
namespace Vl
def kind:Vl->Int | .mk k _ _ _ _ _ _ _ _ _ _=>k
def b:Vl->Bool | .mk _ b _ _ _ _ _ _ _ _ _=>b
def i:Vl->Int | .mk _ _ i _ _ _ _ _ _ _ _=>i
def s:Vl->ByteArray | .mk _ _ _ s _ _ _ _ _ _ _=>s
def id:Vl->Int | .mk _ _ _ _ d _ _ _ _ _ _=>d
def kn:Vl->Bool | .mk _ _ _ _ _ k _ _ _ _ _=>k
def keys:Vl->List Vl | .mk _ _ _ _ _ _ l _ _ _ _=>l
def xn:Vl->Bool | .mk _ _ _ _ _ _ _ x _ _ _=>x
def items:Vl->List Vl | .mk _ _ _ _ _ _ _ _ l _ _=>l
def rn:Vl->Bool | .mk _ _ _ _ _ _ _ _ _ r _=>r
def rest:Vl->List Raw | .mk _ _ _ _ _ _ _ _ _ _ l=>l
theorem keys_lt (v x:Vl) (h:x∈v.keys):SizeOf.sizeOf x<SizeOf.sizeOf v:=by
 cases v;have:=List.sizeOf_lt_of_mem h;simp only [keys] at this;simp only [mk.sizeOf_spec];omega
theorem items_lt (v x:Vl) (h:x∈v.items):SizeOf.sizeOf x<SizeOf.sizeOf v:=by
 cases v;have:=List.sizeOf_lt_of_mem h;simp only [items] at this;simp only [mk.sizeOf_spec];omega
end Vl
def CL (r:Raw):List AV:=[.int .i64 r.id,.str r.data]
mutual
def lA:Vl->List AV
 | .mk k b i s d kn ks xn xs rn rs=>[.int .i64 k,.bool b,.int .i64 i,.str s,.int .i64 d,.sl kn (C2 ks),.sl xn (C2 xs),.sl rn (rs.map CL)]
def C2:List Vl->List (List AV)
 | []=>[]
 | v :: r=>lA v :: C2 r
end
theorem rV:∀ l:List Vl,C2 l=l.map lA
 | []=>by rw [C2]; rfl
 | v :: r=>by rw [C2,rV r]; rfl
theorem uA (v:Vl):lA v=[.int .i64 v.kind,.bool v.b,.int .i64 v.i,.str v.s,.int .i64 v.id,.sl v.kn (v.keys.map lA),.sl v.xn (v.items.map lA),.sl v.rn (v.rest.map CL)]:=by
 cases v;rw [lA,rV,rV];rfl
mutual
/-- lengths that occur -/
def Vl.ok:Vl->Prop
 | .mk _ _ _ s _ _ ks _ xs _ rs=>ks.length<=9223372036854775807/\xs.length<=9223372036854775807/\rs.length<=9223372036854775807/\s.size<=9223372036854775807/\Vl.oks ks/\Vl.oks xs
def Vl.oks:List Vl->Prop
 | []=>True
 | v :: r=>Vl.ok v/\Vl.oks r
end
theorem Vl.oks_iff:∀ l:List Vl,Vl.oks l ↔ ∀ v∈l,v.ok
 | []=>by simp [Vl.oks]
 | v :: r=>by simp [Vl.oks,Vl.oks_iff r]
theorem Vl.ok_def (v:Vl):v.ok ↔ v.keys.length<=9223372036854775807/\v.items.length<=9223372036854775807/\v.rest.length<=9223372036854775807/\v.s.size<=9223372036854775807/\(∀ x∈v.keys,x.ok)/\∀ x∈v.items,x.ok:=by
 cases v;rw [Vl.ok,Vl.oks_iff,Vl.oks_iff];rfl
def Vl.zero:Vl:=.mk 0 false 0 ⟨#[]⟩ 0 true [] true [] true []
structure aN where
 id:Int
 name:ByteArray
 deriving DecidableEq
def DC (x:aN):List AV:=[.int .i64 x.id,.str x.name]
structure SB where
 id:Int
 name:ByteArray
 ty:Int
 crit:Bool
 has:Bool
 dflt:Vl
def zA (m:SB):List AV:=[.int .i64 m.id,.str m.name,.int .i64 m.ty,.bool m.crit,.bool m.has,.int .i64 m.dflt.kind,.bool m.dflt.b,.int .i64 m.dflt.i,.str m.dflt.s,.int .i64 m.dflt.id,.sl m.dflt.kn (m.dflt.keys.map lA),.sl m.dflt.xn (m.dflt.items.map lA),.sl m.dflt.rn (m.dflt.rest.map CL)]
structure sA where
 kind:Int
 name:ByteArray
 low:Int
 high:Int
 max:Int
 sn:Bool
 syms:List aN
 mn:Bool
 mems:List SB
 key:Int
 elem:Int
 opn:Bool
def qA (t:sA):List AV:=[.int .i64 t.kind,.str t.name,.int .i64 t.low,.int .i64 t.high,.int .i64 t.max,.sl t.sn (t.syms.map DC),.sl t.mn (t.mems.map zA),.int .i64 t.key,.int .i64 t.elem,.bool t.opn]
structure DH where
 nl:Bool
 types:List sA
def TA (s:DH):List AV:=[.sl s.nl (s.types.map qA)]
def SB.ok (m:SB):Prop:=m.dflt.ok/\m.name.size<=9223372036854775807
def sA.ok (t:sA):Prop:=t.syms.length<=9223372036854775807/\t.mems.length<=9223372036854775807/\∀ m∈t.mems,m.ok
def DH.ok (s:DH):Prop:=s.types.length<=9223372036854775807/\∀ t∈s.types,t.ok
theorem GA {i:Nat} (h:i<9223372036854775807:=by omega):IntKind.i64.wrap ((i:Int) + 1)=((i + 1:Nat):Int):=by
 rw [IntWalk.i64_in _ (by omega)]; rfl
theorem els_sym (l:List aN):lB 2 (l.map DC)=true:=lC _ _ _ fun _=>rfl
theorem EW (l:List SB):lB 13 (l.map zA)=true:=lC _ _ _ fun _=>rfl
theorem rA {f:Nat} {c:qB} {args:List AV} {r:RV} (hT:dA f=some c) (hl:args.length=c.np) (h:c.code.run (cE dA eA) (BJ dA eA) (pA.init args none) (uO c none)=some r) (hm:OI args=false:=by rfl):cE dA eA f args none=some r:=qM c hT hl h hm
abbrev fA (f:Nat) (args:List AV) (v:AV):Prop:=cE dA eA f args none=some (v,none)
def cR (x:Int):Bool:=decide (x=95)||(decide (97<=x)&&decide (x<=122))||(decide (65<=x)&&decide (x<=90))
def nX (x:Int):Bool:=decide (48<=x)&&decide (x<=57)
def xG (s:ByteArray):Nat->Nat->Bool
 | 0,_=>true
 | n + 1,i=>(match s[i]? with | some u=>cR u.toNat||nX u.toNat | none=>false)&&xG s n (i + 1)
def zF (s:ByteArray):Bool:=decide (s.size≠0)&&decide (s.size<=24)&&(match s[0]? with | some u=>cR u.toNat | none=>false)&&xG s s.size 0
theorem A1 (x:Int):fA 248 [.int .u8 x] (.bool (cR x)):=by
 refine rA (c:=fH) rfl rfl ?_;unfold cR;by_cases h1:x=95 <;> by_cases h2:97<=x <;> by_cases h3:65<=x <;> by_cases h4:x<=122 <;> by_cases h5:x<=90 <;> simp [fH,-V,OC,y0,h1,h2,h3,h4,h5]
theorem digit_ev (x:Int):fA 249 [.int .u8 x] (.bool (nX x)):=by
 refine rA (c:=iI) rfl rfl ?_;unfold nX;by_cases h1:48<=x <;> simp [iI,-V,OC,y0,h1]
theorem OY (x:Int):fA 224 [.int .u8 x] (.bool (cR x)):=by
 refine rA (c:=MI) rfl rfl ?_;unfold cR;by_cases h1:x=95 <;> by_cases h2:97<=x <;> by_cases h3:65<=x <;> by_cases h4:x<=122 <;> by_cases h5:x<=90 <;> simp [MI,-V,OC,y0,h1,h2,h3,h4,h5]
theorem rdigit_ev (x:Int):fA 225 [.int .u8 x] (.bool (nX x)):=by
 refine rA (c:=EK) rfl rfl ?_;unfold nX;by_cases h1:48<=x <;> simp [EK,-V,OC,y0,h1]
theorem jQ {s:ByteArray} {i:Nat} (h:i<s.size):∃ u,s[i]?=some u:=⟨s[i],getElem?_pos s i h⟩
theorem name_lp (s:ByteArray) (hs:s.size<=24) (r:RV) (k:Ex->pA->Option RV) (hk:∀ s',xG s s.size 0=true->k (.exit 0) s'=some r) (hr:∀ s':pA,xG s s.size 0=false->(s'.env 2).v=.bool false->k .ret s'=some r) :
  ∀ (n i:Nat),i + n=s.size->xG s n i=xG s s.size 0->∀ s':pA,(s'.env 0).v=.str s->(s'.env 18).v=.int .i64 s.size->(s'.env 19).v=.int .i64 i->GG dA eA iE s' k=some r:=by
 intro n
 induction n with
 | zero =>
  intro i hi hf s' e0 zl e19;have fa:¬ ((i:Int)<s.size):=by omega
  refine tA ?_;simp [iE,-V,OC,y0,e0,zl,e19,fa];exact hk _ (by rw [<- hf]; rfl)
 | succ n ih =>
  intro i hi hf s' e0 zl e19;have fa:(i:Int)<s.size:=by omega
  obtain ⟨u,hu⟩:=jQ (s:=s) (i:=i) (by omega);have hw:=GA (i:=i);have h1:=A1 u.toNat;have h2:=digit_ev u.toNat;simp only [xG,hu] at hf;refine tA ?_;cases b1:cR u.toNat with
  | true =>
   simp only [b1] at h1 hf;simp [iE,-V,OC,y0,e0,zl,e19,fa,hu,h1,hw];refine ih (i + 1) (by omega) (by simpa using hf) _ ?_ ?_ ?_ <;> simp [*]
  | false =>
   cases b2:nX u.toNat with
   | true =>
    simp only [b1,b2] at h1 h2 hf;simp [iE,-V,OC,y0,e0,zl,e19,fa,hu,h1,h2,hw];refine ih (i + 1) (by omega) (by simpa using hf) _ ?_ ?_ ?_ <;> simp [*]
   | false =>
    simp only [b1,b2] at h1 h2 hf;simp [iE,-V,OC,y0,e0,zl,e19,fa,hu,h1,h2,hw];refine hr _ (by simpa using hf.symm) ?_;simp
theorem name_ev (s:ByteArray):fA 234 [.str s] (.bool (zF s)):=by
 refine rA (c:=EE) rfl rfl ?_;unfold zF;by_cases h0:s=⟨#[]⟩
 ·subst h0;simp [EE,-V,OC,y0];exact fun h=>absurd rfl h
 ·have hz:s.size≠0:=fun h=>h0 (by
   obtain ⟨d⟩:=s;have h:d.size=0:=h;rw [Array.eq_empty_of_size_eq_zero h])
  by_cases h1:s.size<=24
  ·have rj:¬ ((24:Int)<s.size):=by omega
   obtain ⟨u,hu⟩:=jQ (s:=s) (i:=0) (by omega);have h2:=A1 u.toNat;cases b1:cR u.toNat with
   | false =>
    simp only [b1] at h2;simp [EE,-V,OC,y0,h0,rj,hu,h2,b1]
   | true =>
    simp only [b1] at h2;simp [EE,-V,OC,y0,h0,rj,hu,h2,b1,hz,h1];refine name_lp s h1 _ _ (fun s' hf=>?main) (fun s' hf h2=>?main2) s.size 0 (by simp) rfl _ ?_ ?_ ?_
    case main=>simp [-V,OC,y0,hf]
    case main2=>simp [-V,OC,y0,hf,h2]
    all_goals simp
  ·have rj:(24:Int)<s.size:=by omega
   simp [EE,-V,OC,y0,h0,rj,h1]
theorem rname_lp (s:ByteArray) (hs:s.size<=24) (r:RV) (k:Ex->pA->Option RV) (hk:∀ s',xG s s.size 0=true->k (.exit 0) s'=some r) (hr:∀ s':pA,xG s s.size 0=false->(s'.env 2).v=.bool false->k .ret s'=some r) :
  ∀ (n i:Nat),i + n=s.size->xG s n i=xG s s.size 0->∀ s':pA,(s'.env 0).v=.str s->(s'.env 3).v=.int .i64 i->GG dA eA oE s' k=some r:=by
 intro n
 induction n with
 | zero =>
  intro i hi hf s' e0 e3;have fa:¬ ((i:Int)<s.size):=by omega
  refine tA ?_;simp [oE,-V,OC,y0,e0,e3,fa];exact hk _ (by rw [<- hf]; rfl)
 | succ n ih =>
  intro i hi hf s' e0 e3;have fa:(i:Int)<s.size:=by omega
  obtain ⟨u,hu⟩:=jQ (s:=s) (i:=i) (by omega);have hw:=GA (i:=i);have h1:=OY u.toNat;have h2:=rdigit_ev u.toNat;simp only [xG,hu] at hf;refine tA ?_;cases b1:cR u.toNat with
  | true =>
   simp only [b1] at h1 hf;simp [oE,-V,OC,y0,e0,e3,fa,hu,h1,hw];refine ih (i + 1) (by omega) (by simpa using hf) _ ?_ ?_ <;> simp [*]
  | false =>
   cases b2:nX u.toNat with
   | true =>
    simp only [b1,b2] at h1 h2 hf;simp [oE,-V,OC,y0,e0,e3,fa,hu,h1,h2,hw];refine ih (i + 1) (by omega) (by simpa using hf) _ ?_ ?_ <;> simp [*]
   | false =>
    simp only [b1,b2] at h1 h2 hf;simp [oE,-V,OC,y0,e0,e3,fa,hu,h1,h2,hw];refine hr _ (by simpa using hf.symm) ?_;simp
theorem PY (s:ByteArray):fA 210 [.str s] (.bool (zF s)):=by
 refine rA (c:=RE) rfl rfl ?_;unfold zF;by_cases h0:s=⟨#[]⟩
 ·subst h0;simp [RE,-V,OC,y0];exact fun h=>absurd rfl h
 ·have hz:s.size≠0:=fun h=>h0 (by
   obtain ⟨d⟩:=s;have h:d.size=0:=h;rw [Array.eq_empty_of_size_eq_zero h])
  by_cases h1:s.size<=24
  ·have rj:¬ ((24:Int)<s.size):=by omega
   obtain ⟨u,hu⟩:=jQ (s:=s) (i:=0) (by omega);have h2:=OY u.toNat;cases b1:cR u.toNat with
   | false =>
    simp only [b1] at h2;simp [RE,-V,OC,y0,h0,rj,hu,h2,b1]
   | true =>
    simp only [b1] at h2;simp [RE,-V,OC,y0,h0,rj,hu,h2,b1,hz,h1];refine rname_lp s h1 _ _ (fun s' hf=>?main) (fun s' hf h2=>?main2) s.size 0 (by simp) rfl _ ?_ ?_
    case main=>simp [-V,OC,y0,hf]
    case main2=>simp [-V,OC,y0,hf,h2]
    all_goals simp
  ·have rj:(24:Int)<s.size:=by omega
   simp [RE,-V,OC,y0,h0,rj,h1]
mutual
def Vl.same:Vl->Vl->Bool
 | .mk k b i s d _ ks _ xs _ rs,.mk k' b' i' s' d' _ ks' _ gj _ rs'=>decide (k=k')&&(b == b')&&decide (i=i')&&decide (s=s')&&decide (d=d')&&decide (rs=rs')&&Vl.sames ks ks'&&Vl.sames xs gj
def Vl.sames:List Vl->List Vl->Bool
 | [],[]=>true
 | v :: r,v' :: r'=>Vl.same v v'&&Vl.sames r r'
 | [],_ :: _=>false
 | _ :: _,[]=>false
end
theorem Vl.same_def (v w:Vl):v.same w=(decide (v.kind=w.kind)&&(v.b == w.b)&&decide (v.i=w.i)&&decide (v.s=w.s)&&decide (v.id=w.id)&&decide (v.rest=w.rest)&&Vl.sames v.keys w.keys&&Vl.sames v.items w.items):=by
 cases v; cases w; rw [Vl.same]; rfl
theorem Vl.sames_len:∀ l m:List Vl,l.length≠m.length->Vl.sames l m=false
 | [],[],h=>absurd rfl h
 | [],_ :: _,_=>by rw [Vl.sames]
 | _ :: _,[],_=>by rw [Vl.sames]
 | v :: r,w :: r',h=>by rw [Vl.sames,Vl.sames_len r r' (by simpa using h)]; simp
theorem raws_lp (rs qs:List Raw) (hl:rs.length<=9223372036854775807) (he:rs.length=qs.length) (b1 b2:Bool) (r:RV) (k:Ex->pA->Option RV) (hk:∀ s',rs=qs->k (.exit 0) s'=some r) (hr:∀ s':pA,rs≠qs->(s'.env 4).v=.bool false->k .ret s'=some r) :
  ∀ (n i:Nat),i + n=rs.length->(rs.drop i=qs.drop i ↔ rs=qs)->∀ s':pA,(s'.env 0).v=.sl b1 (rs.map CL)->(s'.env 1).v=.sl b2 (qs.map CL)->(s'.env 12).v=.int .i64 rs.length->(s'.env 13).v=.int .i64 i->GG dA eA BB s' k=some r:=by
 intro n
 induction n with
 | zero =>
  intro i hi hf s' e0 e1 e12 al;have fa:¬ ((i:Int)<rs.length):=by omega
  refine tA ?_;simp [BB,-V,OC,y0,e12,al,fa];exact hk _ (hf.1 (by rw [yc (by omega),yc (by omega)]))
 | succ n ih =>
  intro i hi hf s' e0 e1 e12 al;have fa:(i:Int)<rs.length:=by omega
  have oe:i<rs.length:=by omega
  have ng:i<qs.length:=by omega
  have hw:=GA (i:=i);have g1:(rs.map CL)[i]?=some (CL rs[i]):=by simp [oe]
  have g2:(qs.map CL)[i]?=some (CL qs[i]):=by simp [ng]
  rw [y8 oe,y8 ng] at hf;simp only [List.cons.injEq] at hf;generalize rs[i]=x at *
  generalize qs[i]=y at *
  obtain ⟨xi,xd⟩:=x;obtain ⟨yi,yd⟩:=y;simp only [CL] at g1 g2;simp only [Raw.mk.injEq] at hf;refine tA ?_;by_cases h1:xi=yi
  ·by_cases h2:xd=yd
   ·subst h1 h2;simp [BB,-V,OC,y0,e0,e1,e12,al,fa,g1,g2,gL,hw];refine ih (i + 1) (by omega) (by simpa using hf) _ ?_ ?_ ?_ ?_ <;> simp [*]
   ·subst h1;simp [BB,-V,OC,y0,e0,e1,e12,al,fa,g1,g2,gL,h2];exact hr _ (fun h=>h2 (hf.2 h).1.2) (by simp)
  ·simp [BB,-V,OC,y0,e0,e1,e12,al,fa,g1,g2,gL,h1];exact hr _ (fun h=>h1 (hf.2 h).1.1) (by simp)
theorem raws_ev (rs qs:List Raw) (hl:rs.length<=9223372036854775807) (b1 b2:Bool):fA 196 [.sl b1 (rs.map CL),.sl b2 (qs.map CL)] (.bool (decide (rs=qs))):=by
 refine rA (c:=bD) rfl rfl ?_;by_cases he:rs.length=qs.length
 ·have sg:(rs.length:Int)=qs.length:=by omega
  simp [bD,-V,OC,y0,he];refine raws_lp rs qs hl he b1 b2 _ _ (fun s' hf=>?main) (fun s' hf h4=>?main2) rs.length 0 (by simp) (by simp) _ ?_ ?_ ?_ ?_
  case main=>simp [-V,OC,y0,hf]
  case main2=>simp [-V,OC,y0,hf,h4]
  all_goals simp [he]
 ·have sg:¬ (rs.length:Int)=qs.length:=by omega
  have la:rs≠qs:=fun h=>he (by rw [h])
  simp [bD,-V,OC,y0,sg,la]
theorem eqf_lp (F:Nat) (l m:List Vl) (hl:l.length<=9223372036854775807) (he:l.length=m.length) (hF:∀ x∈l,∀ y∈m,fA F [.agg (lA x),.agg (lA y)] (.bool (x.same y))) (b1 b2:Bool) (r:RV) (k:Ex->pA->Option RV) (hk:∀ s',Vl.sames l m=true->k (.exit 0) s'=some r) (hr:∀ s':pA,Vl.sames l m=false->(s'.env 6).v=.bool false->k .ret s'=some r) :
  ∀ (n i:Nat),i + n=l.length->Vl.sames (l.drop i) (m.drop i)=Vl.sames l m->∀ s':pA,(s'.env 1).v=.sl b2 (m.map lA)->(s'.env 2).v=.fn F []->(s'.env 15).v=.sl b1 (l.map lA)->(s'.env 16).v=.int .i64 l.length->(s'.env 17).v=.int .i64 i->GG dA eA PB s' k=some r:=by
 intro n
 induction n with
 | zero =>
  intro i hi hf s' e1 e2 be mc je;have fa:¬ ((i:Int)<l.length):=by omega
  refine tA ?_;simp [PB,-V,OC,y0,mc,je,fa];refine hk _ ?_;rw [<- hf,yc (by omega),yc (by omega),Vl.sames]
 | succ n ih =>
  intro i hi hf s' e1 e2 be mc je;have fa:(i:Int)<l.length:=by omega
  have oe:i<l.length:=by omega
  have ng:i<m.length:=by omega
  have hw:=GA (i:=i);have g1:(l.map lA)[i]?=some (lA l[i]):=by simp [oe]
  have g2:(m.map lA)[i]?=some (lA m[i]):=by simp [ng]
  have hx:=hF l[i] (y7 _) m[i] (y7 _);rw [y8 oe,y8 ng,Vl.sames] at hf;generalize l[i]=x at *
  generalize m[i]=y at *
  simp only [fA,uA] at g1 g2 hx;refine tA ?_;cases h1:x.same y with
  | true =>
   rw [h1] at hx hf;simp [PB,-V,OC,y0,e1,e2,be,mc,je,fa,g1,g2,GF,nD,hx,hw];refine ih (i + 1) (by omega) (by simpa using hf) _ ?_ ?_ ?_ ?_ ?_ <;> simp [*]
  | false =>
   rw [h1] at hx hf;simp [PB,-V,OC,y0,e1,e2,be,mc,je,fa,g1,g2,GF,nD,hx];exact hr _ (by simpa using hf.symm) (by simp)
theorem H3 (F:Nat) (l m:List Vl) (hl:l.length<=9223372036854775807) (hF:∀ x∈l,∀ y∈m,fA F [.agg (lA x),.agg (lA y)] (.bool (x.same y))) (b1 b2:Bool):fA 197 [.sl b1 (l.map lA),.sl b2 (m.map lA),.fn F []] (.bool (Vl.sames l m)):=by
 refine rA (c:=eC) rfl rfl ?_;by_cases he:l.length=m.length
 ·simp [eC,-V,OC,y0,he];refine eqf_lp F l m hl he hF b1 b2 _ _ (fun s' hf=>?main) (fun s' hf h4=>?main2) l.length 0 (by simp) (by simp) _ ?_ ?_ ?_ ?_ ?_
  case main=>simp [-V,OC,y0,hf]
  case main2=>simp [-V,OC,y0,hf,h4]
  all_goals simp [he]
 ·have sg:¬ (l.length:Int)=m.length:=by omega
  simp [eC,-V,OC,y0,sg,Vl.sames_len l m he]
theorem same_ev:∀ (n:Nat) (v w:Vl),SizeOf.sizeOf v<n->v.ok->fA 255 [.agg (lA v),.agg (lA w)] (.bool (v.same w)):=by
 intro n
 induction n with
 | zero=>intro v w h; omega
 | succ n ih =>
  intro v w hn hv;rw [Vl.ok_def] at hv;obtain ⟨o1,o2,o3,o4,o5,o6⟩:=hv;have hr:=raws_ev v.rest w.rest o3 v.rn w.rn;have ij:=H3 255 v.keys w.keys o1 (fun x hx y _=>ih x y (by have:=Vl.keys_lt v x hx; omega) (o5 x hx)) v.kn w.kn;have zd:=H3 255 v.items w.items o2 (fun x hx y _=>ih x y (by have:=Vl.items_lt v x hx; omega) (o6 x hx)) v.xn w.xn;simp only [fA] at hr ij zd;refine rA (c:=MC) rfl rfl ?_;rw [uA,uA,Vl.same_def];by_cases h1:v.kind=w.kind
  ·by_cases h2:v.b=w.b
   ·by_cases h3:v.i=w.i
    ·by_cases h4:v.s=w.s
     ·by_cases h5:v.id=w.id
      ·by_cases h6:v.rest=w.rest
       ·cases h7:Vl.sames v.keys w.keys with
        | true=>rw [h7] at ij; simp [MC,-V,OC,y0,h1,h2,h3,h4,h5,h6 ▸ hr,h6,GF,nD,ij,zd,h7]
        | false=>rw [h7] at ij; simp [MC,-V,OC,y0,h1,h2,h3,h4,h5,h6 ▸ hr,h6,GF,nD,ij,h7]
       ·simp [MC,-V,OC,y0,h1,h2,h3,h4,h5,hr,h6]
      ·simp [MC,-V,OC,y0,h1,h2,h3,h4,h5]
     ·simp [MC,-V,OC,y0,h1,h2,h3,h4]
    ·simp [MC,-V,OC,y0,h1,h2,h3]
   ·simp [MC,-V,OC,y0,h1,h2]
  ·simp [MC,-V,OC,y0,h1]
abbrev rE (v:Vl):List wA:=[⟨.int .i64 v.kind,.no⟩,⟨.bool v.b,.no⟩,⟨.int .i64 v.i,.no⟩,⟨.str v.s,.no⟩,⟨.int .i64 v.id,.no⟩,⟨.sl v.kn (v.keys.map lA),.no⟩,⟨.sl v.xn (v.items.map lA),.no⟩,⟨.sl v.rn (v.rest.map CL),.no⟩]
theorem rrest_lp (v w:Vl) (hl:v.rest.length<=9223372036854775807) (he:v.rest.length=w.rest.length) (m:Nat) (r:RV) (k:Ex->pA->Option RV)
  (hk:∀ s':pA,v.rest=w.rest->(s'.env 2).v=.ptr 2 m 0->(s'.env 3).v=.ptr 3 m 0->s'.mem 2 m=some (rE v)->s'.mem 3 m=some (rE w)->k (.exit 0) s'=some r) (hr:∀ s':pA,v.rest≠w.rest->(s'.env 4).v=.bool false->k .ret s'=some r) :
  ∀ (n i:Nat),i + n=v.rest.length->(v.rest.drop i=w.rest.drop i ↔ v.rest=w.rest)->∀ s':pA,(s'.env 2).v=.ptr 2 m 0->(s'.env 3).v=.ptr 3 m 0->s'.mem 2 m=some (rE v)->s'.mem 3 m=some (rE w)->(s'.env 5).v=.int .i64 i->GG dA eA fD s' k=some r:=by
 intro n
 induction n with
 | zero =>
  intro i hi hf s' e2 e3 m2 m3 e5;have fa:¬ ((i:Int)<v.rest.length):=by omega
  refine tA ?_;simp [fD,-V,OC,y0,e2,e3,m2,m3,e5,fa];exact hk _ (hf.1 (by rw [yc (by omega),yc (by omega)])) (by simp [e2]) (by simp [e3]) (by simp [m2]) (by simp [m3])
 | succ n ih =>
  intro i hi hf s' e2 e3 m2 m3 e5;have fa:(i:Int)<v.rest.length:=by omega
  have oe:i<v.rest.length:=by omega
  have ng:i<w.rest.length:=by omega
  have hw:=GA (i:=i);have g1:(v.rest.map CL)[i]?=some (CL v.rest[i]):=by simp [oe]
  have g2:(w.rest.map CL)[i]?=some (CL w.rest[i]):=by simp [ng]
  rw [y8 oe,y8 ng] at hf;simp only [List.cons.injEq] at hf;generalize v.rest[i]=x at *
  generalize w.rest[i]=y at *
  obtain ⟨xi,xd⟩:=x;obtain ⟨yi,yd⟩:=y;simp only [CL] at g1 g2;simp only [Raw.mk.injEq] at hf;refine tA ?_;by_cases h1:xi=yi
  ·by_cases h2:xd=yd
   ·subst h1 h2;simp [fD,-V,OC,y0,e2,e3,m2,m3,e5,fa,g1,g2,gL,hw];refine ih (i + 1) (by omega) (by simpa using hf) _ ?_ ?_ ?_ ?_ ?_ <;> simp [*]
   ·subst h1;simp [fD,-V,OC,y0,e2,e3,m2,m3,e5,fa,g1,g2,gL,h2];exact hr _ (fun h=>h2 (hf.2 h).1.2) (by simp)
  ·simp [fD,-V,OC,y0,e2,e3,m2,m3,e5,fa,g1,g2,gL,h1];exact hr _ (fun h=>h1 (hf.2 h).1.1) (by simp)
theorem rsames_lp (l m:List Vl) (hl:l.length<=9223372036854775807) (he:l.length=m.length) (hF:∀ x∈l,∀ y∈m,fA 189 [.agg (lA x),.agg (lA y)] (.bool (x.same y))) (b1 b2:Bool) (r:RV) (k:Ex->pA->Option RV) (hk:∀ s',Vl.sames l m=true->k (.exit 0) s'=some r) (hr:∀ s':pA,Vl.sames l m=false->(s'.env 4).v=.bool false->k .ret s'=some r) :
  ∀ (n i:Nat),i + n=l.length->Vl.sames (l.drop i) (m.drop i)=Vl.sames l m->∀ s':pA,(s'.env 0).v=.sl b1 (l.map lA)->(s'.env 1).v=.sl b2 (m.map lA)->(s'.env 5).v=.int .i64 i->GG dA eA RD s' k=some r:=by
 intro n
 induction n with
 | zero =>
  intro i hi hf s' e0 e1 e5;have fa:¬ ((i:Int)<l.length):=by omega
  refine tA ?_;simp [RD,-V,OC,y0,e0,e5,fa];refine hk _ ?_;rw [<- hf,yc (by omega),yc (by omega),Vl.sames]
 | succ n ih =>
  intro i hi hf s' e0 e1 e5;have fa:(i:Int)<l.length:=by omega
  have oe:i<l.length:=by omega
  have ng:i<m.length:=by omega
  have hw:=GA (i:=i);have g1:(l.map lA)[i]?=some (lA l[i]):=by simp [oe]
  have g2:(m.map lA)[i]?=some (lA m[i]):=by simp [ng]
  have hx:=hF l[i] (y7 _) m[i] (y7 _);rw [y8 oe,y8 ng,Vl.sames] at hf;generalize l[i]=x at *
  generalize m[i]=y at *
  simp only [fA,uA] at g1 g2 hx;refine tA ?_;cases h1:x.same y with
  | true =>
   rw [h1] at hx hf;simp [RD,-V,OC,y0,e0,e1,e5,fa,g1,g2,GF,hx,hw];refine ih (i + 1) (by omega) (by simpa using hf) _ ?_ ?_ ?_ <;> simp [*]
  | false =>
   rw [h1] at hx hf;simp [RD,-V,OC,y0,e0,e1,e5,fa,g1,g2,GF,hx];exact hr _ (by simpa using hf.symm) (by simp)
theorem P2 (l m:List Vl) (hl:l.length<=9223372036854775807) (hF:∀ x∈l,∀ y∈m,fA 189 [.agg (lA x),.agg (lA y)] (.bool (x.same y))) (b1 b2:Bool):fA 213 [.sl b1 (l.map lA),.sl b2 (m.map lA)] (.bool (Vl.sames l m)):=by
 refine rA (c:=TE) rfl rfl ?_;by_cases he:l.length=m.length
 ·simp [TE,-V,OC,y0,he];refine rsames_lp l m hl he hF b1 b2 _ _ (fun s' hf=>?main) (fun s' hf h4=>?main2) l.length 0 (by simp) (by simp) _ ?_ ?_ ?_
  case main=>simp [-V,OC,y0,hf]
  case main2=>simp [-V,OC,y0,hf,h4]
  all_goals simp [he]
 ·have sg:¬ (l.length:Int)=m.length:=by omega
  simp [TE,-V,OC,y0,sg,Vl.sames_len l m he]
theorem JY:∀ (n:Nat) (v w:Vl),SizeOf.sizeOf v<n->v.ok->fA 189 [.agg (lA v),.agg (lA w)] (.bool (v.same w)):=by
 intro n
 induction n with
 | zero=>intro v w h; omega
 | succ n ih =>
  intro v w hn hv;rw [Vl.ok_def] at hv;obtain ⟨o1,o2,o3,o4,o5,o6⟩:=hv;have ij:=P2 v.keys w.keys o1 (fun x hx y _=>ih x y (by have:=Vl.keys_lt v x hx; omega) (o5 x hx)) v.kn w.kn;have zd:=P2 v.items w.items o2 (fun x hx y _=>ih x y (by have:=Vl.items_lt v x hx; omega) (o6 x hx)) v.xn w.xn;simp only [fA] at ij zd;refine rA (c:=KB) rfl rfl ?_;rw [uA,uA,Vl.same_def];by_cases h1:v.kind=w.kind
  ·by_cases h2:v.b=w.b
   ·by_cases h3:v.i=w.i
    ·by_cases h4:v.s=w.s
     ·by_cases h5:v.id=w.id
      ·by_cases he:v.rest.length=w.rest.length
       ·simp [KB,-V,OC,y0,h1,h2,h3,h4,h5,he];refine rrest_lp v w o3 he 1 _ _ (fun s' h6 e2 e3 m2 m3=>?main) (fun s' h6 e4=>?main2) v.rest.length 0 (by simp) (by simp) _ ?_ ?_ ?_ ?_ ?_
        case main =>
         cases h7:Vl.sames v.keys w.keys with
         | true=>rw [h7] at ij; simp [-V,OC,y0,e2,e3,m2,m3,GF,ij,zd,h6]
         | false=>rw [h7] at ij; simp [-V,OC,y0,e2,e3,m2,m3,GF,ij,h6]
        case main2=>simp [-V,OC,y0,e4,h6]
        all_goals simp [h1,h2,h3,h4,h5]
       ·have sg:¬ (v.rest.length:Int)=w.rest.length:=by omega
        have h6:¬ v.rest=w.rest:=fun h=>he (by rw [h])
        simp [KB,-V,OC,y0,h1,h2,h3,h4,h5,sg,h6]
      ·simp [KB,-V,OC,y0,h1,h2,h3,h4,h5]
     ·simp [KB,-V,OC,y0,h1,h2,h3,h4]
    ·simp [KB,-V,OC,y0,h1,h2,h3]
   ·simp [KB,-V,OC,y0,h1,h2]
  ·simp [KB,-V,OC,y0,h1]
def SB.same (m m':SB):Bool:=decide (m.id=m'.id)&&decide (m.name=m'.name)&&decide (m.ty=m'.ty)&&(m.crit == m'.crit)&&(m.has == m'.has)&&m.dflt.same m'.dflt
def tB:List SB->List SB->Bool
 | [],[]=>true
 | m :: r,m' :: r'=>m.same m'&&tB r r'
 | [],_ :: _=>false
 | _ :: _,[]=>false
theorem gO:∀ l m:List SB,l.length≠m.length->tB l m=false
 | [],[],h=>absurd rfl h
 | [],_ :: _,_=>rfl
 | _ :: _,[],_=>rfl
 | v :: r,w :: r',h=>by rw [tB,gO r r' (by simpa using h)]; simp
def sA.same (t u:sA):Bool:=decide (t.kind=u.kind)&&decide (t.name=u.name)&&decide (t.low=u.low)&&decide (t.high=u.high)&&decide (t.max=u.max)&&decide (t.key=u.key)&&decide (t.elem=u.elem)&&(t.opn == u.opn)&&decide (t.syms=u.syms)&&tB t.mems u.mems
theorem msame_ev (m m':SB) (hm:m.ok):fA 254 [.agg (zA m),.agg (zA m')] (.bool (m.same m')):=by
 have hs:=same_ev _ m.dflt m'.dflt (Nat.lt_succ_self _) hm.1;simp only [fA,uA] at hs;refine rA (c:=aC) rfl rfl ?_;unfold SB.same zA;by_cases h1:m.id=m'.id
 ·by_cases h2:m.name=m'.name
  ·by_cases h3:m.ty=m'.ty
   ·by_cases h4:m.crit=m'.crit
    ·by_cases h5:m.has=m'.has
     ·simp [aC,-V,OC,y0,h1,h2,h3,h4,h5,hs]
     ·simp [aC,-V,OC,y0,h1,h2,h3,h4,h5]
    ·simp [aC,-V,OC,y0,h1,h2,h3,h4]
   ·simp [aC,-V,OC,y0,h1,h2,h3]
  ·simp [aC,-V,OC,y0,h1,h2]
 ·simp [aC,-V,OC,y0,h1]
theorem rmsame_ev (m m':SB) (hm:m.ok):fA 223 [.agg (zA m),.agg (zA m')] (.bool (m.same m')):=by
 have hs:=JY _ m.dflt m'.dflt (Nat.lt_succ_self _) hm.1;simp only [fA,uA] at hs;refine rA (c:=NB) rfl rfl ?_;unfold SB.same zA;by_cases h1:m.id=m'.id
 ·by_cases h2:m.name=m'.name
  ·by_cases h3:m.ty=m'.ty
   ·by_cases h4:m.crit=m'.crit
    ·by_cases h5:m.has=m'.has
     ·simp [NB,-V,OC,y0,h1,h2,h3,h4,h5,hs]
     ·simp [NB,-V,OC,y0,h1,h2,h3,h4,h5]
    ·simp [NB,-V,OC,y0,h1,h2,h3,h4]
   ·simp [NB,-V,OC,y0,h1,h2,h3]
  ·simp [NB,-V,OC,y0,h1,h2]
 ·simp [NB,-V,OC,y0,h1]
theorem syms_lp (rs qs:List aN) (hl:rs.length<=9223372036854775807) (he:rs.length=qs.length) (b1 b2:Bool) (r:RV) (k:Ex->pA->Option RV) (hk:∀ s',rs=qs->k (.exit 0) s'=some r) (hr:∀ s':pA,rs≠qs->(s'.env 4).v=.bool false->k .ret s'=some r) :
  ∀ (n i:Nat),i + n=rs.length->(rs.drop i=qs.drop i ↔ rs=qs)->∀ s':pA,(s'.env 0).v=.sl b1 (rs.map DC)->(s'.env 1).v=.sl b2 (qs.map DC)->(s'.env 12).v=.int .i64 rs.length->(s'.env 13).v=.int .i64 i->GG dA eA TB s' k=some r:=by
 intro n
 induction n with
 | zero =>
  intro i hi hf s' e0 e1 e12 al;have fa:¬ ((i:Int)<rs.length):=by omega
  refine tA ?_;simp [TB,-V,OC,y0,e12,al,fa];exact hk _ (hf.1 (by rw [yc (by omega),yc (by omega)]))
 | succ n ih =>
  intro i hi hf s' e0 e1 e12 al;have fa:(i:Int)<rs.length:=by omega
  have oe:i<rs.length:=by omega
  have ng:i<qs.length:=by omega
  have hw:=GA (i:=i);have g1:(rs.map DC)[i]?=some (DC rs[i]):=by simp [oe]
  have g2:(qs.map DC)[i]?=some (DC qs[i]):=by simp [ng]
  rw [y8 oe,y8 ng] at hf;simp only [List.cons.injEq] at hf;generalize rs[i]=x at *
  generalize qs[i]=y at *
  obtain ⟨xi,xd⟩:=x;obtain ⟨yi,yd⟩:=y;simp only [DC] at g1 g2;simp only [aN.mk.injEq] at hf;refine tA ?_;by_cases h1:xi=yi
  ·by_cases h2:xd=yd
   ·subst h1 h2;simp [TB,-V,OC,y0,e0,e1,e12,al,fa,g1,g2,gL,hw];refine ih (i + 1) (by omega) (by simpa using hf) _ ?_ ?_ ?_ ?_ <;> simp [*]
   ·subst h1;simp [TB,-V,OC,y0,e0,e1,e12,al,fa,g1,g2,gL,h2];exact hr _ (fun h=>h2 (hf.2 h).1.2) (by simp)
  ·simp [TB,-V,OC,y0,e0,e1,e12,al,fa,g1,g2,gL,h1];exact hr _ (fun h=>h1 (hf.2 h).1.1) (by simp)
theorem syms_ev (rs qs:List aN) (hl:rs.length<=9223372036854775807) (b1 b2:Bool):fA 252 [.sl b1 (rs.map DC),.sl b2 (qs.map DC)] (.bool (decide (rs=qs))):=by
 refine rA (c:=FC) rfl rfl ?_;by_cases he:rs.length=qs.length
 ·simp [FC,-V,OC,y0,he];refine syms_lp rs qs hl he b1 b2 _ _ (fun s' hf=>?main) (fun s' hf h4=>?main2) rs.length 0 (by simp) (by simp) _ ?_ ?_ ?_ ?_
  case main=>simp [-V,OC,y0,hf]
  case main2=>simp [-V,OC,y0,hf,h4]
  all_goals simp [he]
 ·have sg:¬ (rs.length:Int)=qs.length:=by omega
  have la:rs≠qs:=fun h=>he (by rw [h])
  simp [FC,-V,OC,y0,sg,la]
theorem eqm_lp (l m:List SB) (hl:l.length<=9223372036854775807) (he:l.length=m.length) (hF:∀ x∈l,x.ok) (b1 b2:Bool) (r:RV) (k:Ex->pA->Option RV) (hk:∀ s',tB l m=true->k (.exit 0) s'=some r) (hr:∀ s':pA,tB l m=false->(s'.env 6).v=.bool false->k .ret s'=some r) :
  ∀ (n i:Nat),i + n=l.length->tB (l.drop i) (m.drop i)=tB l m->∀ s':pA,(s'.env 1).v=.sl b2 (m.map zA)->(s'.env 2).v=.fn 254 []->(s'.env 15).v=.sl b1 (l.map zA)->(s'.env 16).v=.int .i64 l.length->(s'.env 17).v=.int .i64 i->GG dA eA IB s' k=some r:=by
 intro n
 induction n with
 | zero =>
  intro i hi hf s' e1 e2 be mc je;have fa:¬ ((i:Int)<l.length):=by omega
  refine tA ?_;simp [IB,-V,OC,y0,mc,je,fa];refine hk _ ?_;rw [<- hf,yc (by omega),yc (by omega),tB]
 | succ n ih =>
  intro i hi hf s' e1 e2 be mc je;have fa:(i:Int)<l.length:=by omega
  have oe:i<l.length:=by omega
  have ng:i<m.length:=by omega
  have hw:=GA (i:=i);have g1:(l.map zA)[i]?=some (zA l[i]):=by simp [oe]
  have g2:(m.map zA)[i]?=some (zA m[i]):=by simp [ng]
  have hx:=msame_ev l[i] m[i] (hF l[i] (y7 _));rw [y8 oe,y8 ng,tB] at hf;generalize l[i]=x at *
  generalize m[i]=y at *
  simp only [fA,zA] at g1 g2 hx;refine tA ?_;cases h1:x.same y with
  | true =>
   rw [h1] at hx hf;simp [IB,-V,OC,y0,e1,e2,be,mc,je,fa,g1,g2,GF,nD,hx,hw];refine ih (i + 1) (by omega) (by simpa using hf) _ ?_ ?_ ?_ ?_ ?_ <;> simp [*]
  | false =>
   rw [h1] at hx hf;simp [IB,-V,OC,y0,e1,e2,be,mc,je,fa,g1,g2,GF,nD,hx];exact hr _ (by simpa using hf.symm) (by simp)
theorem eqm_ev (l m:List SB) (hl:l.length<=9223372036854775807) (hF:∀ x∈l,x.ok) (b1 b2:Bool):fA 253 [.sl b1 (l.map zA),.sl b2 (m.map zA),.fn 254 []] (.bool (tB l m)):=by
 refine rA (c:=XB) rfl rfl ?_;by_cases he:l.length=m.length
 ·simp [XB,-V,OC,y0,he];refine eqm_lp l m hl he hF b1 b2 _ _ (fun s' hf=>?main) (fun s' hf h4=>?main2) l.length 0 (by simp) (by simp) _ ?_ ?_ ?_ ?_ ?_
  case main=>simp [-V,OC,y0,hf]
  case main2=>simp [-V,OC,y0,hf,h4]
  all_goals simp [he]
 ·have sg:¬ (l.length:Int)=m.length:=by omega
  simp [XB,-V,OC,y0,sg,gO l m he]
theorem tsame_ev (t u:sA) (ht:t.ok):fA 237 [.agg (qA t),.agg (qA u)] (.bool (t.same u)):=by
 have hs:=syms_ev t.syms u.syms ht.1 t.sn u.sn;have hm:=eqm_ev t.mems u.mems ht.2.1 ht.2.2 t.mn u.mn;simp only [fA] at hs hm;refine rA (c:=GB) rfl rfl ?_;unfold sA.same qA;by_cases h1:t.kind=u.kind
 ·by_cases h2:t.name=u.name
  ·by_cases h3:t.low=u.low
   ·by_cases h4:t.high=u.high
    ·by_cases h5:t.max=u.max
     ·by_cases h6:t.key=u.key
      ·by_cases h7:t.elem=u.elem
       ·by_cases h8:t.opn=u.opn
        ·by_cases h9:t.syms=u.syms
         ·rw [decide_eq_true h9] at hs;simp [GB,-V,OC,y0,h1,h2,h3,h4,h5,h6,h7,h8,hs,h9 ▸ hs,h9,GF,nD,hm]
         ·rw [decide_eq_false h9] at hs;simp [GB,-V,OC,y0,h1,h2,h3,h4,h5,h6,h7,h8,hs,h9]
        ·simp [GB,-V,OC,y0,h1,h2,h3,h4,h5,h6,h7,h8]
       ·simp [GB,-V,OC,y0,h1,h2,h3,h4,h5,h6,h7]
      ·simp [GB,-V,OC,y0,h1,h2,h3,h4,h5,h6]
     ·simp [GB,-V,OC,y0,h1,h2,h3,h4,h5]
    ·simp [GB,-V,OC,y0,h1,h2,h3,h4]
   ·simp [GB,-V,OC,y0,h1,h2,h3]
  ·simp [GB,-V,OC,y0,h1,h2]
 ·simp [GB,-V,OC,y0,h1]
abbrev jA (t:sA):List wA:=[⟨.int .i64 t.kind,.no⟩,⟨.str t.name,.no⟩,⟨.int .i64 t.low,.no⟩,⟨.int .i64 t.high,.no⟩,⟨.int .i64 t.max,.no⟩,⟨.sl t.sn (t.syms.map DC),.no⟩,⟨.sl t.mn (t.mems.map zA),.no⟩,⟨.int .i64 t.key,.no⟩,⟨.int .i64 t.elem,.no⟩,⟨.bool t.opn,.no⟩]
theorem rsyms_lp (v w:sA) (hl:v.syms.length<=9223372036854775807) (he:v.syms.length=w.syms.length) (m:Nat) (r:RV) (k:Ex->pA->Option RV)
  (hk:∀ s':pA,v.syms=w.syms->(s'.env 2).v=.ptr 2 m 0->(s'.env 3).v=.ptr 3 m 0->s'.mem 2 m=some (jA v)->s'.mem 3 m=some (jA w)->k (.exit 0) s'=some r) (hr:∀ s':pA,v.syms≠w.syms->(s'.env 4).v=.bool false->k .ret s'=some r) :
  ∀ (n i:Nat),i + n=v.syms.length->(v.syms.drop i=w.syms.drop i ↔ v.syms=w.syms)->∀ s':pA,(s'.env 2).v=.ptr 2 m 0->(s'.env 3).v=.ptr 3 m 0->s'.mem 2 m=some (jA v)->s'.mem 3 m=some (jA w)->(s'.env 5).v=.int .i64 i->GG dA eA QD s' k=some r:=by
 intro n
 induction n with
 | zero =>
  intro i hi hf s' e2 e3 m2 m3 e5;have fa:¬ ((i:Int)<v.syms.length):=by omega
  refine tA ?_;simp [QD,-V,OC,y0,e2,e3,m2,m3,e5,fa];exact hk _ (hf.1 (by rw [yc (by omega),yc (by omega)])) (by simp [e2]) (by simp [e3]) (by simp [m2]) (by simp [m3])
 | succ n ih =>
  intro i hi hf s' e2 e3 m2 m3 e5;have fa:(i:Int)<v.syms.length:=by omega
  have oe:i<v.syms.length:=by omega
  have ng:i<w.syms.length:=by omega
  have hw:=GA (i:=i);have g1:(v.syms.map DC)[i]?=some (DC v.syms[i]):=by simp [oe]
  have g2:(w.syms.map DC)[i]?=some (DC w.syms[i]):=by simp [ng]
  rw [y8 oe,y8 ng] at hf;simp only [List.cons.injEq] at hf;generalize v.syms[i]=x at *
  generalize w.syms[i]=y at *
  obtain ⟨xi,xd⟩:=x;obtain ⟨yi,yd⟩:=y;simp only [DC] at g1 g2;simp only [aN.mk.injEq] at hf;refine tA ?_;by_cases h1:xi=yi
  ·by_cases h2:xd=yd
   ·subst h1 h2;simp [QD,-V,OC,y0,e2,e3,m2,m3,e5,fa,g1,g2,gL,hw];refine ih (i + 1) (by omega) (by simpa using hf) _ ?_ ?_ ?_ ?_ ?_ <;> simp [*]
   ·subst h1;simp [QD,-V,OC,y0,e2,e3,m2,m3,e5,fa,g1,g2,gL,h2];exact hr _ (fun h=>h2 (hf.2 h).1.2) (by simp)
  ·simp [QD,-V,OC,y0,e2,e3,m2,m3,e5,fa,g1,g2,gL,h1];exact hr _ (fun h=>h1 (hf.2 h).1.1) (by simp)
theorem rmems_lp (v w:sA) (hl:v.mems.length<=9223372036854775807) (hF:∀ x∈v.mems,x.ok) (he:v.mems.length=w.mems.length) (m:Nat) (r:RV) (k:Ex->pA->Option RV)
  (hk:∀ s':pA,tB v.mems w.mems=true->k (.exit 2) s'=some r) (hr:∀ s':pA,tB v.mems w.mems=false->(s'.env 4).v=.bool false->k .ret s'=some r) :
  ∀ (n i:Nat),i + n=v.mems.length->tB (v.mems.drop i) (w.mems.drop i)=tB v.mems w.mems->∀ s':pA,(s'.env 2).v=.ptr 2 m 0->(s'.env 3).v=.ptr 3 m 0->s'.mem 2 m=some (jA v)->s'.mem 3 m=some (jA w)->(s'.env 6).v=.int .i64 i->GG dA eA zE s' k=some r:=by
 intro n
 induction n with
 | zero =>
  intro i hi hf s' e2 e3 m2 m3 e6;have fa:¬ ((i:Int)<v.mems.length):=by omega
  refine tA ?_;simp [zE,-V,OC,y0,e2,e3,m2,m3,e6,fa];refine hk _ ?_;rw [<- hf,yc (by omega),yc (by omega),tB]
 | succ n ih =>
  intro i hi hf s' e2 e3 m2 m3 e6;have fa:(i:Int)<v.mems.length:=by omega
  have oe:i<v.mems.length:=by omega
  have ng:i<w.mems.length:=by omega
  have hw:=GA (i:=i);have g1:(v.mems.map zA)[i]?=some (zA v.mems[i]):=by simp [oe]
  have g2:(w.mems.map zA)[i]?=some (zA w.mems[i]):=by simp [ng]
  have hx:=rmsame_ev v.mems[i] w.mems[i] (hF _ (y7 _));rw [y8 oe,y8 ng,tB] at hf;generalize v.mems[i]=x at *
  generalize w.mems[i]=y at *
  simp only [fA,zA] at g1 g2 hx;refine tA ?_;cases h1:x.same y with
  | true =>
   rw [h1] at hx hf;simp [zE,-V,OC,y0,e2,e3,m2,m3,e6,fa,g1,g2,GF,hx,hw];refine ih (i + 1) (by omega) (by simpa using hf) _ ?_ ?_ ?_ ?_ ?_ <;> simp [*]
  | false =>
   rw [h1] at hx hf;simp [zE,-V,OC,y0,e2,e3,m2,m3,e6,fa,g1,g2,GF,hx];exact hr _ (by simpa using hf.symm) (by simp)
theorem rtsame_ev (t u:sA) (ht:t.ok):fA 208 [.agg (qA t),.agg (qA u)] (.bool (t.same u)):=by
 refine rA (c:=pB) rfl rfl ?_;unfold sA.same qA;by_cases h1:t.kind=u.kind
 ·by_cases h2:t.name=u.name
  ·by_cases h3:t.low=u.low
   ·by_cases h4:t.high=u.high
    ·by_cases h5:t.max=u.max
     ·by_cases h6:t.key=u.key
      ·by_cases h7:t.elem=u.elem
       ·by_cases h8:t.opn=u.opn
        ·by_cases h9:t.syms.length=u.syms.length
         ·by_cases sq:t.mems.length=u.mems.length
          ·simp [pB,-V,OC,y0,h1,h2,h3,h4,h5,h6,h7,h8,h9,sq];refine rsyms_lp t u ht.1 h9 1 _ _ (fun s' bm e2 e3 m2 m3=>?main) (fun s' bm e4=>?main2) t.syms.length 0 (by simp) (by simp) _ ?_ ?_ ?_ ?_ ?_
           case main =>
            simp [-V,OC,y0,bm];refine rmems_lp t u ht.2.1 ht.2.2 sq 1 _ _ (fun s' ep=>?a) (fun s' ep e4=>?b) t.mems.length 0 (by simp) (by simp) _ ?_ ?_ ?_ ?_ ?_
            case a=>simp [-V,OC,y0,ep]
            case b=>simp [-V,OC,y0,ep,e4]
            all_goals simp [e2,e3,m2,m3]
           case main2=>simp [-V,OC,y0,bm,e4]
           all_goals simp [h1,h2,h3,h4,h5,h6,h7,h8]
          ·have h10':¬ (t.mems.length:Int)=u.mems.length:=by omega
           simp [pB,-V,OC,y0,h1,h2,h3,h4,h5,h6,h7,h8,h9,h10',gO _ _ sq]
         ·have h9':¬ (t.syms.length:Int)=u.syms.length:=by omega
          have bm:¬ t.syms=u.syms:=fun h=>h9 (by rw [h])
          simp [pB,-V,OC,y0,h1,h2,h3,h4,h5,h6,h7,h8,h9',bm]
        ·simp [pB,-V,OC,y0,h1,h2,h3,h4,h5,h6,h7,h8]
       ·simp [pB,-V,OC,y0,h1,h2,h3,h4,h5,h6,h7]
      ·simp [pB,-V,OC,y0,h1,h2,h3,h4,h5,h6]
     ·simp [pB,-V,OC,y0,h1,h2,h3,h4,h5]
    ·simp [pB,-V,OC,y0,h1,h2,h3,h4]
   ·simp [pB,-V,OC,y0,h1,h2,h3]
  ·simp [pB,-V,OC,y0,h1,h2]
 ·simp [pB,-V,OC,y0,h1]
theorem anN_t (a:An):OC true a=.ex:=rfl
theorem anN_f (a:An):OC false a=a:=rfl
theorem anN_ex (b:Bool):OC b .ex=.ex:=by cases b <;> rfl
attribute [simp] anN_t anN_f anN_ex
theorem gA {b:C} {r:RV} (n:Nat) (I:Nat->pA->Prop) (E:Ex->pA->Prop)
  (step:∀ i,i<=n->∀ s k,I i s->(i<n->∀ s',I (i + 1) s'->GG dA eA b s' k=some r)->(∀ e s',E e s'->k e s'=some r)->GG dA eA b s k=some r)
  (s:pA) (k:Ex->pA->Option RV) (h:I 0 s) (hk:∀ e s',E e s'->k e s'=some r):GG dA eA b s k=some r:=by
 have:∀ m i,i + m=n->∀ s,I i s->GG dA eA b s k=some r:=by
  intro m
  induction m with
  | zero=>intro i hi s h; exact step i (by omega) s k h (fun fa=>absurd fa (by omega)) hk
  | succ m ih=>intro i hi s h; exact step i (by omega) s k h (fun _ s' h'=>ih (i + 1) (by omega) s' h') hk
 exact this n 0 (by omega) s h
instance memStr (s:ByteArray) (l:List ByteArray):Decidable (s∈l):=@List.instDecidableMemOfLawfulBEq _ instBEqOfDecidableEq _ s l
def HR (s:ByteArray) (l:List ByteArray):Bool:=decide (s∈l)
theorem HS {s:ByteArray} {l:List ByteArray} (h:s∈l):HR s l=true:=decide_eq_true h
theorem GS {s:ByteArray} {l:List ByteArray} (h:¬ s∈l):HR s l=false:=decide_eq_false h
def JS (b n:Int):Bool:=decide (b<n)&&decide (1<=n)&&decide (n<=1000)
def JC:Int->List ByteArray->List (Int × ByteArray)->Bool
 | _,_,[]=>true
 | b,seen,(n,s) :: r=>JS b n&&!HR s seen&&zF s&&JC n (seen++[s]) r
def K3 (x:Int × ByteArray):List AV:=[.int .i64 x.1]
def nmC (x:Int × ByteArray):List AV:=[.str x.2]
def LI (s:ByteArray):List AV:=[.str s,.bool true]
theorem XY (s:ByteArray):∀ l:List ByteArray,PH (l.map LI) (.str s)=if s∈l then some (AV.bool true) else none
 | []=>rfl
 | x :: r=>by
  simp only [yg,LI,PH,AN];by_cases h:x=s
  ·simp [h]
  ·have h':¬ s=x:=fun e=>h e.symm
   have:=XY s r;simp [h,h',this]
theorem CY (s:ByteArray):∀ l:List ByteArray,¬ s∈l->EG (l.map LI) (.str s) (.bool true)=(l++[s]).map LI
 | [],_=>rfl
 | x :: r,hn=>by
  have h:¬ x=s:=fun e=>hn (by simp [e])
  have:=CY s r fun e=>hn (by simp [e])
  simp [LI,EG,AN,h,this]
theorem X4:∀ l:List ByteArray,jK .none (l.map LI)=true
 | []=>rfl
 | x :: r=>by
  have:=X4 r;simp only [jK] at this;simp [jK,LI,lG,AV.flat,AV.scal]
def wE (l:List (Int × ByteArray)):Nat->Int
 | 0=>0
 | i + 1=>match l[i]? with
  | some x=>x.1
  | none=>0
theorem ids_ev (l:List (Int × ByteArray)) (hl:l.length<=9223372036854775807) (b1 b2:Bool):fA 250 [.sl b1 (l.map K3),.sl b2 (l.map nmC)] (.bool (JC 0 [] l&&decide (l.length<=16))):=by
 refine rA (c:=AL) rfl rfl ?_;simp [AL,-V,-y4,-y3,y0];refine gA l.length (fun i s=>(s.env 0).v=.sl b1 (l.map K3)/\(s.env 1).v=.sl b2 (l.map nmC)/\(s.env 5).v=.mp 8 2/\(s.env 9).v=.sl b1 (l.map K3)/\(s.env 10).v=.int .i64 l.length/\(s.env 11).v=.int .i64 i/\s.obj 8 2=some (HF (((l.take i).map (·.2)).map LI))/\JC (wE l i) ((l.take i).map (·.2)) (l.drop i)=JC 0 [] l)
  (fun e s=>(e=.exit 0/\JC 0 [] l=true/\(s.env 0).v=.sl b1 (l.map K3))\/(e=.ret/\JC 0 [] l=false/\(s.env 4).v=.bool false)) (fun i hi s k h ih hk=>?_) _ _ ?_ (fun e s h=>?_)
 ·obtain ⟨e0,e1,e5,e9,e10,e11,o,hs⟩:=h;refine tA ?_;by_cases fa:i<l.length
  ·have ga:(i:Int)<l.length:=by omega
   have g1:(l.map K3)[i]?=some (K3 l[i]):=by simp [fa]
   have g2:(l.map nmC)[i]?=some (nmC l[i]):=by simp [fa]
   have hw:=GA (i:=i);have ht:l.take (i + 1)=l.take i++[l[i]]:=(yE fa).symm;have hp:wE l (i + 1)=l[i].1:=by simp [wE,fa]
   have hn:=name_ev l[i].2;rw [y8 fa,JC] at hs;generalize hx:l[i]=x at *
   generalize hsn:(l.take i).map (·.2)=seen at *
   have hg:=XY x.2 seen;have nk:=X4 seen;simp only [K3,nmC] at g1 g2;have hprev:(0<(i:Int)->∃ p,(l.map K3)[i - 1]?=some [.int .i64 p]/\wE l i=p):=fun h0=>by
    obtain ⟨j,rfl⟩:∃ j,i=j + 1:=⟨i - 1,by omega⟩;exact ⟨l[j].1,by simp [K3,show j<l.length from by omega],by simp [wE,show j<l.length from by omega]⟩
   have fail:∀ s',(s'.env 4).v=.bool false->(JS (wE l i) x.1&&!HR x.2 seen&&zF x.2)=false->k .ret s'=some (.bool (JC 0 [] l&&decide (l.length<=16)),none):=fun s' h4 hf=>hk _ _ (.inr ⟨rfl,by rw [<- hs,hf]; rfl,h4⟩)
   obtain ⟨z,hz⟩:∃ z:Int,z=i:=⟨_,rfl⟩;have gc:0<=z:=by omega
   have hzt:z.toNat=i:=by omega
   have kj:z<l.length:=by omega
   have mq:IntKind.i64.wrap (z + 1)=((i + 1:Nat):Int):=by rw [hz]; exact hw
   rw [<- hz] at e11;rw [<- hzt] at g1 g2;by_cases c1:x.1<1
   ·simp [EB,-V,-y4,-y3,y0,e0,e1,e5,e9,e10,e11,kj,gc,g1,c1];exact fail _ (by simp) (by simp [JS,show ¬ 1<=x.1 from by omega])
   by_cases c2:1000<x.1
   ·simp [EB,-V,-y4,-y3,y0,e0,e1,e5,e9,e10,e11,kj,gc,g1,c1,c2];exact fail _ (by simp) (by simp [JS,show ¬ x.1<=1000 from by omega])
   have rest:(¬ 0<z\/∃ y p,0<z/\IntKind.i64.wrap (z - 1)=y/\0<=y/\(l.map K3)[y.toNat]?=some [.int .i64 p]/\¬ x.1<=p)->wE l i<x.1->EB.run (cE dA eA) (BJ dA eA) s (HJ (GG dA eA) EB k)=some (.bool (JC 0 [] l&&decide (l.length<=16)),none):=by
    intro h0 bo;by_cases c5:x.2∈seen
    ·rw [if_pos c5] at hg;rcases h0 with c3 | ⟨y,p,c3,hy,rh,ui,hp3⟩
     ·simp [EB,-V,-y4,-y3,y0,e0,e1,e5,e9,e10,e11,kj,gc,g1,g2,c1,c2,c3,o,qE,nk,lG,AV.flat,AV.scal,hg];exact fail _ (by simp) (by simp [HS c5])
     ·simp [EB,-V,-y4,-y3,y0,e0,e1,e5,e9,e10,e11,kj,gc,g1,g2,c1,c2,c3,hy,rh,ui,hp3,o,qE,nk,lG,AV.flat,AV.scal,hg];exact fail _ (by simp) (by simp [HS c5])
    ·rw [if_neg c5] at hg;have pb:=CY x.2 seen c5;cases c6:zF x.2 with
     | false =>
      rw [c6] at hn;rcases h0 with c3 | ⟨y,p,c3,hy,rh,ui,hp3⟩
      ·simp [EB,-V,-y4,-y3,y0,e0,e1,e5,e9,e10,e11,kj,gc,g1,g2,c1,c2,c3,o,qE,nk,lG,AV.flat,AV.scal,hg,hn];exact fail _ (by simp) (by simp [c6])
      ·simp [EB,-V,-y4,-y3,y0,e0,e1,e5,e9,e10,e11,kj,gc,g1,g2,c1,c2,c3,hy,rh,ui,hp3,o,qE,nk,lG,AV.flat,AV.scal,hg,hn];exact fail _ (by simp) (by simp [c6])
     | true =>
      rw [c6] at hn;have xf:JC x.1 (seen++[x.2]) (l.drop (i + 1))=JC 0 [] l:=by rw [<- hs]; simp [JS,GS c5,c6,bo,show 1<=x.1 from by omega,show x.1<=1000 from by omega]
      rcases h0 with c3 | ⟨y,p,c3,hy,rh,ui,hp3⟩
      ·simp [EB,-V,-y4,-y3,y0,e0,e1,e5,e9,e10,e11,kj,gc,g1,g2,c1,c2,c3,o,qE,nk,lG,AV.flat,AV.scal,hg,hn,pb,mq];refine ih fa _ ⟨?_,?_,?_,?_,?_,?_,?_,?_⟩ <;> simp [ht,hsn,hp,xf,e0,e1,e5,e9,e10]
      ·simp [EB,-V,-y4,-y3,y0,e0,e1,e5,e9,e10,e11,kj,gc,g1,g2,c1,c2,c3,hy,rh,ui,hp3,o,qE,nk,lG,AV.flat,AV.scal,hg,hn,pb,mq];refine ih fa _ ⟨?_,?_,?_,?_,?_,?_,?_,?_⟩ <;> simp [ht,hsn,hp,xf,e0,e1,e5,e9,e10]
   by_cases c3:0<(i:Int)
   ·obtain ⟨p,hp1,ui⟩:=hprev c3;have c3z:0<z:=by omega
    have sw:IntKind.i64.wrap (z - 1)=((i - 1:Nat):Int):=by rw [IntWalk.i64_in _ (by omega)]; omega
    obtain ⟨y,hy⟩:∃ y:Int,y=((i - 1:Nat):Int):=⟨_,rfl⟩;have rh:0<=y:=by omega
    rw [<- hy] at sw;rw [show i - 1=y.toNat from by omega] at hp1;by_cases c4:x.1<=p
    ·simp [EB,-V,-y4,-y3,y0,e0,e1,e5,e9,e10,e11,kj,gc,g1,c1,c2,c3z,sw,rh,hp1,c4];exact fail _ (by simp) (by simp [JS,ui,show ¬ p<x.1 from by omega])
    ·exact rest (.inr ⟨y,p,c3z,sw,rh,hp1,c4⟩) (by rw [ui]; omega)
   ·have h0:i=0:=by omega
    subst h0;exact rest (.inl (by omega)) (by simp only [wE]; omega)
  ·have ga:¬ (i:Int)<l.length:=by omega
   simp [EB,-V,-y4,-y3,y0,e10,e11,ga];refine hk _ _ (.inl ⟨rfl,?_,by simp [e0]⟩);rw [<- hs,yc (by omega),JC]
 ·simp [HF,wE]
 ·rcases h with ⟨rfl,h1,h2⟩ | ⟨rfl,h1,h2⟩ <;> simp [-V,-y4,-y3,y0,h1,h2]
  omega
def eI (x:aN):Int × ByteArray:=(x.id,x.name)
def sF (x:SB):Int × ByteArray:=(x.id,x.name)
def jN (l:List aN):Bool:=decide (0<l.length)&&(JC 0 [] (l.map eI)&&decide (l.length<=16))
theorem symbols_ev (l:List aN) (hl:l.length<=8796093022206) (b:Bool):fA 235 [.sl b (l.map DC)] (.bool (jN l)):=by
 refine rA (c:=xH) rfl rfl ?_;have ug:=fun b1 b2=>ids_ev (l.map eI) (by simp; omega) b1 b2
 simp only [fA] at ug;simp [xH,-V,-y4,-y3,y0];refine gA l.length (fun i s=>(s.env 0).v=.sl b (l.map DC)/\(s.env 7).v=.sl b (l.map DC)/\(s.env 8).v=.int .i64 l.length/\(s.env 9).v=.int .i64 i/\(s.env 3).v=.sl (l.take i).isEmpty (((l.take i).map eI).map K3)/\(s.env 4).v=.sl (l.take i).isEmpty (((l.take i).map eI).map nmC)/\((s.env 3).a=.ex/\(s.env 4).a=.ex\/(l.take i).isEmpty=false/\(s.env 3).a=.own 17 3/\(s.env 4).a=.own 22 9))
  (fun e s=>e=.exit 0/\(s.env 0).v=.sl b (l.map DC)/\(s.env 3).v=.sl l.isEmpty ((l.map eI).map K3)/\(s.env 4).v=.sl l.isEmpty ((l.map eI).map nmC)) (fun i hi s k h ih hk=>?_) _ _ ?_ (fun e s h=>?_)
 ·obtain ⟨e0,e7,e8,e9,e3,e4,an⟩:=h;refine tA ?_;by_cases fa:i<l.length
  ·have ga:(i:Int)<l.length:=by omega
   have g1:(l.map DC)[i]?=some (DC l[i]):=by simp [fa]
   have hw:=GA (i:=i);have ht:l.take (i + 1)=l.take i++[l[i]]:=(yE fa).symm;generalize l[i]=x at *
   simp only [DC] at g1;have ia:(l.take i).length=i:=by simp; omega
   generalize l.take i=t at *
   have ff:kB 8 (t.length + 1)=true:=by rw [PA]; omega
   have ah:kB 16 (t.length + 1)=true:=by rw [PA]; omega
   have q1:lB 1 ((t.map eI).map K3)=true:=lC _ _ _ fun _=>rfl
   have q2:lB 1 ((t.map eI).map nmC)=true:=lC _ _ _ fun _=>rfl
   rcases an with ⟨a3,a4⟩ | ⟨a0,a3,a4⟩
   ·simp [EF,-V,-y4,-y3,y0,e0,e7,e8,e9,e3,e4,a3,a4,ga,g1,hw,ff,ah,q1,q2];refine ih fa _ ⟨?_,?_,?_,?_,?_,?_,?_⟩ <;> simp [ht,e0,e7,e8,K3,nmC,eI]
   ·simp [EF,-V,-y4,-y3,y0,e0,e7,e8,e9,e3,e4,a0,a3,a4,ga,g1,hw,ff,ah,q1,q2];refine ih fa _ ⟨?_,?_,?_,?_,?_,?_,?_⟩ <;> simp [ht,e0,e7,e8,K3,nmC,eI]
  ·have ga:¬ (i:Int)<l.length:=by omega
   simp [EF,-V,-y4,-y3,y0,e8,e9,ga];rw [yC (by omega)] at e3 e4;exact hk _ _ ⟨rfl,by simp [e0],by simp [e3],by simp [e4]⟩
 ·simp
 ·obtain ⟨rfl,e0,e3,e4⟩:=h;unfold jN;by_cases h0:0<l.length
  ·have df:(0:Int)<l.length:=by omega
   simp [-V,-y4,-y3,y0,e0,e3,e4,h0,df,ug]
  ·have df:¬ (0:Int)<l.length:=by omega
   simp [-V,-y4,-y3,y0,e0,e3,e4,h0,df]
theorem rid_ev (b n:Int):fA 226 [.int .i64 b,.int .i64 n] (.bool (JS b n)):=by
 refine rA (c:=MN) rfl rfl ?_;unfold JS;by_cases h1:b<n <;> by_cases h2:1<=n <;> simp [MN,-V,-y4,-y3,y0,h1,h2]
theorem O9 (l:List aN) (hl:l.length<=8796093022206) (b:Bool):fA 211 [.sl b (l.map DC)] (.bool (jN l)):=by
 refine rA (c:=jI) rfl rfl ?_;simp [jI,-V,-y4,-y3,y0];have g0:∀ j,j<l.length->∃ x,l[j]?=some x:=fun j hj=>⟨l[j],by simp [hj]⟩
 refine gA l.length (fun i s=>(s.env 0).v=.sl b (l.map DC)/\(s.env 3).v=.int .i64 (wE (l.map eI) i)/\(s.env 4).v=.int .i64 i/\JC (wE (l.map eI) i) ((l.map eI).take i |>.map (·.2)) ((l.map eI).drop i)=JC 0 [] (l.map eI))
  (fun e s=>(e=.exit 0/\JC 0 [] (l.map eI)=true/\(s.env 0).v=.sl b (l.map DC))\/(e=.ret/\JC 0 [] (l.map eI)=false/\(s.env 2).v=.bool false)) (fun i hi s k h ih hk=>?_) _ _ ?_ (fun e s h=>?_)
 ·obtain ⟨e0,e3,e4,hs⟩:=h;refine tA ?_;by_cases fa:i<l.length
  ·have ga:(i:Int)<l.length:=by omega
   have g1:(l.map DC)[i]?=some (DC l[i]):=by simp [fa]
   have hw:=GA (i:=i);have nf:i<(l.map eI).length:=by simpa using fa
   have hp:wE (l.map eI) (i + 1)=l[i].id:=by simp [wE,fa,eI]
   have hn:=PY l[i].name;have dP:=rid_ev (wE (l.map eI) i) l[i].id;have mf:(l.map eI)[i]=eI l[i]:=by simp
   have ht:((l.map eI).take (i + 1)).map (·.2)=((l.map eI).take i).map (·.2)++[l[i].name]:=by rw [<- yE nf,mf]; simp [eI]
   rw [y8 nf,mf] at hs;obtain ⟨x,hx⟩:∃ x,x=l[i]:=⟨_,rfl⟩;rw [<- hx] at g1 hp hn dP ht hs;simp only [eI,JC] at hs;have fail:∀ s',(s'.env 2).v=.bool false->(JS (wE (l.map eI) i) x.id&&!HR x.name (((l.map eI).take i).map (·.2))&&zF x.name)=false->k .ret s'=some (.bool (jN l),none):=fun s' h4 hf=>hk _ _ (.inr ⟨rfl,by rw [<- hs,hf]; rfl,h4⟩)
   simp only [fA] at hn dP;simp only [DC] at g1;cases c1:JS (wE (l.map eI) i) x.id with
   | false =>
    rw [c1] at dP;simp [IE,-V,-y4,-y3,y0,e0,e3,e4,ga,g1,dP];exact fail _ (by simp) (by simp [c1])
   | true =>
    rw [c1] at dP;cases c2:zF x.name with
    | false =>
     rw [c2] at hn;simp [IE,-V,-y4,-y3,y0,e0,e3,e4,ga,g1,dP,hn];exact fail _ (by simp) (by simp [c2])
    | true =>
     rw [c2] at hn;simp [IE,-V,-y4,-y3,y0,e0,e3,e4,ga,g1,dP,hn];have uk:((l.map eI).take i).map (·.2)=(l.take i).map aN.name:=by simp [<- List.map_take,eI,Function.comp_def]
     refine gA i (fun j s=>(s.env 0).v=.sl b (l.map DC)/\(s.env 4).v=.int .i64 i/\(s.env 5).v=.int .i64 j/\¬ x.name∈(l.take j).map aN.name)
      (fun e s=>(e=.exit 2/\¬ x.name∈(l.take i).map aN.name/\(s.env 0).v=.sl b (l.map DC)/\(s.env 4).v=.int .i64 i)\/(e=.ret/\x.name∈(l.take i).map aN.name/\(s.env 2).v=.bool false)) (fun j hj s k' h tw uc=>?_) _ _ ?_ (fun e s h=>?_)
     ·obtain ⟨e0,e4,e5,hm⟩:=h;refine tA ?_;by_cases hji:j<i
      ·have cj:(j:Int)<i:=by omega
       have g2:(l.map DC)[j]?=some (DC l[j]):=by simp [show j<l.length from by omega]
       have hwj:=GA (i:=j);have htj:l.take (j + 1)=l.take j++[l[j]]:=(yE (by omega)).symm;simp only [DC] at g2;by_cases pf:l[j].name=x.name
       ·simp [BF,-V,-y4,-y3,y0,e0,e4,e5,cj,g1,g2,pf];refine uc _ _ (.inr ⟨rfl,?_,by simp⟩);rw [<- pf];exact List.mem_map_of_mem (List.mem_take_iff_getElem.2 ⟨j,by omega,rfl⟩)
       ·simp [BF,-V,-y4,-y3,y0,e0,e4,e5,cj,g1,g2,pf,hwj];refine tw hji _ ⟨?_,?_,?_,?_⟩
        ·simp [e0]
        ·simp [e4]
        ·simp
        ·rw [htj,yM,yp];rintro (h | h)
         ·exact hm h
         ·simp at h; exact pf h.symm
      ·have cj:¬ (j:Int)<i:=by omega
       have mz:j=i:=by omega
       simp [BF,-V,-y4,-y3,y0,e4,e5,cj];exact uc _ _ (.inl ⟨rfl,mz ▸ hm,by simp [e0],by simp [e4]⟩)
     ·simp [e0,e4]
     ·rcases h with ⟨rfl,h1,e0,e4⟩ | ⟨rfl,h1,e2⟩
      ·simp [-V,-y4,-y3,y0,e0,e4,g1,hw];refine ih fa _ ⟨?_,?_,?_,?_⟩
       ·simp [e0]
       ·simp [hp]
       ·simp
       ·rw [hp,ht,<- hs,c1,c2,uk,GS h1];rfl
      ·simp [-V,-y4,-y3,y0];exact fail _ e2 (by rw [uk,HS h1]; simp)
  ·have ga:¬ (i:Int)<l.length:=by omega
   simp [IE,-V,-y4,-y3,y0,e0,e4,ga];refine hk _ _ (.inl ⟨rfl,?_,by simp [e0]⟩);rw [<- hs,yc (by simp; omega),JC]
 ·simp [wE]
 ·unfold jN;rcases h with ⟨rfl,h1,e0⟩ | ⟨rfl,h1,e2⟩
  ·by_cases h0:0<l.length
   ·have df:(1:Int)<=l.length:=by omega
    simp [-V,-y4,-y3,y0,e0,h0,df,h1];omega
   ·have df:¬ (1:Int)<=l.length:=by omega
    simp [-V,-y4,-y3,y0,e0,h0,df,h1]
  ·simp [-V,-y4,-y3,y0,h1,e2]
theorem blank_ev (v:Vl) (hv:v.ok):fA 251 [.agg (lA v)] (.bool (v.same Vl.zero)):=by
 have h:=same_ev _ v Vl.zero (Nat.lt_succ_self _) hv;refine rA (c:=mJ) rfl rfl ?_;simp only [fA,uA,Vl.zero,Vl.kind,Vl.b,Vl.i,Vl.s,Vl.id,Vl.kn,Vl.keys,Vl.xn,Vl.items,Vl.rn,Vl.rest,yk] at h ⊢;simp [mJ,-V,-y4,-y3,y0,h]
theorem rblank_ev (v:Vl) (hv:v.ok):fA 189 [.agg (lA v),.agg [.int .i64 0,.bool false,.int .i64 0,.str ⟨#[]⟩,.int .i64 0,.sl true [],.sl true [],.sl true []]] (.bool (v.same Vl.zero)):=by
 have h:=JY _ v Vl.zero (Nat.lt_succ_self _) hv;simp only [fA,uA,Vl.zero,Vl.kind,Vl.b,Vl.i,Vl.s,Vl.id,Vl.kn,Vl.keys,Vl.xn,Vl.items,Vl.rn,Vl.rest,yk] at h ⊢;exact h
def mB (rec:Bool) (m:SB):Bool:=!(!rec&&(m.crit||m.has))&&!(m.crit&&m.has)&&(m.has||m.dflt.same Vl.zero)
def PI (rec:Bool) (l:List SB):Bool:=l.all (mB rec)&&((rec||decide (0<l.length))&&(JC 0 [] (l.map sF)&&decide (l.length<=16)))
theorem members_ev (t:sA) (ht:t.ok) (hl:t.mems.length<=8796093022206) (hk:t.kind=5\/t.kind=6):fA 236 [.agg (qA t)] (.bool (PI (decide (t.kind=5)) t.mems)):=by
 obtain ⟨rc,hrc⟩:∃ rc,rc=decide (t.kind=5):=⟨_,rfl⟩;have hk:t.kind=5/\rc=true\/t.kind=6/\rc=false:=by
  rcases hk with h | h
  ·exact .inl ⟨h,by rw [hrc,h]; rfl⟩
  ·exact .inr ⟨h,by rw [hrc,h]; rfl⟩
 rw [<- hrc];clear hrc;refine rA (c:=zH) rfl rfl ?_;have ug:=fun b1 b2=>ids_ev (t.mems.map sF) (by simp; omega) b1 b2
 simp only [fA] at ug;simp [zH,-V,-y4,-y3,y0,qA];refine gA t.mems.length (fun i s=>(s.env 1).v=.ptr 1 1 0/\s.mem 1 1=some (jA t)/\(s.env 8).v=.sl t.mn (t.mems.map zA)/\(s.env 9).v=.int .i64 t.mems.length/\(s.env 10).v=.int .i64 i/\(s.env 3).v=.sl (t.mems.take i).isEmpty (((t.mems.take i).map sF).map K3)/\(s.env 4).v=.sl (t.mems.take i).isEmpty (((t.mems.take i).map sF).map nmC)/\((t.mems.take i).isEmpty=(t.mems.take i).isEmpty/\(s.env 3).a=.ex/\(s.env 4).a=.ex\/(t.mems.take i).isEmpty=false/\(s.env 3).a=.own 18 3/\(s.env 4).a=.own 23 9)/\(t.mems.drop i).all (mB rc)=t.mems.all (mB rc))
  (fun e s=>(e=.exit 0/\t.mems.all (mB rc)=true/\(s.env 1).v=.ptr 1 1 0/\s.mem 1 1=some (jA t)/\(s.env 3).v=.sl t.mems.isEmpty ((t.mems.map sF).map K3)/\(s.env 4).v=.sl t.mems.isEmpty ((t.mems.map sF).map nmC))\/(e=.ret/\t.mems.all (mB rc)=false/\(s.env 2).v=.bool false)) (fun i hi s k h ih uc=>?_) _ _ ?_ (fun e s h=>?_)
 ·obtain ⟨e1,m1,e8,e9,e10,e3,e4,an,hs⟩:=h;refine tA ?_;by_cases fa:i<t.mems.length
  ·have ga:(i:Int)<t.mems.length:=by omega
   have g1:(t.mems.map zA)[i]?=some (zA t.mems[i]):=by simp [fa]
   have hw:=GA (i:=i);have nj:t.mems.take (i + 1)=t.mems.take i++[t.mems[i]]:=(yE fa).symm;have tj:=blank_ev t.mems[i].dflt (ht.2.2 _ (y7 _)).1;rw [y8 fa,List.all_cons] at hs;generalize t.mems[i]=x at *
   simp only [zA] at g1;simp only [fA,uA] at tj;have ia:(t.mems.take i).length=i:=by simp; omega
   generalize hq:t.mems.take i=q at *
   have ff:kB 8 (q.length + 1)=true:=by rw [PA]; omega
   have ah:kB 16 (q.length + 1)=true:=by rw [PA]; omega
   have q1:lB 1 ((q.map sF).map K3)=true:=lC _ _ _ fun _=>rfl
   have q2:lB 1 ((q.map sF).map nmC)=true:=lC _ _ _ fun _=>rfl
   have fail:∀ s',(s'.env 2).v=.bool false->mB rc x=false->k .ret s'=some (.bool (PI rc t.mems),none):=fun s' h4 hf=>uc _ _ (.inr ⟨rfl,by rw [<- hs,hf]; rfl,h4⟩)
   have good:mB rc x=true->(t.mems.drop (i + 1)).all (mB rc)=t.mems.all (mB rc):=fun h=>by rw [<- hs,h]; rfl
   generalize hB:t.mems.all (mB rc)=B at *
   cases hg:mB rc x with
   | false =>
    cases hz:x.dflt.same Vl.zero <;> rw [hz] at tj <;> rcases hk with ⟨h5,rfl⟩ | ⟨h5,rfl⟩ <;> cases hc:x.crit <;> cases hh:x.has <;> first | (simp [mB,hc,hh,hz] at hg; done) | skip
    all_goals rcases an with ⟨a0,a3,a4⟩ | ⟨a0,a3,a4⟩ <;>
     simp [WF,-V,-y4,-y3,y0,e1,m1,e8,e9,e10,e3,e4,a0,a3,a4,ga,g1,hw,ff,ah,q1,q2,hc,hh,h5,tj]
    all_goals exact fail _ (by simp) hg
   | true =>
    have good:=good hg;cases hz:x.dflt.same Vl.zero <;> rw [hz] at tj <;> rcases hk with ⟨h5,rfl⟩ | ⟨h5,rfl⟩ <;> cases hc:x.crit <;> cases hh:x.has <;> first | (simp [mB,hc,hh,hz] at hg; done) | skip
    all_goals rcases an with ⟨a0,a3,a4⟩ | ⟨a0,a3,a4⟩ <;>
     simp [WF,-V,-y4,-y3,y0,e1,m1,e8,e9,e10,e3,e4,a0,a3,a4,ga,g1,hw,ff,ah,q1,q2,hc,hh,h5,tj]
    all_goals refine ih fa _ ⟨?_,?_,?_,?_,?_,?_,?_,?_,good⟩
    all_goals simp [nj,e1,m1,e8,e9,K3,nmC,sF,An.strip]
  ·have ga:¬ (i:Int)<t.mems.length:=by omega
   simp [WF,-V,-y4,-y3,y0,e9,e10,ga];rw [yC (by omega)] at e3 e4;rw [yc (by omega)] at hs;exact uc _ _ (.inl ⟨rfl,hs.symm,by simp [e1],by simp [m1],by simp [e3],by simp [e4]⟩)
 ·simp
 ·unfold PI;rcases h with ⟨rfl,h1,e1,m1,e3,e4⟩ | ⟨rfl,h1,e2⟩
  ·rw [h1];rcases hk with ⟨h5,rfl⟩ | ⟨h5,rfl⟩
   ·simp [-V,-y4,-y3,y0,e1,m1,e3,e4,h5,ug]
   ·by_cases h0:0<t.mems.length
    ·have df:(0:Int)<t.mems.length:=by omega
     simp [-V,-y4,-y3,y0,e1,m1,e3,e4,h5,h0,df,ug]
    ·have df:¬ (0:Int)<t.mems.length:=by omega
     simp [-V,-y4,-y3,y0,e1,m1,e3,e4,h5,h0,df]
  ·simp [-V,-y4,-y3,y0,h1,e2]
theorem z9 (l:List SB) (hl:l.length<=8796093022206) (na:∀ m∈l,m.ok) (b rec:Bool):fA 212 [.sl b (l.map zA),.bool rec] (.bool (PI rec l)):=by
  refine rA (c:=sI) rfl rfl ?_;simp [sI,-V,-y4,-y3,y0];refine gA l.length (fun i s=>(s.env 0).v=.sl b (l.map zA)/\(s.env 1).v=.bool rec/\(s.env 5).v=.int .i64 (wE (l.map sF) i)/\(s.env 6).v=.int .i64 i/\(JC (wE (l.map sF) i) ((l.map sF).take i |>.map (·.2)) ((l.map sF).drop i)&&(l.drop i).all (mB rec))=(JC 0 [] (l.map sF)&&l.all (mB rec)))
    (fun e s=>(e=.exit 0/\(JC 0 [] (l.map sF)&&l.all (mB rec))=true/\(s.env 0).v=.sl b (l.map zA)/\(s.env 1).v=.bool rec)\/(e=.ret/\(JC 0 [] (l.map sF)&&l.all (mB rec))=false/\(s.env 4).v=.bool false)) (fun i hi s k h ih hk=>?_) _ _ ?_ (fun e s h=>?_)
  · obtain ⟨e0,e1,e5,e6,hs⟩:=h
    refine tA ?_;by_cases fa:i<l.length
    · have ga:(i:Int)<l.length:=by omega
      have g1:(l.map zA)[i]?=some (zA l[i]):=by simp [fa]
      have hw:=GA (i:=i);have nf:i<(l.map sF).length:=by simpa using fa
      have hp:wE (l.map sF) (i + 1)=l[i].id:=by simp [wE,fa,sF]
      have hn:=PY l[i].name;have dP:=rid_ev (wE (l.map sF) i) l[i].id;have tj:=rblank_ev l[i].dflt (na _ (y7 _)).1;have mf:(l.map sF)[i]=sF l[i]:=by simp
      have ht:((l.map sF).take (i + 1)).map (·.2)=((l.map sF).take i).map (·.2)++[l[i].name]:=by rw [<- yE nf,mf]; simp [sF]
      rw [y8 nf,mf,y8 fa,List.all_cons] at hs;obtain ⟨x,hx⟩:∃ x,x=l[i]:=⟨_,rfl⟩;rw [<- hx] at g1 hp hn dP ht hs tj;simp only [JC] at hs;have hs2:((JS (wE (l.map sF) i) x.id&&!HR x.name (((l.map sF).take i).map (·.2))&&zF x.name&&mB rec x)&&(JC x.id (((l.map sF).take i).map (·.2)++[x.name]) ((l.map sF).drop (i + 1))&&(l.drop (i + 1)).all (mB rec)))=(JC 0 [] (l.map sF)&&l.all (mB rec)):=by
        rw [<- hs];simp only [sF,Bool.and_assoc];congr 1;congr 1;congr 1;rw [<- Bool.and_assoc,<- Bool.and_assoc,Bool.and_comm (mB rec x)]
      clear hs;have fail:∀ s',(s'.env 4).v=.bool false->(JS (wE (l.map sF) i) x.id&&!HR x.name (((l.map sF).take i).map (·.2))&&zF x.name&&mB rec x)=false->k .ret s'=some (.bool (PI rec l),none):=fun s' h4 hf=>hk _ _ (.inr ⟨rfl,by rw [<- hs2,hf]; rfl,h4⟩)
      simp only [fA,uA] at hn dP tj;simp only [zA] at g1;cases c1:JS (wE (l.map sF) i) x.id with
      | false =>
        rw [c1] at dP;simp [FD,-V,-y4,-y3,y0,e0,e1,e5,e6,ga,g1,dP];exact fail _ (by simp) (by simp [c1])
      | true =>
        rw [c1] at dP;cases c2:zF x.name with
        | false =>
          rw [c2] at hn;simp [FD,-V,-y4,-y3,y0,e0,e1,e5,e6,ga,g1,dP,hn];exact fail _ (by simp) (by simp [c2])
        | true =>
          rw [c2] at hn;have uk:((l.map sF).take i).map (·.2)=(l.take i).map SB.name:=by simp [<- List.map_take,sF,Function.comp_def]
          have inner:∀ s:pA,mB rec x=true->(s.env 0).v=.sl b (l.map zA)->(s.env 1).v=.bool rec->(s.env 6).v=.int .i64 i->(s.env 8).v=.int .i64 0->∀ p,(s.env 7).v=.ptr 7 p 0->s.mem 7 p=some ((zA x).map (⟨·,.no⟩)) →
              ∀ k2:Ex->pA->Option RV,(∀ s',(s'.env 4).v=.bool false->k2 .ret s'=k .ret s')->(∀ s',(s'.env 0).v=.sl b (l.map zA)->(s'.env 1).v=.bool rec->(s'.env 6).v=.int .i64 i->(s'.env 7).v=.ptr 7 p 0->s'.mem 7 p=some ((zA x).map (⟨·,.no⟩))->¬ x.name∈(l.take i).map SB.name->k2 (.exit 2) s'=some (.bool (PI rec l),none)) →
              GG dA eA UE s k2=some (.bool (PI rec l),none):=by
            intro s hgood e0 e1 e6 e8 p e7 m7 k2 iq hk3;refine gA i (fun j s=>(s.env 0).v=.sl b (l.map zA)/\(s.env 1).v=.bool rec/\(s.env 6).v=.int .i64 i/\(s.env 7).v=.ptr 7 p 0/\s.mem 7 p=some ((zA x).map (⟨·,.no⟩))/\(s.env 8).v=.int .i64 j/\¬ x.name∈(l.take j).map SB.name)
              (fun e s=>(e=.exit 2/\¬ x.name∈(l.take i).map SB.name/\(s.env 0).v=.sl b (l.map zA)/\(s.env 1).v=.bool rec/\(s.env 6).v=.int .i64 i/\(s.env 7).v=.ptr 7 p 0/\s.mem 7 p=some ((zA x).map (⟨·,.no⟩)))\/(e=.ret/\x.name∈(l.take i).map SB.name/\(s.env 4).v=.bool false)) (fun j hj s k' h tw uc=>?_) _ _ ?_ (fun e s h=>?_)
            · obtain ⟨e0,e1,e6,e7,m7,e8,hm⟩:=h
              refine tA ?_;by_cases hji:j<i
              · have cj:(j:Int)<i:=by omega
                have g2:(l.map zA)[j]?=some (zA l[j]):=by simp [show j<l.length from by omega]
                have hwj:=GA (i:=j);have htj:l.take (j + 1)=l.take j++[l[j]]:=(yE (by omega)).symm;simp only [zA,yg,yk] at g2 m7;by_cases pf:l[j].name=x.name
                · simp [UE,-V,-y4,-y3,y0,e0,e1,e6,e7,m7,e8,cj,g1,g2,pf]
                  refine uc _ _ (.inr ⟨rfl,?_,by simp⟩);rw [<- pf];exact List.mem_map_of_mem (List.mem_take_iff_getElem.2 ⟨j,by omega,rfl⟩)
                · simp [UE,-V,-y4,-y3,y0,e0,e1,e6,e7,m7,e8,cj,g1,g2,pf,hwj]
                  refine tw hji _ ⟨?_,?_,?_,?_,?_,?_,?_⟩
                  · simp [e0]
                  · simp [e1]
                  · simp [e6]
                  · simp [e7]
                  · simp [m7,zA]
                  · simp
                  · rw [htj,yM,yp]
                    rintro (h | h)
                    · exact hm h
                    · simp at h; exact pf h.symm
              · have cj:¬ (j:Int)<i:=by omega
                have mz:j=i:=by omega
                simp [UE,-V,-y4,-y3,y0,e6,e8,cj];exact uc _ _ (.inl ⟨rfl,mz ▸ hm,by simp [e0],by simp [e1],by simp [e6],by simp [e7],by simp [m7]⟩)
            · simp [e0,e1,e6,e7,e8,m7]
            · rcases h with ⟨rfl,h1,e0,e1,e6,e7,m7⟩ | ⟨rfl,h1,e4⟩
              · exact hk3 s e0 e1 e6 e7 m7 h1
              · rw [iq _ e4]
                exact fail _ e4 (by rw [uk,HS h1]; simp)
          have next:∀ s',(s'.env 0).v=.sl b (l.map zA)->(s'.env 1).v=.bool rec->(s'.env 5).v=.int .i64 x.id->(s'.env 6).v=.int .i64 ((i + 1:Nat):Int)->mB rec x=true->¬ x.name∈(l.take i).map SB.name->GG dA eA FD s' k=some (.bool (PI rec l),none):=fun s' f0 f1 f5 f6 hg eb=>ih fa _ ⟨f0,f1,by rw [hp]; exact f5,f6,by rw [hp,ht,<- hs2,c1,c2,hg,uk,GS eb]; rfl⟩
          cases hz:x.dflt.same Vl.zero <;> rw [hz] at tj <;> cases rec <;> cases hc:x.crit <;> cases hh:x.has <;>
            simp [FD,-V,-y4,-y3,y0,e0,e1,e5,e6,ga,g1,dP,hn,hc,hh,tj] <;>
            first
            | exact fail _ (by simp) (by simp [mB,hc,hh,hz])
            | (refine inner _ (by simp [mB,hc,hh,hz]) ?_ ?_ ?_ ?_ (s.next + 1) ?_ ?_ _ ?_ ?_
               · simp [e0]
               · simp [e1]
               · simp [e6]
               · simp
               · simp
               · simp [zA,hc,hh]
               · intro s' _; rfl
               · intro s' f0 f1 f6 f7 fm eb
                 simp only [zA,yg,yk] at fm;simp [-V,-y4,-y3,y0,f0,f1,f6,f7,fm,hw];refine next _ ?_ ?_ ?_ ?_ (by simp [mB,hc,hh,hz]) eb <;> simp [f0,f1])
    · have ga:¬ (i:Int)<l.length:=by omega
      simp [FD,-V,-y4,-y3,y0,e0,e6,ga];refine hk _ _ (.inl ⟨rfl,?_,by simp [e0],by simp [e1]⟩);rw [<- hs,yc (by simp; omega),yc (by omega),JC];rfl
  · simp [wE]
  · unfold PI
    rcases h with ⟨rfl,h1,e0,e1⟩ | ⟨rfl,h1,e2⟩
    · rw [y9] at h1
      rw [h1.1,h1.2];by_cases h16:l.length<=16
      · have tq:(l.length:Int)<=16:=by omega
        cases rec
        · by_cases h0:0<l.length
          · have df:(1:Int)<=l.length:=by omega
            simp [-V,-y4,-y3,y0,e0,e1,h0,df,h16,tq]
          · have df:¬ (1:Int)<=l.length:=by omega
            simp [-V,-y4,-y3,y0,e0,e1,h0,df,h16,tq]
        · simp [-V,-y4,-y3,y0,e0,e1,h16,tq]
      · have tq:¬ (l.length:Int)<=16:=by omega
        simp [-V,-y4,-y3,y0,e0,e1,h16,tq]
    · have:(l.all (mB rec)&&((rec||decide (0<l.length))&&(JC 0 [] (l.map sF)&&decide (l.length<=16))))=false:=by
        rw [Bool.and_eq_false_iff] at h1;rcases h1 with h1 | h1 <;> simp [h1]
      rw [this];simp [-V,-y4,-y3,y0,e2]
mutual
theorem Vl.same_refl:∀ v:Vl,v.same v=true
 | .mk k b i s d kn ks xn xs rn rs=>by rw [Vl.same]; simp [Vl.sames_refl ks,Vl.sames_refl xs]
theorem Vl.sames_refl:∀ l:List Vl,Vl.sames l l=true
 | []=>by rw [Vl.sames]
 | v :: r=>by rw [Vl.sames]; simp [Vl.same_refl v,Vl.sames_refl r]
end
theorem SB.same_refl (m:SB):m.same m=true:=by simp [SB.same,Vl.same_refl]
theorem bR:∀ l:List SB,tB l l=true
 | []=>rfl
 | m :: r=>by simp [tB,SB.same_refl,bR r]
def LB:sA:=⟨0,⟨#[]⟩,0,0,0,true,[],true,[],0,0,false⟩
def sA.left (t:sA):sA :=
 if t.kind=1 then { t with kind:=0 }
 else if t.kind=2 then { t with kind:=0,low:=0,high:=0 }
 else if t.kind=3 then { t with kind:=0,max:=0 }
 else if t.kind=4 then { t with kind:=0,name:=⟨#[]⟩,sn:=true,syms:=[],opn:=false }
 else if t.kind=5 then { t with kind:=0,name:=⟨#[]⟩,mn:=true,mems:=[] }
 else if t.kind=6 then { t with kind:=0,name:=⟨#[]⟩,mn:=true,mems:=[],opn:=false }
 else if t.kind=7 then { t with kind:=0,max:=0,elem:=0 }
 else if t.kind=8 then { t with kind:=0,max:=0,elem:=0,key:=0 }
 else { t with kind:=0,elem:=0 }
def tI (t:sA):Bool :=
 if t.kind=2 then decide (t.low<=t.high)
 else if t.kind=3 then decide (0<=t.max)&&decide (t.max<=200)
 else if t.kind=4 then zF t.name&&jN t.syms
 else if t.kind=5 then zF t.name&&PI true t.mems
 else if t.kind=6 then zF t.name&&PI false t.mems
 else if t.kind=7\/t.kind=8 then decide (0<=t.max)&&decide (t.max<=50)
 else true
def gB (t:sA):Bool:=decide (1<=t.kind/\t.kind<=9)&&(tI t&&t.left.same LB)
def sA.fine (t:sA):Prop:=t.ok/\t.syms.length<=8796093022206/\t.mems.length<=8796093022206
theorem fT {t u:sA} (h:t.ok) (h1:u.syms=t.syms\/u.syms=[]) (h2:u.mems=t.mems\/u.mems=[]):u.ok:=by
 refine ⟨?_,?_,?_⟩
 ·rcases h1 with h1 | h1
  ·rw [h1]; exact h.1
  ·rw [h1]; simp
 ·rcases h2 with h2 | h2
  ·rw [h2]; exact h.2.1
  ·rw [h2]; simp
 ·rcases h2 with h2 | h2
  ·rw [h2]; exact h.2.2
  ·rw [h2]; simp
theorem left_ok {t:sA} (h:t.ok):t.left.ok:=by
 unfold sA.left;by_cases h1:t.kind=1
 ·rw [if_pos h1]; exact fT h (.inl rfl) (.inl rfl)
 by_cases h2:t.kind=2
 ·rw [if_neg h1,if_pos h2]; exact fT h (.inl rfl) (.inl rfl)
 by_cases h3:t.kind=3
 ·rw [if_neg h1,if_neg h2,if_pos h3]; exact fT h (.inl rfl) (.inl rfl)
 by_cases h4:t.kind=4
 ·rw [if_neg h1,if_neg h2,if_neg h3,if_pos h4]; exact fT h (.inr rfl) (.inl rfl)
 by_cases h5:t.kind=5
 ·rw [if_neg h1,if_neg h2,if_neg h3,if_neg h4,if_pos h5]; exact fT h (.inl rfl) (.inr rfl)
 by_cases h6:t.kind=6
 ·rw [if_neg h1,if_neg h2,if_neg h3,if_neg h4,if_neg h5,if_pos h6]; exact fT h (.inl rfl) (.inr rfl)
 rw [if_neg h1,if_neg h2,if_neg h3,if_neg h4,if_neg h5,if_neg h6];by_cases h7:t.kind=7
 ·rw [if_pos h7]; exact fT h (.inl rfl) (.inl rfl)
 by_cases h8:t.kind=8
 ·rw [if_neg h7,if_pos h8]; exact fT h (.inl rfl) (.inl rfl)
 rw [if_neg h7,if_neg h8]; exact fT h (.inl rfl) (.inl rfl)
theorem kinds (k:Int):k=1\/k=2\/k=3\/k=4\/k=5\/k=6\/k=7\/k=8\/k=9\/¬ (1<=k/\k<=9):=by omega
def qC (n:Int):List AV:=[.int .i64 n]
def sA.usesL (t:sA):List Int:=(t.mems.map SB.ty++(if t.kind=8 then [t.key] else []))++(if 7<=t.kind then [t.elem] else [])
section
variable (t:sA) (hl:t.mems.length<=8796093022206)
include t hl
theorem uses_lp (r:RV) (k:Ex->pA->Option RV)
  (hk:∀ s':pA,(s'.env 1).v=.ptr 1 1 0->s'.mem 1 1=some (jA t)->(s'.env 3).v=.sl t.mems.isEmpty ((t.mems.map SB.ty).map qC)->(t.mems.isEmpty=t.mems.isEmpty/\(s'.env 3).a=.ex\/t.mems.isEmpty=false/\(s'.env 3).a=.own 17 3)->k (.exit 0) s'=some r)
  (s:pA) (h1:(s.env 1).v=.ptr 1 1 0) (h2:s.mem 1 1=some (jA t)) (h3:(s.env 7).v=.sl t.mn (t.mems.map zA)) (h4:(s.env 8).v=.int .i64 t.mems.length) (h5:(s.env 9).v=.int .i64 0) (h6:(s.env 3).v=.sl true []) (h7:(s.env 3).a=.ex):GG dA eA PF s k=some r:=by
 refine gA t.mems.length (fun i s=>(s.env 1).v=.ptr 1 1 0/\s.mem 1 1=some (jA t)/\(s.env 7).v=.sl t.mn (t.mems.map zA)/\(s.env 8).v=.int .i64 t.mems.length/\(s.env 9).v=.int .i64 i/\(s.env 3).v=.sl (t.mems.take i).isEmpty (((t.mems.take i).map SB.ty).map qC)/\((t.mems.take i).isEmpty=(t.mems.take i).isEmpty/\(s.env 3).a=.ex\/(t.mems.take i).isEmpty=false/\(s.env 3).a=.own 17 3))
  (fun e s=>e=.exit 0/\(s.env 1).v=.ptr 1 1 0/\s.mem 1 1=some (jA t)/\(s.env 3).v=.sl t.mems.isEmpty ((t.mems.map SB.ty).map qC)/\(t.mems.isEmpty=t.mems.isEmpty/\(s.env 3).a=.ex\/t.mems.isEmpty=false/\(s.env 3).a=.own 17 3)) (fun i hi s k h ih hk=>?_) _ _ ?_ (fun e s h=>?_)
 ·obtain ⟨e1,m1,e7,e8,e9,e3,an⟩:=h;refine tA ?_;by_cases fa:i<t.mems.length
  ·have ga:(i:Int)<t.mems.length:=by omega
   have g1:(t.mems.map zA)[i]?=some (zA t.mems[i]):=by simp [fa]
   have hw:=GA (i:=i);have ht:t.mems.take (i + 1)=t.mems.take i++[t.mems[i]]:=(yE fa).symm;generalize t.mems[i]=x at *
   simp only [zA] at g1;have ia:(t.mems.take i).length=i:=by simp; omega
   generalize t.mems.take i=q at *
   have ff:kB 8 (q.length + 1)=true:=by rw [PA]; omega
   have q1:lB 1 ((q.map SB.ty).map qC)=true:=lC _ _ _ fun _=>rfl
   rcases an with ⟨a0,a3⟩ | ⟨a0,a3⟩
   ·simp [PF,-V,-y4,-y3,y0,e1,m1,e7,e8,e9,e3,a0,a3,ga,g1,hw,ff,q1];refine ih fa _ ⟨?_,?_,?_,?_,?_,?_,?_⟩ <;> simp [ht,e1,m1,e7,e8,qC,An.strip]
   ·simp [PF,-V,-y4,-y3,y0,e1,m1,e7,e8,e9,e3,a0,a3,ga,g1,hw,ff,q1];refine ih fa _ ⟨?_,?_,?_,?_,?_,?_,?_⟩ <;> simp [ht,e1,m1,e7,e8,qC,An.strip]
  ·have ga:¬ (i:Int)<t.mems.length:=by omega
   simp [PF,-V,-y4,-y3,y0,e8,e9,ga];rw [yC (by omega)] at e3 an;exact hk _ _ ⟨rfl,by simp [e1],by simp [m1],by simp [e3],by simpa using an⟩
 ·simp [h1,h2,h3,h4,h5,h6,h7]
 ·obtain ⟨rfl,e1,m1,e3,an⟩:=h;exact hk s e1 m1 e3 an
theorem uses_ev (b:Bool) (hb:b=t.usesL.isEmpty):fA 222 [.agg (qA t)] (.sl b (t.usesL.map qC)):=by
 subst hb;refine rA (c:=DK) rfl rfl ?_;simp [DK,-V,-y4,-y3,y0,qA];refine uses_lp t hl _ _ (fun s e1 m1 e3 an=>?_) _ ?_ ?_ ?_ ?_ ?_ ?_ ?_
 ·have q1:lB 1 ((t.mems.map SB.ty).map qC)=true:=lC _ _ _ fun _=>rfl
  have ff:kB 8 (t.mems.length + 1)=true:=by rw [PA]; omega
  have ah:kB 8 (t.mems.length + 1 + 1)=true:=by rw [PA]; omega
  unfold sA.usesL;by_cases h8:t.kind=8
  ·rcases an with ⟨a0,a3⟩ | ⟨a0,a3⟩
   ·simp [-V,-y4,-y3,y0,e1,m1,e3,a0,a3,h8,q1,ff,ah,qC]
   ·simp [-V,-y4,-y3,y0,e1,m1,e3,a0,a3,h8,q1,ff,ah,qC]
  ·by_cases h7:7<=t.kind
   ·rcases an with ⟨a0,a3⟩ | ⟨a0,a3⟩
    ·simp [-V,-y4,-y3,y0,e1,m1,e3,a0,a3,h8,h7,q1,ff,ah,qC]
    ·simp [-V,-y4,-y3,y0,e1,m1,e3,a0,a3,h8,h7,q1,ff,ah,qC]
   ·simp [-V,-y4,-y3,y0,e1,m1,e3,h8,h7]
 all_goals simp
theorem ruses_lp (r:RV) (k:Ex->pA->Option RV)
  (hk:∀ s':pA,(s'.env 1).v=.ptr 1 1 0->s'.mem 1 1=some (jA t)->(s'.env 3).v=.sl t.mems.isEmpty ((t.mems.map SB.ty).map qC)->(t.mems.isEmpty=t.mems.isEmpty/\(s'.env 3).a=.ex\/t.mems.isEmpty=false/\(s'.env 3).a=.own 20 3)->k (.exit 0) s'=some r)
  (s:pA) (h1:(s.env 1).v=.ptr 1 1 0) (h2:s.mem 1 1=some (jA t)) (h5:(s.env 4).v=.int .i64 0) (h6:(s.env 3).v=.sl true []) (h7:(s.env 3).a=.ex):GG dA eA sG s k=some r:=by
 refine gA t.mems.length (fun i s=>(s.env 1).v=.ptr 1 1 0/\s.mem 1 1=some (jA t)/\(s.env 4).v=.int .i64 i/\(s.env 3).v=.sl (t.mems.take i).isEmpty (((t.mems.take i).map SB.ty).map qC)/\((t.mems.take i).isEmpty=(t.mems.take i).isEmpty/\(s.env 3).a=.ex\/(t.mems.take i).isEmpty=false/\(s.env 3).a=.own 20 3))
  (fun e s=>e=.exit 0/\(s.env 1).v=.ptr 1 1 0/\s.mem 1 1=some (jA t)/\(s.env 3).v=.sl t.mems.isEmpty ((t.mems.map SB.ty).map qC)/\(t.mems.isEmpty=t.mems.isEmpty/\(s.env 3).a=.ex\/t.mems.isEmpty=false/\(s.env 3).a=.own 20 3)) (fun i hi s k h ih hk=>?_) _ _ ?_ (fun e s h=>?_)
 ·obtain ⟨e1,m1,e9,e3,an⟩:=h;refine tA ?_;by_cases fa:i<t.mems.length
  ·have ga:(i:Int)<t.mems.length:=by omega
   have g1:(t.mems.map zA)[i]?=some (zA t.mems[i]):=by simp [fa]
   have hw:=GA (i:=i);have ht:t.mems.take (i + 1)=t.mems.take i++[t.mems[i]]:=(yE fa).symm;generalize t.mems[i]=x at *
   simp only [zA] at g1;have ia:(t.mems.take i).length=i:=by simp; omega
   generalize t.mems.take i=q at *
   have ff:kB 8 (q.length + 1)=true:=by rw [PA]; omega
   have q1:lB 1 ((q.map SB.ty).map qC)=true:=lC _ _ _ fun _=>rfl
   rcases an with ⟨a0,a3⟩ | ⟨a0,a3⟩
   ·simp [sG,-V,-y4,-y3,y0,e1,m1,e9,e3,a0,a3,ga,g1,hw,ff,q1];refine ih fa _ ⟨?_,?_,?_,?_,?_⟩ <;> simp [ht,e1,m1,qC,An.strip]
   ·simp [sG,-V,-y4,-y3,y0,e1,m1,e9,e3,a0,a3,ga,g1,hw,ff,q1];refine ih fa _ ⟨?_,?_,?_,?_,?_⟩ <;> simp [ht,e1,m1,qC,An.strip]
  ·have ga:¬ (i:Int)<t.mems.length:=by omega
   simp [sG,-V,-y4,-y3,y0,e1,m1,e9,ga];rw [yC (by omega)] at e3 an;exact hk _ _ ⟨rfl,by simp [e1],by simp [m1],by simp [e3],by simpa using an⟩
 ·simp [h1,h2,h5,h6,h7]
 ·obtain ⟨rfl,e1,m1,e3,an⟩:=h;exact hk s e1 m1 e3 an
theorem ruses_ev (h9:t.kind<=9) (b:Bool) (hb:b=t.usesL.isEmpty):fA 181 [.agg (qA t)] (.sl b (t.usesL.map qC)):=by
 subst hb;refine rA (c:=IL) rfl rfl ?_;simp [IL,-V,-y4,-y3,y0,qA];refine ruses_lp t hl _ _ (fun s e1 m1 e3 an=>?_) _ ?_ ?_ ?_ ?_ ?_
 ·have q1:lB 1 ((t.mems.map SB.ty).map qC)=true:=lC _ _ _ fun _=>rfl
  have ff:kB 8 (t.mems.length + 1)=true:=by rw [PA]; omega
  have ah:kB 8 (t.mems.length + 1 + 1)=true:=by rw [PA]; omega
  unfold sA.usesL;have hc:t.kind=8\/t.kind=7\/t.kind=9\/(¬ t.kind=8/\¬ t.kind=7/\¬ t.kind=9/\¬ 7<=t.kind):=by omega
  rcases hc with h | h | h | ⟨h8,h7,h9,h⟩
  ·rcases an with ⟨a0,a3⟩ | ⟨a0,a3⟩ <;> simp [-V,-y4,-y3,y0,e1,m1,e3,a0,a3,h,q1,ff,ah,qC]
  ·rcases an with ⟨a0,a3⟩ | ⟨a0,a3⟩ <;> simp [-V,-y4,-y3,y0,e1,m1,e3,a0,a3,h,q1,ff,ah,qC]
  ·rcases an with ⟨a0,a3⟩ | ⟨a0,a3⟩ <;> simp [-V,-y4,-y3,y0,e1,m1,e3,a0,a3,h,q1,ff,ah,qC]
  ·simp [-V,-y4,-y3,y0,e1,m1,e3,h8,h7,h9,h]
 all_goals simp
end
def aE (v:Vl):Bool :=
 (decide (v.kind=1)||!v.b)&&((decide (v.kind=2)||decide (v.i=0))&&((decide (v.kind=3)||decide (v.s=⟨#[]⟩))&&((decide (v.kind=4)||decide (v.kind=6)||decide (v.id=0))&&((decide (v.kind=8)||v.keys.isEmpty)&&((decide (5<=v.kind)||v.items.isEmpty)&&(decide (v.kind=5)||decide (v.kind=6)||v.rest.isEmpty))))))
def Vl.bare (v:Vl):Vl:=.mk v.kind (if v.kind=1 then v.b else false) (if v.kind=2 then v.i else 0) (if v.kind=3 then v.s else ⟨#[]⟩) (if v.kind=4\/v.kind=6 then v.id else 0)
 (if v.kind=8 then v.kn else true) (if v.kind=8 then v.keys else []) (if 5<=v.kind then v.xn else true) (if 5<=v.kind then v.items else []) (if v.kind=5\/v.kind=6 then v.rn else true) (if v.kind=5\/v.kind=6 then v.rest else [])
section
variable (v:Vl)
include v
theorem bare_ev1 (h:v.kind=1):fA 256 [.agg (lA v)] (.agg (lA v.bare)):=by
 refine rA (c:=sB) rfl rfl ?_;obtain ⟨k,b,i,s,d,kn,ks,xn,xs,rn,rs⟩:=v;have h:k=1:=h;subst h;rw [uA,uA];simp [sB,-V,-y4,-y3,y0,Vl.bare,Vl.kind,Vl.b,Vl.i,Vl.s,Vl.id,Vl.kn,Vl.keys,Vl.xn,Vl.items,Vl.rn,Vl.rest]
theorem bare_ev2 (h:v.kind=2):fA 256 [.agg (lA v)] (.agg (lA v.bare)):=by
 refine rA (c:=sB) rfl rfl ?_;obtain ⟨k,b,i,s,d,kn,ks,xn,xs,rn,rs⟩:=v;have h:k=2:=h;subst h;rw [uA,uA];simp [sB,-V,-y4,-y3,y0,Vl.bare,Vl.kind,Vl.b,Vl.i,Vl.s,Vl.id,Vl.kn,Vl.keys,Vl.xn,Vl.items,Vl.rn,Vl.rest]
theorem bare_ev3 (h:v.kind=3):fA 256 [.agg (lA v)] (.agg (lA v.bare)):=by
 refine rA (c:=sB) rfl rfl ?_;obtain ⟨k,b,i,s,d,kn,ks,xn,xs,rn,rs⟩:=v;have h:k=3:=h;subst h;rw [uA,uA];simp [sB,-V,-y4,-y3,y0,Vl.bare,Vl.kind,Vl.b,Vl.i,Vl.s,Vl.id,Vl.kn,Vl.keys,Vl.xn,Vl.items,Vl.rn,Vl.rest]
theorem bare_ev4 (h:v.kind=4):fA 256 [.agg (lA v)] (.agg (lA v.bare)):=by
 refine rA (c:=sB) rfl rfl ?_;obtain ⟨k,b,i,s,d,kn,ks,xn,xs,rn,rs⟩:=v;have h:k=4:=h;subst h;rw [uA,uA];simp [sB,-V,-y4,-y3,y0,Vl.bare,Vl.kind,Vl.b,Vl.i,Vl.s,Vl.id,Vl.kn,Vl.keys,Vl.xn,Vl.items,Vl.rn,Vl.rest]
theorem bare_ev5 (h:v.kind=5):fA 256 [.agg (lA v)] (.agg (lA v.bare)):=by
 refine rA (c:=sB) rfl rfl ?_;obtain ⟨k,b,i,s,d,kn,ks,xn,xs,rn,rs⟩:=v;have h:k=5:=h;subst h;rw [uA,uA];simp [sB,-V,-y4,-y3,y0,Vl.bare,Vl.kind,Vl.b,Vl.i,Vl.s,Vl.id,Vl.kn,Vl.keys,Vl.xn,Vl.items,Vl.rn,Vl.rest]
theorem bare_ev6 (h:v.kind=6):fA 256 [.agg (lA v)] (.agg (lA v.bare)):=by
 refine rA (c:=sB) rfl rfl ?_;obtain ⟨k,b,i,s,d,kn,ks,xn,xs,rn,rs⟩:=v;have h:k=6:=h;subst h;rw [uA,uA];simp [sB,-V,-y4,-y3,y0,Vl.bare,Vl.kind,Vl.b,Vl.i,Vl.s,Vl.id,Vl.kn,Vl.keys,Vl.xn,Vl.items,Vl.rn,Vl.rest]
theorem bare_ev7 (h:v.kind=7):fA 256 [.agg (lA v)] (.agg (lA v.bare)):=by
 refine rA (c:=sB) rfl rfl ?_;obtain ⟨k,b,i,s,d,kn,ks,xn,xs,rn,rs⟩:=v;have h:k=7:=h;subst h;rw [uA,uA];simp [sB,-V,-y4,-y3,y0,Vl.bare,Vl.kind,Vl.b,Vl.i,Vl.s,Vl.id,Vl.kn,Vl.keys,Vl.xn,Vl.items,Vl.rn,Vl.rest]
theorem bare_ev8 (h:v.kind=8):fA 256 [.agg (lA v)] (.agg (lA v.bare)):=by
 refine rA (c:=sB) rfl rfl ?_;obtain ⟨k,b,i,s,d,kn,ks,xn,xs,rn,rs⟩:=v;have h:k=8:=h;subst h;rw [uA,uA];simp [sB,-V,-y4,-y3,y0,Vl.bare,Vl.kind,Vl.b,Vl.i,Vl.s,Vl.id,Vl.kn,Vl.keys,Vl.xn,Vl.items,Vl.rn,Vl.rest]
theorem bare_ev9 (h:v.kind=9):fA 256 [.agg (lA v)] (.agg (lA v.bare)):=by
 refine rA (c:=sB) rfl rfl ?_;obtain ⟨k,b,i,s,d,kn,ks,xn,xs,rn,rs⟩:=v;have h:k=9:=h;subst h;rw [uA,uA];simp [sB,-V,-y4,-y3,y0,Vl.bare,Vl.kind,Vl.b,Vl.i,Vl.s,Vl.id,Vl.kn,Vl.keys,Vl.xn,Vl.items,Vl.rn,Vl.rest]
theorem bare_ev (h:1<=v.kind/\v.kind<=9):fA 256 [.agg (lA v)] (.agg (lA v.bare)):=by
 rcases kinds v.kind with e | e | e | e | e | e | e | e | e | e
 ·exact bare_ev1 v e
 ·exact bare_ev2 v e
 ·exact bare_ev3 v e
 ·exact bare_ev4 v e
 ·exact bare_ev5 v e
 ·exact bare_ev6 v e
 ·exact bare_ev7 v e
 ·exact bare_ev8 v e
 ·exact bare_ev9 v e
 ·exact absurd h e
end
theorem proper_ev1 (v w:Vl) (hb:fA 256 [.agg (lA v)] (.agg (lA w))):fA 238 [.agg (lA v)] (.bool ((v.b == w.b)&&(decide (v.i=w.i)&&(decide (v.s=w.s)&&(decide (v.id=w.id)&&(decide (v.keys.length=w.keys.length)&&(decide (v.items.length=w.items.length)&&decide (v.rest.length=w.rest.length)))))))):=by
 refine rA (c:=WC) rfl rfl ?_;rw [uA,uA] at hb;rw [uA];simp only [fA] at hb;by_cases h1:v.b=w.b
 ·by_cases h2:v.i=w.i
  ·by_cases h3:v.s=w.s
   ·by_cases h4:v.id=w.id
    ·by_cases h5:v.keys.length=w.keys.length
     ·by_cases h6:v.items.length=w.items.length
      ·by_cases h7:v.rest.length=w.rest.length
       ·simp [WC,-V,-y4,-y3,y0,hb,h1.symm,h2.symm,h3.symm,h4.symm,h5,h6,h7]
       ·have h7':¬ (v.rest.length:Int)=w.rest.length:=by omega
        simp [WC,-V,-y4,-y3,y0,hb,h1.symm,h2.symm,h3.symm,h4.symm,h5,h6,h7,h7']
      ·have h6':¬ (v.items.length:Int)=w.items.length:=by omega
       simp [WC,-V,-y4,-y3,y0,hb,h1.symm,h2.symm,h3.symm,h4.symm,h5,h6,h6']
     ·have h5':¬ (v.keys.length:Int)=w.keys.length:=by omega
      simp [WC,-V,-y4,-y3,y0,hb,h1.symm,h2.symm,h3.symm,h4.symm,h5,h5']
    ·simp [WC,-V,-y4,-y3,y0,hb,h1.symm,h2.symm,h3.symm,h4]
   ·simp [WC,-V,-y4,-y3,y0,hb,h1.symm,h2.symm,h3]
  ·simp [WC,-V,-y4,-y3,y0,hb,h1.symm,h2]
 ·simp [WC,-V,-y4,-y3,y0,hb,h1]
theorem zero_bare {α β:Type} (k:Int) (h:1<=k/\k<=9) (b:Bool) (i:Int) (s:ByteArray) (d:Int) (ks xs:List α) (rs:List β) :
  ((decide (k=1)||!b)&&((decide (k=2)||decide (i=0))&&((decide (k=3)||decide (s=⟨#[]⟩))&&((decide (k=4)||decide (k=6)||decide (d=0))&&((decide (k=8)||ks.isEmpty)&&((decide (5<=k)||xs.isEmpty)&&(decide (k=5)||decide (k=6)||rs.isEmpty))))))) =
  ((b == (if k=1 then b else false))&&(decide (i=(if k=2 then i else 0))&&(decide (s=(if k=3 then s else ⟨#[]⟩))&&(decide (d=(if k=4\/k=6 then d else 0))&&(decide (ks.length=(if k=8 then ks else []).length)&&(decide (xs.length=(if 5<=k then xs else []).length)&&decide (rs.length=(if k=5\/k=6 then rs else []).length))))))):=by
 rcases kinds k with e | e | e | e | e | e | e | e | e | e
 all_goals first | exact absurd h e | skip
 all_goals cases b <;> cases ks <;> cases xs <;> cases rs <;> simp [e]
theorem proper_ev (v:Vl) (h:1<=v.kind/\v.kind<=9):fA 238 [.agg (lA v)] (.bool (aE v)):=by
 have r:=proper_ev1 v v.bare (bare_ev v h);have e:=zero_bare v.kind h v.b v.i v.s v.id v.keys v.items v.rest;unfold aE;rw [e];exact r
theorem rzero_ev1 (v:Vl) (h:v.kind=1):fA 182 [.agg (lA v)] (.bool (aE v)):=by
 refine rA (c:=iA) rfl rfl ?_;rw [uA];unfold aE;by_cases hi:v.i=0
 ·by_cases hs:v.s=⟨#[]⟩
  ·by_cases hd:v.id=0
   ·by_cases hk:v.keys=[]
    ·by_cases hx:v.items=[]
     ·by_cases hr:v.rest=[]
      ·simp [iA,-V,-y4,-y3,y0,h,hi,hs,hd,hk,hx,hr]
      ·simp [iA,-V,-y4,-y3,y0,h,hi,hs,hd,hk,hx,hr]
     ·simp [iA,-V,-y4,-y3,y0,h,hi,hs,hd,hk,hx]
    ·simp [iA,-V,-y4,-y3,y0,h,hi,hs,hd,hk]
   ·simp [iA,-V,-y4,-y3,y0,h,hi,hs,hd]
  ·simp [iA,-V,-y4,-y3,y0,h,hi,hs]
 ·simp [iA,-V,-y4,-y3,y0,h,hi]
theorem rzero_ev2 (v:Vl) (h:v.kind=2):fA 182 [.agg (lA v)] (.bool (aE v)):=by
 refine rA (c:=iA) rfl rfl ?_;rw [uA];unfold aE;by_cases hb:v.b=false
 ·by_cases hs:v.s=⟨#[]⟩
  ·by_cases hd:v.id=0
   ·by_cases hk:v.keys=[]
    ·by_cases hx:v.items=[]
     ·by_cases hr:v.rest=[]
      ·simp [iA,-V,-y4,-y3,y0,h,hb,hs,hd,hk,hx,hr]
      ·simp [iA,-V,-y4,-y3,y0,h,hb,hs,hd,hk,hx,hr]
     ·simp [iA,-V,-y4,-y3,y0,h,hb,hs,hd,hk,hx]
    ·simp [iA,-V,-y4,-y3,y0,h,hb,hs,hd,hk]
   ·simp [iA,-V,-y4,-y3,y0,h,hb,hs,hd]
  ·simp [iA,-V,-y4,-y3,y0,h,hb,hs]
 ·simp [iA,-V,-y4,-y3,y0,h,hb]
theorem rzero_ev3 (v:Vl) (h:v.kind=3):fA 182 [.agg (lA v)] (.bool (aE v)):=by
 refine rA (c:=iA) rfl rfl ?_;rw [uA];unfold aE;by_cases hb:v.b=false
 ·by_cases hi:v.i=0
  ·by_cases hd:v.id=0
   ·by_cases hk:v.keys=[]
    ·by_cases hx:v.items=[]
     ·by_cases hr:v.rest=[]
      ·simp [iA,-V,-y4,-y3,y0,h,hb,hi,hd,hk,hx,hr]
      ·simp [iA,-V,-y4,-y3,y0,h,hb,hi,hd,hk,hx,hr]
     ·simp [iA,-V,-y4,-y3,y0,h,hb,hi,hd,hk,hx]
    ·simp [iA,-V,-y4,-y3,y0,h,hb,hi,hd,hk]
   ·simp [iA,-V,-y4,-y3,y0,h,hb,hi,hd]
  ·simp [iA,-V,-y4,-y3,y0,h,hb,hi]
 ·simp [iA,-V,-y4,-y3,y0,h,hb]
theorem rzero_ev4 (v:Vl) (h:v.kind=4):fA 182 [.agg (lA v)] (.bool (aE v)):=by
 refine rA (c:=iA) rfl rfl ?_;rw [uA];unfold aE;by_cases hb:v.b=false
 ·by_cases hi:v.i=0
  ·by_cases hs:v.s=⟨#[]⟩
   ·by_cases hk:v.keys=[]
    ·by_cases hx:v.items=[]
     ·by_cases hr:v.rest=[]
      ·simp [iA,-V,-y4,-y3,y0,h,hb,hi,hs,hk,hx,hr]
      ·simp [iA,-V,-y4,-y3,y0,h,hb,hi,hs,hk,hx,hr]
     ·simp [iA,-V,-y4,-y3,y0,h,hb,hi,hs,hk,hx]
    ·simp [iA,-V,-y4,-y3,y0,h,hb,hi,hs,hk]
   ·simp [iA,-V,-y4,-y3,y0,h,hb,hi,hs]
  ·simp [iA,-V,-y4,-y3,y0,h,hb,hi]
 ·simp [iA,-V,-y4,-y3,y0,h,hb]
theorem rzero_ev5 (v:Vl) (h:v.kind=5):fA 182 [.agg (lA v)] (.bool (aE v)):=by
 refine rA (c:=iA) rfl rfl ?_;rw [uA];unfold aE;by_cases hb:v.b=false
 ·by_cases hi:v.i=0
  ·by_cases hs:v.s=⟨#[]⟩
   ·by_cases hd:v.id=0
    ·by_cases hk:v.keys=[]
     ·simp [iA,-V,-y4,-y3,y0,h,hb,hi,hs,hd,hk]
     ·simp [iA,-V,-y4,-y3,y0,h,hb,hi,hs,hd,hk]
    ·simp [iA,-V,-y4,-y3,y0,h,hb,hi,hs,hd]
   ·simp [iA,-V,-y4,-y3,y0,h,hb,hi,hs]
  ·simp [iA,-V,-y4,-y3,y0,h,hb,hi]
 ·simp [iA,-V,-y4,-y3,y0,h,hb]
theorem rzero_ev6 (v:Vl) (h:v.kind=6):fA 182 [.agg (lA v)] (.bool (aE v)):=by
 refine rA (c:=iA) rfl rfl ?_;rw [uA];unfold aE;by_cases hb:v.b=false
 ·by_cases hi:v.i=0
  ·by_cases hs:v.s=⟨#[]⟩
   ·by_cases hk:v.keys=[]
    ·simp [iA,-V,-y4,-y3,y0,h,hb,hi,hs,hk]
    ·simp [iA,-V,-y4,-y3,y0,h,hb,hi,hs,hk]
   ·simp [iA,-V,-y4,-y3,y0,h,hb,hi,hs]
  ·simp [iA,-V,-y4,-y3,y0,h,hb,hi]
 ·simp [iA,-V,-y4,-y3,y0,h,hb]
theorem rzero_ev7 (v:Vl) (h:v.kind=7):fA 182 [.agg (lA v)] (.bool (aE v)):=by
 refine rA (c:=iA) rfl rfl ?_;rw [uA];unfold aE;by_cases hb:v.b=false
 ·by_cases hi:v.i=0
  ·by_cases hs:v.s=⟨#[]⟩
   ·by_cases hd:v.id=0
    ·by_cases hk:v.keys=[]
     ·by_cases hr:v.rest=[]
      ·simp [iA,-V,-y4,-y3,y0,h,hb,hi,hs,hd,hk,hr]
      ·simp [iA,-V,-y4,-y3,y0,h,hb,hi,hs,hd,hk,hr]
     ·simp [iA,-V,-y4,-y3,y0,h,hb,hi,hs,hd,hk]
    ·simp [iA,-V,-y4,-y3,y0,h,hb,hi,hs,hd]
   ·simp [iA,-V,-y4,-y3,y0,h,hb,hi,hs]
  ·simp [iA,-V,-y4,-y3,y0,h,hb,hi]
 ·simp [iA,-V,-y4,-y3,y0,h,hb]
theorem rzero_ev8 (v:Vl) (h:v.kind=8):fA 182 [.agg (lA v)] (.bool (aE v)):=by
 refine rA (c:=iA) rfl rfl ?_;rw [uA];unfold aE;by_cases hb:v.b=false
 ·by_cases hi:v.i=0
  ·by_cases hs:v.s=⟨#[]⟩
   ·by_cases hd:v.id=0
    ·by_cases hr:v.rest=[]
     ·simp [iA,-V,-y4,-y3,y0,h,hb,hi,hs,hd,hr]
     ·simp [iA,-V,-y4,-y3,y0,h,hb,hi,hs,hd,hr]
    ·simp [iA,-V,-y4,-y3,y0,h,hb,hi,hs,hd]
   ·simp [iA,-V,-y4,-y3,y0,h,hb,hi,hs]
  ·simp [iA,-V,-y4,-y3,y0,h,hb,hi]
 ·simp [iA,-V,-y4,-y3,y0,h,hb]
theorem rzero_ev9 (v:Vl) (h:v.kind=9):fA 182 [.agg (lA v)] (.bool (aE v)):=by
 refine rA (c:=iA) rfl rfl ?_;rw [uA];unfold aE;by_cases hb:v.b=false
 ·by_cases hi:v.i=0
  ·by_cases hs:v.s=⟨#[]⟩
   ·by_cases hd:v.id=0
    ·by_cases hk:v.keys=[]
     ·by_cases hr:v.rest=[]
      ·simp [iA,-V,-y4,-y3,y0,h,hb,hi,hs,hd,hk,hr]
      ·simp [iA,-V,-y4,-y3,y0,h,hb,hi,hs,hd,hk,hr]
     ·simp [iA,-V,-y4,-y3,y0,h,hb,hi,hs,hd,hk]
    ·simp [iA,-V,-y4,-y3,y0,h,hb,hi,hs,hd]
   ·simp [iA,-V,-y4,-y3,y0,h,hb,hi,hs]
  ·simp [iA,-V,-y4,-y3,y0,h,hb,hi]
 ·simp [iA,-V,-y4,-y3,y0,h,hb]
def nF:C:=oR [oB 101 .lss 100 99] (.seq (oD 101 .skip (.exit 10)) (.seq (.block 11 (oR [oI 102 1 98 100,oL 103 102,oM 20 103] (.reg [oM 104 7,oF 105 1 16,oL 106 105,oM 107 20,oS 108 (.build zzj [(0,(1,(.t 106))),(1,(1,(.t 107)))]),oN (.mset (.agg [.none,(.some .i64)]) (.t 104) (.t 108) (.c (.bool true)))]))) (.reg [oC 109 .add 100 1,oM 100 109])))
def WH:C:=oR [oS 80 (.nxt (.t 79)),oX 81 80 0] (.seq (oD 81 .skip (.exit 8)) (.block 9 (oR [oS 82 (.ent (.t 79)),oX 83 82 0,oY 18 zzj,oV 2 18 83] (oR [oF 84 0 18,oL 85 84,oF 86 1 16,oL 87 86,oB 88 .eql 85 87,oM 89 88,oMg 90 17 89 true,oFg 91 1 18 89 true,oP 92 91 89 true,oCg 93 106 90 92 89 true,oUg 94 93 89 true,oPa 95 89 94] (oD 95 (.reg [oM 96 8,oA 97 2 18,oN (.mset (.agg [.none,(.some .i64)]) (.t 96) (.t 97) (.c (.bool true)))]) .skip)))))
def gE:C:=oR [oB 70 .lss 69 68] (.seq (oD 70 .skip (.exit 6)) (.seq (.block 7 (oR [oI 71 10 67 69,oA 72 10 71,oY 16 zze,oV 10 16 72] (.seq (oR [oF 73 1 16,oL 74 73,oS 75 (.bin .eql false (.t 74) (.c (.str (ByteArray.mk #[]))))] (oD 75 (.exit 7) .skip)) (oR [oA 76 10 16,oC1 77 105 76,oM 17 77] (.seq (oR [oM 78 7,oS 79 (.rng (.t 78))] (.block 8 (.loop WH))) (oR [oM 98 17,oH 99 98,oJ 100 0] (.block 10 (.loop nF)))))))) (.reg [oC 110 .add 69 1,oM 69 110])))
def jE:C:=oR [oB 50 .lss 49 48] (.seq (oD 50 .skip (.exit 4)) (.seq (.block 5 (oR [oI 51 1 47 49,oL 52 51,oM 14 52] (oR [oM 53 8,oF 54 1 12,oL 55 54,oM 56 14,oS 57 (.build zzj [(0,(1,(.t 55))),(1,(1,(.t 56)))]),oS 58 (.mget false (.agg [.none,(.some .i64)]) (.bool false) (.t 53) (.t 57))] (oD 58 (oR [oM 59 9,oF 60 1 12,oL 61 60,oM 62 14,oM 2 59,oM 3 61,oM 4 62,oJ 5 0] .ret) .skip)))) (.reg [oC 63 .add 49 1,oM 49 63])))
def kE:C:=oR [oB 40 .lss 39 38] (.seq (oD 40 .skip (.exit 2)) (.seq (.block 3 (oR [oI 41 10 37 39,oA 42 10 41,oY 12 zze,oV 10 12 42] (.seq (oR [oF 43 1 12,oL 44 43,oS 45 (.bin .eql false (.t 44) (.c (.str (ByteArray.mk #[]))))] (oD 45 (.exit 3) .skip)) (oR [oA 46 10 12,oC1 47 105 46,oH 48 47,oJ 49 0] (.block 4 (.loop jE)))))) (.reg [oC 64 .add 39 1,oM 39 64])))
def EH:C:=oR [oB 31 .lss 30 29] (.seq (oD 31 .skip (.exit 0)) (.seq (.block 1 (oR [oM 32 30,oI 33 2 28 30,oA 34 2 33,oS 10 (.alloc [(.sl true []),(.int .i64 0)]),oM 9 32,oV 2 10 34] (.seq (oR [oF 35 0 10,oF 36 0 35,oL 37 36,oH 38 37,oJ 39 0] (.block 2 (.loop kE))) (oR [oF 65 0 10,oF 66 0 65,oL 67 66,oH 68 67,oJ 69 0] (.block 6 (.loop gE)))))) (.reg [oC 111 .add 30 1,oM 30 111])))
def AD:qB:=⟨(oR [oJ 2 0,oS 3 (.mv (.c (.str (ByteArray.mk #[])))),oJ 4 0,oJ 5 0] (.seq (oR [oM 21 0,oC1 22 103 21,oM 6 22] (oR [oM 23 6,oC 24 .neq 23 0] (oD 24 (oR [oM 25 6,oJ 2 0,oS 3 (.mv (.c (.str (ByteArray.mk #[])))),oJ 4 0,oM 5 25] .ret) .skip))) (oR [oS 26 (.mkm),oS 27 (.mkm),oM 7 26,oM 8 27] (.seq (oR [oM 28 0,oH 29 28,oJ 30 0] (.block 0 (.loop EH))) (oR [oJ 2 0,oS 3 (.mv (.c (.str (ByteArray.mk #[])))),oJ 4 0,oJ 5 15] .ret))))),[(.tmp 2),(.tmp 3),(.tmp 4),(.tmp 5)],1,[]⟩ --@@ sheave/history.Reused
theorem oT:bA Tryz.prog 48 AD:=okF Tryz.func48
def AZ:Nat->Option qB:=fun f=>if f=48 then some AD else none
theorem ruT_ok (f:Nat) (c:qB) (h:AZ f=some c):bA Tryz.prog f c:=by
 unfold AZ at h;split at h
 ·rename_i e;injection h with h;subst h;subst e;exact oT
 ·cases h
theorem z4:Tryz.prog.follows .mixedOrders=true:=by kernel_rfl
def ruArgs:List AV:=[(.sl false [[(.sl false [[(.int .i64 5),(.str (ByteArray.mk #[82])),(.int .i64 0),(.int .i64 0),(.int .i64 0),(.sl true []),(.sl false [[(.int .i64 1),(.str (ByteArray.mk #[120])),(.int .i64 1),(.bool false),(.bool true),(.int .i64 1),(.bool true),(.int .i64 0),(.str (ByteArray.mk #[])),(.int .i64 0),(.sl true []),(.sl true []),(.sl true [])]]),(.int .i64 0),(.int .i64 0),(.bool false)],[(.int .i64 1),(.str (ByteArray.mk #[])),(.int .i64 0),(.int .i64 0),(.int .i64 0),(.sl true []),(.sl true []),(.int .i64 0),(.int .i64 0),(.bool false)]]),(.int .i64 0)],[(.sl false [[(.int .i64 5),(.str (ByteArray.mk #[82])),(.int .i64 0),(.int .i64 0),(.int .i64 0),(.sl true []),(.sl true []),(.int .i64 0),(.int .i64 0),(.bool false)],[(.int .i64 1),(.str (ByteArray.mk #[])),(.int .i64 0),(.int .i64 0),(.int .i64 0),(.sl true []),(.sl true []),(.int .i64 0),(.int .i64 0),(.bool false)]]),(.int .i64 0)],[(.sl false [[(.int .i64 5),(.str (ByteArray.mk #[82])),(.int .i64 0),(.int .i64 0),(.int .i64 0),(.sl true []),(.sl false [[(.int .i64 1),(.str (ByteArray.mk #[120])),(.int .i64 1),(.bool false),(.bool true),(.int .i64 1),(.bool false),(.int .i64 0),(.str (ByteArray.mk #[])),(.int .i64 0),(.sl true []),(.sl true []),(.sl true [])]]),(.int .i64 0),(.int .i64 0),(.bool false)],[(.int .i64 1),(.str (ByteArray.mk #[])),(.int .i64 0),(.int .i64 0),(.int .i64 0),(.sl true []),(.sl true []),(.int .i64 0),(.int .i64 0),(.bool false)]]),(.int .i64 0)]])]
def ruV:AV:=(.tup [(.int .i64 2),(.str (ByteArray.mk #[82])),(.int .i64 1),(.int .i64 0)])
theorem lU {args:List AV} {S:Option AV}:eA 48 args S=none:=by simp [eA]
theorem no_reused' {args:List AV} {S:Option AV} {r:RV} (h:cE dA eA 48 args S=some r):False:=by
 obtain ⟨n,hn⟩:=pF.1 h;have hT:dA 48=none:=by kernel_rfl
 cases n <;> (unfold jD at hn; rw [hT] at hn; simp only at hn; rw [lU] at hn; cases hn)
theorem ru_knows:UA AZ (cE dA eA) ZW:=fun f args S r h=>by
 have h:=XW f args S r h;by_cases e:f=48
 ·subst e;exact (no_reused' h).elim
 ·have hT:AZ f=none:=by unfold AZ; rw [if_neg e]
  exact pF.2 ⟨0,by unfold jD; rw [hT]; exact h⟩
theorem T2:cE AZ (cE dA eA) 48 ruArgs none=some (ruV,none):=ru_knows.every (c:=AD) rfl rfl rfl rfl 100 (by kernel_rfl)
theorem reused_ok {O:rH}:aD Tryz.prog O 48 ruArgs none (ruV,none):=UN z4 ruT_ok (fun _ _ _ _ h=>UN z4 mW XT h) T2
def EP:iB:=fun f args S=>if Nat.beq f 48&&(AV.beqL args ruArgs&&AV.beqO S none) then some (ruV,none) else eA f args S
theorem hisExt_ok {O:rH} (f:Nat) (args:List AV) (S:Option AV) (r:RV) (h:EP f args S=some r):aD Tryz.prog O f args S r:=by
 unfold EP at h;split at h
 ·rename_i hc;simp only [y9] at hc;obtain ⟨h1,h2,h3⟩:=hc;injection h with h;subst h;rw [Nat.eq_of_beq_eq_true h1,AV.beqL_eq _ _ h2,AV.beqO_eq _ _ h3];exact reused_ok
 ·exact XT f args S r h
theorem zX (f:Nat) (args:List AV) (S:Option AV) (r:RV) (h:eA f args S=some r):EP f args S=some r:=by
 unfold EP;split
 ·rename_i hc;simp only [y9] at hc;rw [Nat.eq_of_beq_eq_true hc.1,lU] at h;cases h
 ·exact h
abbrev evG (f:Nat) (args:List AV) (v:AV):Prop:=cE dA EP f args none=some (v,none)
theorem ev_G {f:Nat} {args:List AV} {v:AV} (h:cE dA eA f args none=some (v,none)):evG f args v:=bM zX h
theorem LW:evG 45 [] (.bool true):=UA.run (fun f args S r h=>bM zX (XW f args S r h)) 3000 (by kernel_rfl)
def PO:Int->List Raw->Int
 | n,[]=>n
 | n,x :: r=>PO (IntKind.i64.wrap (IntKind.i64.wrap (n + 1) + x.data.size)) r
mutual
def BY:Vl->Int
 | .mk _ _ _ s _ _ ks _ xs _ rs=>PO (DF (DF (IntKind.i64.wrap (1 + s.size)) ks) xs) rs
def DF:Int->List Vl->Int
 | n,[]=>n
 | n,v :: r=>DF (IntKind.i64.wrap (n + BY v)) r
end
theorem sizeV_def (v:Vl):BY v=PO (DF (DF (IntKind.i64.wrap (1 + v.s.size)) v.keys) v.items) v.rest:=by
 cases v;rw [BY];rfl
section
variable (n:Nat) (ih0:∀ v:Vl,SizeOf.sizeOf v<n->v.ok->fA 100 [.agg (lA v)] (.int .i64 (BY v))) {rv:RV} (v:Vl)
include n ih0 rv v
theorem size_lp3 (hl:v.keys.length<=9223372036854775807) (hv:∀ x∈v.keys,SizeOf.sizeOf x<n/\x.ok) (a0:Int) (s:pA) (e1:(s.env 1).v=.ptr 1 1 0) (m1:s.mem 1 1=some (rE v)) (e3:(s.env 3).v=.int .i64 a0) (e4:(s.env 4).v=.int .i64 0) (k:Ex->pA->Option RV)
  (hk:∀ s',(s'.env 1).v=.ptr 1 1 0->s'.mem 1 1=some (rE v)->(s'.env 3).v=.int .i64 (DF a0 v.keys)->k (.exit 0) s'=some rv):GG dA eA gI s k=some rv:=by
 refine gA v.keys.length (fun i s=>(s.env 1).v=.ptr 1 1 0/\s.mem 1 1=some (rE v)/\(∃ a,(s.env 3).v=.int .i64 a/\DF a (v.keys.drop i)=DF a0 v.keys)/\(s.env 4).v=.int .i64 i)
  (fun e s=>e=.exit 0/\(s.env 1).v=.ptr 1 1 0/\s.mem 1 1=some (rE v)/\(s.env 3).v=.int .i64 (DF a0 v.keys)) (fun i hi s k h ih hk=>?_) _ _ ⟨e1,m1,⟨a0,e3,rfl⟩,e4⟩ (fun e s h=>by obtain ⟨rfl,h1,h2,h3⟩:=h; exact hk _ h1 h2 h3)
 obtain ⟨e1,m1,⟨a,e3,hs⟩,ei⟩:=h;refine tA ?_;have m1':=m1;simp only [rE] at m1;by_cases fa:i<v.keys.length
 ·have ga:(i:Int)<v.keys.length:=by omega
  have g1:(v.keys.map lA)[i]?=some (lA v.keys[i]):=by simp [fa]
  have hw:=GA (i:=i);obtain ⟨hx1,hx2⟩:=hv _ (y7 fa);have hx:=ih0 _ hx1 hx2;rw [y8 fa,DF] at hs;generalize v.keys[i]=x at *
  simp only [fA,uA] at hx;rw [uA x] at g1;simp [gI,-V,-y4,-y3,y0,e1,m1,e3,ei,ga,g1,hx,hw];refine ih fa _ ⟨?_,?_,⟨_,?_,hs⟩,?_⟩
  ·simp [e1]
  ·simp [m1,rE]
  ·simp
  ·simp
 ·have ga:¬ (i:Int)<v.keys.length:=by omega
  rw [yc (by omega),DF] at hs;simp [gI,-V,-y4,-y3,y0,e1,m1,ei,ga];refine hk _ _ ⟨rfl,?_,?_,?_⟩
  ·simp [e1]
  ·simp [m1,rE]
  ·simp [e3,hs]
theorem size_lp2 (hl:v.items.length<=9223372036854775807) (hv:∀ x∈v.items,SizeOf.sizeOf x<n/\x.ok) (a0:Int) (s:pA) (e1:(s.env 1).v=.ptr 1 1 0) (m1:s.mem 1 1=some (rE v)) (e3:(s.env 3).v=.int .i64 a0) (e5:(s.env 5).v=.int .i64 0) (k:Ex->pA->Option RV)
  (hk:∀ s',(s'.env 1).v=.ptr 1 1 0->s'.mem 1 1=some (rE v)->(s'.env 3).v=.int .i64 (DF a0 v.items)->k (.exit 2) s'=some rv):GG dA eA fI s k=some rv:=by
 refine gA v.items.length (fun i s=>(s.env 1).v=.ptr 1 1 0/\s.mem 1 1=some (rE v)/\(∃ a,(s.env 3).v=.int .i64 a/\DF a (v.items.drop i)=DF a0 v.items)/\(s.env 5).v=.int .i64 i)
  (fun e s=>e=.exit 2/\(s.env 1).v=.ptr 1 1 0/\s.mem 1 1=some (rE v)/\(s.env 3).v=.int .i64 (DF a0 v.items)) (fun i hi s k h ih hk=>?_) _ _ ⟨e1,m1,⟨a0,e3,rfl⟩,e5⟩ (fun e s h=>by obtain ⟨rfl,h1,h2,h3⟩:=h; exact hk _ h1 h2 h3)
 obtain ⟨e1,m1,⟨a,e3,hs⟩,ei⟩:=h;refine tA ?_;have m1':=m1;simp only [rE] at m1;by_cases fa:i<v.items.length
 ·have ga:(i:Int)<v.items.length:=by omega
  have g1:(v.items.map lA)[i]?=some (lA v.items[i]):=by simp [fa]
  have hw:=GA (i:=i);obtain ⟨hx1,hx2⟩:=hv _ (y7 fa);have hx:=ih0 _ hx1 hx2;rw [y8 fa,DF] at hs;generalize v.items[i]=x at *
  simp only [fA,uA] at hx;rw [uA x] at g1;simp [fI,-V,-y4,-y3,y0,e1,m1,e3,ei,ga,g1,hx,hw];refine ih fa _ ⟨?_,?_,⟨_,?_,hs⟩,?_⟩
  ·simp [e1]
  ·simp [m1,rE]
  ·simp
  ·simp
 ·have ga:¬ (i:Int)<v.items.length:=by omega
  rw [yc (by omega),DF] at hs;simp [fI,-V,-y4,-y3,y0,e1,m1,ei,ga];refine hk _ _ ⟨rfl,?_,?_,?_⟩
  ·simp [e1]
  ·simp [m1,rE]
  ·simp [e3,hs]
end
theorem size_lp1 {rv:RV} (v:Vl) (hl:v.rest.length<=9223372036854775807) (a0:Int) (s:pA) (e1:(s.env 1).v=.ptr 1 1 0) (m1:s.mem 1 1=some (rE v)) (e3:(s.env 3).v=.int .i64 a0) (e6:(s.env 6).v=.int .i64 0) (k:Ex->pA->Option RV)
  (hk:∀ s',(s'.env 3).v=.int .i64 (PO a0 v.rest)->k (.exit 4) s'=some rv):GG dA eA dI s k=some rv:=by
 refine gA v.rest.length (fun i s=>(s.env 1).v=.ptr 1 1 0/\s.mem 1 1=some (rE v)/\(∃ a,(s.env 3).v=.int .i64 a/\PO a (v.rest.drop i)=PO a0 v.rest)/\(s.env 6).v=.int .i64 i)
  (fun e s=>e=.exit 4/\(s.env 3).v=.int .i64 (PO a0 v.rest)) (fun i hi s k h ih hk=>?_) _ _ ⟨e1,m1,⟨a0,e3,rfl⟩,e6⟩ (fun e s h=>by obtain ⟨rfl,h1⟩:=h; exact hk _ h1)
 obtain ⟨e1,m1,⟨a,e3,hs⟩,ei⟩:=h;refine tA ?_;simp only [rE] at m1;by_cases fa:i<v.rest.length
 ·have ga:(i:Int)<v.rest.length:=by omega
  have g1:(v.rest.map CL)[i]?=some (CL v.rest[i]):=by simp [fa]
  have hw:=GA (i:=i);rw [y8 fa,PO] at hs;generalize v.rest[i]=x at *
  simp only [CL] at g1;simp [dI,-V,-y4,-y3,y0,e1,m1,e3,ei,ga,g1,hw];refine ih fa _ ⟨?_,?_,⟨_,?_,hs⟩,?_⟩
  ·simp [e1]
  ·simp [m1,rE]
  ·simp
  ·simp
 ·have ga:¬ (i:Int)<v.rest.length:=by omega
  rw [yc (by omega),PO] at hs;simp [dI,-V,-y4,-y3,y0,e1,m1,ei,ga];exact hk _ _ ⟨rfl,by simp [e3,hs]⟩
theorem size_ev:∀ (n:Nat) (v:Vl),SizeOf.sizeOf v<n->v.ok->fA 100 [.agg (lA v)] (.int .i64 (BY v)):=by
 intro n
 induction n with
 | zero=>intro v h; omega
 | succ n ih =>
  intro v hn hv;rw [Vl.ok_def] at hv;obtain ⟨k1,k2,k3,k4,k5,k6⟩:=hv;refine rA (c:=UL) rfl rfl ?_;rw [uA];simp [UL,-V,-y4,-y3,y0];refine size_lp3 n ih v k1 (fun x hx=>⟨by have:=Vl.keys_lt v x hx; omega,k5 x hx⟩) (IntKind.i64.wrap (1 + v.s.size)) _ ?_ ?_ ?_ ?_ _ (fun s' e1 m1 e3=>?_)
  ·simp
  ·simp [rE]
  ·simp
  ·simp
  simp [-V,-y4,-y3,y0];refine size_lp2 n ih v k2 (fun x hx=>⟨by have:=Vl.items_lt v x hx; omega,k6 x hx⟩) (DF (IntKind.i64.wrap (1 + v.s.size)) v.keys) _ ?_ ?_ ?_ ?_ _ (fun s2 f1 n1 f3=>?_)
  ·simp [e1]
  ·simpa using m1
  ·simp [e3]
  ·simp
  simp [-V,-y4,-y3,y0];refine size_lp1 v k3 (DF (DF (IntKind.i64.wrap (1 + v.s.size)) v.keys) v.items) _ ?_ ?_ ?_ ?_ _ (fun s3 g3=>?_)
  ·simp [f1]
  ·simpa using n1
  ·simp [f3]
  ·simp
  simp [-V,-y4,-y3,y0,g3,sizeV_def]
def OV:Int->List SB->Int
 | n,[]=>n
 | n,m :: r=>OV (IntKind.i64.wrap (IntKind.i64.wrap (n + BY m.dflt) + m.name.size)) r
def typF (n:Int) (t:sA):Int:=OV (IntKind.i64.wrap (IntKind.i64.wrap (IntKind.i64.wrap (n + t.mems.length) + t.syms.length) + t.name.size)) (t.mems.take 100)
def sS:Int->List sA->Int
 | n,[]=>n
 | n,t :: r=>sS (typF n t) r
def fewP (s:DH):Bool:=!decide (40<s.types.length)&&decide (sS 0 s.types<=400)
def X9 (t:sA):List wA:=(qA t).map (⟨·,.no⟩)
theorem few_lp1 {rv:RV} (t:sA) (ht:∀ m∈t.mems,m.ok) (hl:t.mems.length<=9223372036854775807) {nl:Bool} {S:List sA} {j:Nat} {n5:Nat} (a0:Int) (s:pA) (e1:(s.env 1).v=.ptr 1 1 0) (m1:s.mem 1 1=some [⟨.sl nl (S.map qA),.no⟩]) (e3:(s.env 3).v=.int .i64 a0) (e4:(s.env 4).v=.int .i64 j) (e5:(s.env 5).v=.ptr 5 n5 0) (m5:s.mem 5 n5=some (X9 t)) (e6:(s.env 6).v=.int .i64 0) (k:Ex->pA->Option RV)
  (hk:∀ s',(s'.env 1).v=.ptr 1 1 0->s'.mem 1 1=some [⟨.sl nl (S.map qA),.no⟩]->(s'.env 3).v=.int .i64 (OV a0 (t.mems.take 100))->(s'.env 4).v=.int .i64 j->k (.exit 2) s'=some rv):GG dA eA LG s k=some rv:=by
 have hN:(t.mems.take 100).length<=t.mems.length/\(t.mems.take 100).length<=100/\((t.mems.take 100).length=t.mems.length\/(t.mems.take 100).length=100):=by
  rw [yF];omega
 obtain ⟨N,hNe⟩:∃ N,(t.mems.take 100).length=N:=⟨_,rfl⟩;rw [hNe] at hN;obtain ⟨fy,hN2,hN3⟩:=hN;refine gA N (fun i s=>(s.env 1).v=.ptr 1 1 0/\s.mem 1 1=some [⟨.sl nl (S.map qA),.no⟩]/\(∃ a,(s.env 3).v=.int .i64 a/\OV a ((t.mems.take 100).drop i)=OV a0 (t.mems.take 100))/\(s.env 4).v=.int .i64 j/\(s.env 5).v=.ptr 5 n5 0/\s.mem 5 n5=some (X9 t)/\(s.env 6).v=.int .i64 i)
  (fun e s=>e=.exit 2/\(s.env 1).v=.ptr 1 1 0/\s.mem 1 1=some [⟨.sl nl (S.map qA),.no⟩]/\(s.env 3).v=.int .i64 (OV a0 (t.mems.take 100))/\(s.env 4).v=.int .i64 j) (fun i hi s k h ih hk=>?_) _ _ ⟨e1,m1,⟨a0,e3,rfl⟩,e4,e5,m5,e6⟩ (fun e s h=>by obtain ⟨rfl,h1,h2,h3,h4⟩:=h; exact hk _ h1 h2 h3 h4)
 obtain ⟨e1,m1,⟨a,e3,hs⟩,e4,e5,m5,e6⟩:=h;refine tA ?_;simp only [X9,qA,yg,yk] at m5;by_cases fa:i<N
 ·have ga:(i:Int)<t.mems.length:=by omega
  have nf:(i:Int)<100:=by omega
  have ng:i<t.mems.length:=by omega
  have hi3:i<(t.mems.take 100).length:=by omega
  have g1:(t.mems.map zA)[i]?=some (zA t.mems[i]):=by simp [ng]
  have hw:=GA (i:=i);have hx:=size_ev _ _ (Nat.lt_succ_self _) (ht _ (y7 ng)).1;rw [y8 hi3,OV,List.getElem_take] at hs;generalize t.mems[i]=x at *
  simp only [zA] at g1;simp only [fA,uA] at hx;simp [LG,-V,-y4,-y3,y0,e3,e5,m5,e6,ga,nf,g1,hx,hw];refine ih fa _ ⟨?_,?_,⟨_,?_,hs⟩,?_,?_,?_,?_⟩
  ·simp [e1]
  ·simp [m1]
  ·simp
  ·simp [e4]
  ·simp [e5]
  ·simp [m5,X9,qA]
  ·simp
 ·have wh:i=N:=by omega
  rw [yc (by omega),OV] at hs;by_cases c:(i:Int)<t.mems.length
  ·have c2:¬ (i:Int)<100:=by omega
   simp [LG,-V,-y4,-y3,y0,e5,m5,e6,c,c2];exact hk _ _ ⟨rfl,by simp [e1],by simp [m1],by simp [e3,hs],by simp [e4]⟩
  ·simp [LG,-V,-y4,-y3,y0,e5,m5,e6,c];exact hk _ _ ⟨rfl,by simp [e1],by simp [m1],by simp [e3,hs],by simp [e4]⟩
theorem few_ev (s:DH) (hs:s.ok):fA 42 [.agg (TA s)] (.bool (fewP s)):=by
 obtain ⟨hl,ht⟩:=hs;refine rA (c:=MK) rfl rfl ?_;unfold fewP;by_cases c:40<s.types.length
 ·have c':(40:Int)<s.types.length:=by omega
  simp [MK,-V,-y4,-y3,y0,TA,c,c']
 have c':¬ (40:Int)<s.types.length:=by omega
 simp [MK,-V,-y4,-y3,y0,TA,c,c'];refine gA s.types.length (fun i st=>(st.env 1).v=.ptr 1 1 0/\st.mem 1 1=some [⟨.sl s.nl (s.types.map qA),.no⟩]/\(∃ a,(st.env 3).v=.int .i64 a/\sS a (s.types.drop i)=sS 0 s.types)/\(st.env 4).v=.int .i64 i)
  (fun e st=>e=.exit 0/\(st.env 3).v=.int .i64 (sS 0 s.types)) (fun i hi st k h ih hk=>?_) _ _ ?_ (fun e st h=>?_)
 ·obtain ⟨e1,m1,⟨a,e3,ox⟩,e4⟩:=h;refine tA ?_;by_cases fa:i<s.types.length
  ·have ga:(i:Int)<s.types.length:=by omega
   have g1:(s.types.map qA)[i]?=some (qA s.types[i]):=by simp [fa]
   have hw:=GA (i:=i);have hto:=ht _ (y7 fa);rw [y8 fa,sS] at ox;generalize s.types[i]=x at *
   simp only [qA] at g1;simp [gM,-V,-y4,-y3,y0,e1,m1,e3,e4,ga,g1];refine few_lp1 (nl:=s.nl) (S:=s.types) x hto.2.2 hto.2.1 (j:=i) (n5:=st.next + 1) (IntKind.i64.wrap (IntKind.i64.wrap (IntKind.i64.wrap (a + x.mems.length) + x.syms.length) + x.name.size)) _ ?_ ?_ ?_ ?_ ?_ ?_ ?_ _ (fun s' f1 n1 f3 f4=>?_)
   ·simp [e1]
   ·simp [m1]
   ·simp
   ·simp [e4]
   ·simp
   ·simp [X9,qA]
   ·simp
   ·simp [-V,-y4,-y3,y0,f4,hw];refine ih fa _ ⟨?_,?_,⟨_,?_,ox⟩,?_⟩
    ·simp [f1]
    ·simp [n1]
    ·simp [f3,typF]
    ·simp
  ·have ga:¬ (i:Int)<s.types.length:=by omega
   rw [yc (by omega),sS] at ox;simp [gM,-V,-y4,-y3,y0,e1,m1,e4,ga];exact hk _ _ ⟨rfl,by simp [e3,ox]⟩
 ·refine ⟨?_,?_,⟨0,?_,rfl⟩,?_⟩ <;> simp
 ·obtain ⟨rfl,e3⟩:=h;simp [-V,-y4,-y3,y0,e3]
end Go.Proofs.YtbnlmgncbgaepaaGreat
