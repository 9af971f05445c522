/- A part of the proof. -/
import Derived.Test.YtbhbeakhognieaaGreatWc
set_option linter.all false
set_option maxRecDepth 100000
set_option maxHeartbeats 8000000
open Option renaming bind_some → J
open List renaming range_succ → y0, map_map → y3, getElem_mem → y8, drop_eq_getElem_cons → yb, map_cons → yf, drop_eq_nil_of_le → yk, map_nil → ym, mem_append → yx, take_of_length_le → yB, map_append → yH, take_append_getElem → yJ, mem_map_of_mem → Y00
open Int renaming toNat_lt → y4
open Bool renaming and_eq_true → y7
namespace Go.Proofs.YtbhbeakhognieaaGreat
open Go
structure u9 where
 id:Int
 data:ByteArray
 deriving DecidableEq
inductive Vl where
 | mk (kind:Int) (b:Bool) (i:Int) (s:ByteArray) (id:Int) (kn:Bool) (keys:List Vl) (xn:Bool) (items:List Vl) (rn:Bool) (rest:List u9)
namespace Vl
def kind:Vl->Int | .mk k _ _ _ _ _ _ _ _ _ _=>k
def b:Vl->Bool | .mk _ b _ _ _ _ _ _ _ _ _=>b
def i:Vl->Int | .mk _ _ i _ _ _ _ _ _ _ _=>i
def s:Vl->ByteArray | .mk _ _ _ s _ _ _ _ _ _ _=>s
def id:Vl->Int | .mk _ _ _ _ d _ _ _ _ _ _=>d
def kn:Vl->Bool | .mk _ _ _ _ _ k _ _ _ _ _=>k
def keys:Vl->List Vl | .mk _ _ _ _ _ _ l _ _ _ _=>l
def xn:Vl->Bool | .mk _ _ _ _ _ _ _ x _ _ _=>x
def items:Vl->List Vl | .mk _ _ _ _ _ _ _ _ l _ _=>l
def rn:Vl->Bool | .mk _ _ _ _ _ _ _ _ _ r _=>r
def rest:Vl->List u9 | .mk _ _ _ _ _ _ _ _ _ _ l=>l
theorem keys_lt (v x:Vl) (h:x∈v.keys):SizeOf.sizeOf x<SizeOf.sizeOf v:=by
 cases v;have:=List.sizeOf_lt_of_mem h;simp only [keys] at this;simp only [mk.sizeOf_spec];omega
theorem items_lt (v x:Vl) (h:x∈v.items):SizeOf.sizeOf x<SizeOf.sizeOf v:=by
 cases v;have:=List.sizeOf_lt_of_mem h;simp only [items] at this;simp only [mk.sizeOf_spec];omega
end Vl
def UJ (r:u9):List AV:=[.int .i64 r.id,.str r.data]
mutual
def fA:Vl->List AV
 | .mk k b i s d kn ks xn xs rn rs=>[.int .i64 k,.bool b,.int .i64 i,.str s,.int .i64 d,.sl kn (S3 ks),.sl xn (S3 xs),.sl rn (rs.map UJ)]
def S3:List Vl->List (List AV)
 | []=>[]
 | v :: r=>fA v :: S3 r
end
theorem eV:∀ l:List Vl,S3 l=l.map fA
 | []=>by rw [S3]; rfl
 | v :: r=>by rw [S3,eV r]; rfl
theorem qA (v:Vl):fA v=[.int .i64 v.kind,.bool v.b,.int .i64 v.i,.str v.s,.int .i64 v.id,.sl v.kn (v.keys.map fA),.sl v.xn (v.items.map fA),.sl v.rn (v.rest.map UJ)]:=by
 cases v;rw [fA,eV,eV];rfl
mutual
/-- lengths that occur -/
def Vl.ok:Vl->Prop
 | .mk _ _ _ s _ _ ks _ xs _ rs=>ks.length<=9223372036854775807/\xs.length<=9223372036854775807/\rs.length<=9223372036854775807/\s.size<=9223372036854775807/\Vl.oks ks/\Vl.oks xs
def Vl.oks:List Vl->Prop
 | []=>True
 | v :: r=>Vl.ok v/\Vl.oks r
end
theorem Vl.oks_iff:∀ l:List Vl,Vl.oks l ↔ ∀ v∈l,v.ok
 | []=>by simp [Vl.oks]
 | v :: r=>by simp [Vl.oks,Vl.oks_iff r]
theorem Vl.ok_def (v:Vl):v.ok ↔ v.keys.length<=9223372036854775807/\v.items.length<=9223372036854775807/\v.rest.length<=9223372036854775807/\v.s.size<=9223372036854775807/\(∀ x∈v.keys,x.ok)/\∀ x∈v.items,x.ok:=by
 cases v;rw [Vl.ok,Vl.oks_iff,Vl.oks_iff];rfl
def Vl.zero:Vl:=.mk 0 false 0 ⟨#[]⟩ 0 true [] true [] true []
structure nQ where
 id:Int
 name:ByteArray
 deriving DecidableEq
def WD (x:nQ):List AV:=[.int .i64 x.id,.str x.name]
structure zB where
 id:Int
 name:ByteArray
 ty:Int
 crit:Bool
 has:Bool
 dflt:Vl
def nA (m:zB):List AV:=[.int .i64 m.id,.str m.name,.int .i64 m.ty,.bool m.crit,.bool m.has,.int .i64 m.dflt.kind,.bool m.dflt.b,.int .i64 m.dflt.i,.str m.dflt.s,.int .i64 m.dflt.id,.sl m.dflt.kn (m.dflt.keys.map fA),.sl m.dflt.xn (m.dflt.items.map fA),.sl m.dflt.rn (m.dflt.rest.map UJ)]
structure pA where
 kind:Int
 name:ByteArray
 low:Int
 high:Int
 max:Int
 sn:Bool
 syms:List nQ
 mn:Bool
 mems:List zB
 key:Int
 elem:Int
 opn:Bool
def eA (t:pA):List AV:=[.int .i64 t.kind,.str t.name,.int .i64 t.low,.int .i64 t.high,.int .i64 t.max,.sl t.sn (t.syms.map WD),.sl t.mn (t.mems.map nA),.int .i64 t.key,.int .i64 t.elem,.bool t.opn]
structure FI where
 nl:Bool
 types:List pA
def GA (s:FI):List AV:=[.sl s.nl (s.types.map eA)]
def zB.ok (m:zB):Prop:=m.dflt.ok/\m.name.size<=9223372036854775807
def pA.ok (t:pA):Prop:=t.syms.length<=9223372036854775807/\t.mems.length<=9223372036854775807/\∀ m∈t.mems,m.ok
def FI.ok (s:FI):Prop:=s.types.length<=9223372036854775807/\∀ t∈s.types,t.ok
theorem WB {i:Nat} (h:i<9223372036854775807:=by omega):IntKind.i64.wrap ((i:Int) + 1)=((i + 1:Nat):Int):=by
 rw [IntWalk.i64_in _ (by omega)]; rfl
theorem valC_len (v:Vl):(fA v).length=8:=by rw [qA]; rfl
theorem mK (l:List Vl):iB 8 (l.map fA)=true:=KB _ _ _ valC_len
theorem els_raw (l:List u9):iB 2 (l.map UJ)=true:=KB _ _ _ fun _=>rfl
theorem els_sym (l:List nQ):iB 2 (l.map WD)=true:=KB _ _ _ fun _=>rfl
theorem cW (l:List zB):iB 13 (l.map nA)=true:=KB _ _ _ fun _=>rfl
theorem rA {f:Nat} {c:MA} {args:List AV} {r:RV} (hT:jA f=some c) (hl:args.length=c.np) (h:c.code.run (dF jA tA) (RJ jA tA) (aA.init args none) (fin c none)=some r) (hm:gJ args=false:=by rfl):dF jA tA f args none=some r:=gQ c hT hl h hm
abbrev gA (f:Nat) (args:List AV) (v:AV):Prop:=dF jA tA f args none=some (v,none)
def NQ (x:Int):Bool:=decide (x=95)||(decide (97<=x)&&decide (x<=122))||(decide (65<=x)&&decide (x<=90))
def kX (x:Int):Bool:=decide (48<=x)&&decide (x<=57)
def bG (s:ByteArray):Nat->Nat->Bool
 | 0,_=>true
 | n + 1,i=>(match s[i]? with | some u=>NQ u.toNat||kX u.toNat | none=>false)&&bG s n (i + 1)
def xF (s:ByteArray):Bool:=decide (s.size≠0)&&decide (s.size<=24)&&(match s[0]? with | some u=>NQ u.toNat | none=>false)&&bG s s.size 0
theorem N1 (x:Int):gA 199 [.int .u8 x] (.bool (NQ x)):=by
 refine rA (c:=dH) rfl rfl ?_;unfold NQ;by_cases h1:x=95 <;> by_cases h2:97<=x <;> by_cases h3:65<=x <;> by_cases h4:x<=122 <;> by_cases h5:x<=90 <;> simp [dH,-J,AC,y0,h1,h2,h3,h4,h5]
theorem digit_ev (x:Int):gA 200 [.int .u8 x] (.bool (kX x)):=by
 refine rA (c:=qI) rfl rfl ?_;unfold kX;by_cases h1:48<=x <;> simp [qI,-J,AC,y0,h1]
theorem TY (x:Int):gA 196 [.int .u8 x] (.bool (NQ x)):=by
 refine rA (c:=CI) rfl rfl ?_;unfold NQ;by_cases h1:x=95 <;> by_cases h2:97<=x <;> by_cases h3:65<=x <;> by_cases h4:x<=122 <;> by_cases h5:x<=90 <;> simp [CI,-J,AC,y0,h1,h2,h3,h4,h5]
theorem rdigit_ev (x:Int):gA 197 [.int .u8 x] (.bool (kX x)):=by
 refine rA (c:=sK) rfl rfl ?_;unfold kX;by_cases h1:48<=x <;> simp [sK,-J,AC,y0,h1]
theorem sQ {s:ByteArray} {i:Nat} (h:i<s.size):∃ u,s[i]?=some u:=⟨s[i],getElem?_pos s i h⟩
theorem name_lp (s:ByteArray) (hs:s.size<=24) (r:RV) (k:Ex->aA->Option RV) (hk:∀ s',bG s s.size 0=true->k (.exit 0) s'=some r) (hr:∀ s':aA,bG s s.size 0=false->(s'.env 2).v=.bool false->k .ret s'=some r) :
  ∀ (n i:Nat),i + n=s.size->bG s n i=bG s s.size 0->∀ s':aA,(s'.env 0).v=.str s->(s'.env 18).v=.int .i64 s.size->(s'.env 19).v=.int .i64 i->WI jA tA oE s' k=some r:=by
 intro n
 induction n with
 | zero =>
  intro i hi hf s' e0 xj e19;have fa:¬ ((i:Int)<s.size):=by omega
  refine iA ?_;simp [oE,-J,AC,y0,e0,xj,e19,fa];exact hk _ (by rw [<- hf]; rfl)
 | succ n ih =>
  intro i hi hf s' e0 xj e19;have fa:(i:Int)<s.size:=by omega
  obtain ⟨u,hu⟩:=sQ (s:=s) (i:=i) (by omega);have hw:=WB (i:=i);have h1:=N1 u.toNat;have h2:=digit_ev u.toNat;simp only [bG,hu] at hf;refine iA ?_;cases b1:NQ u.toNat with
  | true =>
   simp only [b1] at h1 hf;simp [oE,-J,AC,y0,e0,xj,e19,fa,hu,h1,hw];refine ih (i + 1) (by omega) (by simpa using hf) _ ?_ ?_ ?_ <;> simp [*]
  | false =>
   cases b2:kX u.toNat with
   | true =>
    simp only [b1,b2] at h1 h2 hf;simp [oE,-J,AC,y0,e0,xj,e19,fa,hu,h1,h2,hw];refine ih (i + 1) (by omega) (by simpa using hf) _ ?_ ?_ ?_ <;> simp [*]
   | false =>
    simp only [b1,b2] at h1 h2 hf;simp [oE,-J,AC,y0,e0,xj,e19,fa,hu,h1,h2,hw];refine hr _ (by simpa using hf.symm) ?_;simp
theorem name_ev (s:ByteArray):gA 161 [.str s] (.bool (xF s)):=by
 refine rA (c:=IE) rfl rfl ?_;unfold xF;by_cases h0:s=⟨#[]⟩
 ·subst h0;simp [IE,-J,AC,y0];exact fun h=>absurd rfl h
 ·have hz:s.size≠0:=fun h=>h0 (by
   obtain ⟨d⟩:=s;have h:d.size=0:=h;rw [Array.eq_empty_of_size_eq_zero h])
  by_cases h1:s.size<=24
  ·have ao:¬ ((24:Int)<s.size):=by omega
   obtain ⟨u,hu⟩:=sQ (s:=s) (i:=0) (by omega);have h2:=N1 u.toNat;cases b1:NQ u.toNat with
   | false =>
    simp only [b1] at h2;simp [IE,-J,AC,y0,h0,ao,hu,h2,b1]
   | true =>
    simp only [b1] at h2;simp [IE,-J,AC,y0,h0,ao,hu,h2,b1,hz,h1];refine name_lp s h1 _ _ (fun s' hf=>?main) (fun s' hf h2=>?main2) s.size 0 (by simp) rfl _ ?_ ?_ ?_
    case main=>simp [-J,AC,y0,hf]
    case main2=>simp [-J,AC,y0,hf,h2]
    all_goals simp
  ·have ao:(24:Int)<s.size:=by omega
   simp [IE,-J,AC,y0,h0,ao,h1]
theorem rname_lp (s:ByteArray) (hs:s.size<=24) (r:RV) (k:Ex->aA->Option RV) (hk:∀ s',bG s s.size 0=true->k (.exit 0) s'=some r) (hr:∀ s':aA,bG s s.size 0=false->(s'.env 2).v=.bool false->k .ret s'=some r) :
  ∀ (n i:Nat),i + n=s.size->bG s n i=bG s s.size 0->∀ s':aA,(s'.env 0).v=.str s->(s'.env 3).v=.int .i64 i->WI jA tA pE s' k=some r:=by
 intro n
 induction n with
 | zero =>
  intro i hi hf s' e0 e3;have fa:¬ ((i:Int)<s.size):=by omega
  refine iA ?_;simp [pE,-J,AC,y0,e0,e3,fa];exact hk _ (by rw [<- hf]; rfl)
 | succ n ih =>
  intro i hi hf s' e0 e3;have fa:(i:Int)<s.size:=by omega
  obtain ⟨u,hu⟩:=sQ (s:=s) (i:=i) (by omega);have hw:=WB (i:=i);have h1:=TY u.toNat;have h2:=rdigit_ev u.toNat;simp only [bG,hu] at hf;refine iA ?_;cases b1:NQ u.toNat with
  | true =>
   simp only [b1] at h1 hf;simp [pE,-J,AC,y0,e0,e3,fa,hu,h1,hw];refine ih (i + 1) (by omega) (by simpa using hf) _ ?_ ?_ <;> simp [*]
  | false =>
   cases b2:kX u.toNat with
   | true =>
    simp only [b1,b2] at h1 h2 hf;simp [pE,-J,AC,y0,e0,e3,fa,hu,h1,h2,hw];refine ih (i + 1) (by omega) (by simpa using hf) _ ?_ ?_ <;> simp [*]
   | false =>
    simp only [b1,b2] at h1 h2 hf;simp [pE,-J,AC,y0,e0,e3,fa,hu,h1,h2,hw];refine hr _ (by simpa using hf.symm) ?_;simp
theorem UY (s:ByteArray):gA 158 [.str s] (.bool (xF s)):=by
 refine rA (c:=OE) rfl rfl ?_;unfold xF;by_cases h0:s=⟨#[]⟩
 ·subst h0;simp [OE,-J,AC,y0];exact fun h=>absurd rfl h
 ·have hz:s.size≠0:=fun h=>h0 (by
   obtain ⟨d⟩:=s;have h:d.size=0:=h;rw [Array.eq_empty_of_size_eq_zero h])
  by_cases h1:s.size<=24
  ·have ao:¬ ((24:Int)<s.size):=by omega
   obtain ⟨u,hu⟩:=sQ (s:=s) (i:=0) (by omega);have h2:=TY u.toNat;cases b1:NQ u.toNat with
   | false =>
    simp only [b1] at h2;simp [OE,-J,AC,y0,h0,ao,hu,h2,b1]
   | true =>
    simp only [b1] at h2;simp [OE,-J,AC,y0,h0,ao,hu,h2,b1,hz,h1];refine rname_lp s h1 _ _ (fun s' hf=>?main) (fun s' hf h2=>?main2) s.size 0 (by simp) rfl _ ?_ ?_
    case main=>simp [-J,AC,y0,hf]
    case main2=>simp [-J,AC,y0,hf,h2]
    all_goals simp
  ·have ao:(24:Int)<s.size:=by omega
   simp [OE,-J,AC,y0,h0,ao,h1]
mutual
def Vl.same:Vl->Vl->Bool
 | .mk k b i s d _ ks _ xs _ rs,.mk k' b' i' s' d' _ ks' _ xh _ rs'=>decide (k=k')&&(b == b')&&decide (i=i')&&decide (s=s')&&decide (d=d')&&decide (rs=rs')&&Vl.sames ks ks'&&Vl.sames xs xh
def Vl.sames:List Vl->List Vl->Bool
 | [],[]=>true
 | v :: r,v' :: r'=>Vl.same v v'&&Vl.sames r r'
 | [],_ :: _=>false
 | _ :: _,[]=>false
end
theorem Vl.same_def (v w:Vl):v.same w=(decide (v.kind=w.kind)&&(v.b == w.b)&&decide (v.i=w.i)&&decide (v.s=w.s)&&decide (v.id=w.id)&&decide (v.rest=w.rest)&&Vl.sames v.keys w.keys&&Vl.sames v.items w.items):=by
 cases v; cases w; rw [Vl.same]; rfl
theorem Vl.sames_len:∀ l m:List Vl,l.length≠m.length->Vl.sames l m=false
 | [],[],h=>absurd rfl h
 | [],_ :: _,_=>by rw [Vl.sames]
 | _ :: _,[],_=>by rw [Vl.sames]
 | v :: r,w :: r',h=>by rw [Vl.sames,Vl.sames_len r r' (by simpa using h)]; simp
theorem raws_lp (rs qs:List u9) (hl:rs.length<=9223372036854775807) (he:rs.length=qs.length) (b1 b2:Bool) (r:RV) (k:Ex->aA->Option RV) (hk:∀ s',rs=qs->k (.exit 0) s'=some r) (hr:∀ s':aA,rs≠qs->(s'.env 4).v=.bool false->k .ret s'=some r) :
  ∀ (n i:Nat),i + n=rs.length->(rs.drop i=qs.drop i ↔ rs=qs)->∀ s':aA,(s'.env 0).v=.sl b1 (rs.map UJ)->(s'.env 1).v=.sl b2 (qs.map UJ)->(s'.env 12).v=.int .i64 rs.length->(s'.env 13).v=.int .i64 i->WI jA tA iC s' k=some r:=by
 intro n
 induction n with
 | zero =>
  intro i hi hf s' e0 e1 e12 wb;have fa:¬ ((i:Int)<rs.length):=by omega
  refine iA ?_;simp [iC,-J,AC,y0,e12,wb,fa];exact hk _ (hf.1 (by rw [yk (by omega),yk (by omega)]))
 | succ n ih =>
  intro i hi hf s' e0 e1 e12 wb;have fa:(i:Int)<rs.length:=by omega
  have tg:i<rs.length:=by omega
  have si:i<qs.length:=by omega
  have hw:=WB (i:=i);have g1:(rs.map UJ)[i]?=some (UJ rs[i]):=by simp [tg]
  have g2:(qs.map UJ)[i]?=some (UJ qs[i]):=by simp [si]
  rw [yb tg,yb si] at hf;simp only [List.cons.injEq] at hf;generalize rs[i]=x at *
  generalize qs[i]=y at *
  obtain ⟨xi,xd⟩:=x;obtain ⟨yi,yd⟩:=y;simp only [UJ] at g1 g2;simp only [u9.mk.injEq] at hf;refine iA ?_;by_cases h1:xi=yi
  ·by_cases h2:xd=yd
   ·subst h1 h2;simp [iC,-J,AC,y0,e0,e1,e12,wb,fa,g1,g2,MK,hw];refine ih (i + 1) (by omega) (by simpa using hf) _ ?_ ?_ ?_ ?_ <;> simp [*]
   ·subst h1;simp [iC,-J,AC,y0,e0,e1,e12,wb,fa,g1,g2,MK,h2];exact hr _ (fun h=>h2 (hf.2 h).1.2) (by simp)
  ·simp [iC,-J,AC,y0,e0,e1,e12,wb,fa,g1,g2,MK,h1];exact hr _ (fun h=>h1 (hf.2 h).1.1) (by simp)
theorem raws_ev (rs qs:List u9) (hl:rs.length<=9223372036854775807) (b1 b2:Bool):gA 187 [.sl b1 (rs.map UJ),.sl b2 (qs.map UJ)] (.bool (decide (rs=qs))):=by
 refine rA (c:=bD) rfl rfl ?_;by_cases he:rs.length=qs.length
 ·have fi:(rs.length:Int)=qs.length:=by omega
  simp [bD,-J,AC,y0,he];refine raws_lp rs qs hl he b1 b2 _ _ (fun s' hf=>?main) (fun s' hf h4=>?main2) rs.length 0 (by simp) (by simp) _ ?_ ?_ ?_ ?_
  case main=>simp [-J,AC,y0,hf]
  case main2=>simp [-J,AC,y0,hf,h4]
  all_goals simp [he]
 ·have fi:¬ (rs.length:Int)=qs.length:=by omega
  have ma:rs≠qs:=fun h=>he (by rw [h])
  simp [bD,-J,AC,y0,fi,ma]
theorem eqf_lp (F:Nat) (l m:List Vl) (hl:l.length<=9223372036854775807) (he:l.length=m.length) (hF:∀ x∈l,∀ y∈m,gA F [.agg (fA x),.agg (fA y)] (.bool (x.same y))) (b1 b2:Bool) (r:RV) (k:Ex->aA->Option RV) (hk:∀ s',Vl.sames l m=true->k (.exit 0) s'=some r) (hr:∀ s':aA,Vl.sames l m=false->(s'.env 6).v=.bool false->k .ret s'=some r) :
  ∀ (n i:Nat),i + n=l.length->Vl.sames (l.drop i) (m.drop i)=Vl.sames l m->∀ s':aA,(s'.env 1).v=.sl b2 (m.map fA)->(s'.env 2).v=.fn F []->(s'.env 15).v=.sl b1 (l.map fA)->(s'.env 16).v=.int .i64 l.length->(s'.env 17).v=.int .i64 i->WI jA tA ZB s' k=some r:=by
 intro n
 induction n with
 | zero =>
  intro i hi hf s' e1 e2 df af ld;have fa:¬ ((i:Int)<l.length):=by omega
  refine iA ?_;simp [ZB,-J,AC,y0,af,ld,fa];refine hk _ ?_;rw [<- hf,yk (by omega),yk (by omega),Vl.sames]
 | succ n ih =>
  intro i hi hf s' e1 e2 df af ld;have fa:(i:Int)<l.length:=by omega
  have tg:i<l.length:=by omega
  have si:i<m.length:=by omega
  have hw:=WB (i:=i);have g1:(l.map fA)[i]?=some (fA l[i]):=by simp [tg]
  have g2:(m.map fA)[i]?=some (fA m[i]):=by simp [si]
  have hx:=hF l[i] (y8 _) m[i] (y8 _);rw [yb tg,yb si,Vl.sames] at hf;generalize l[i]=x at *
  generalize m[i]=y at *
  simp only [gA,qA] at g1 g2 hx;refine iA ?_;cases h1:x.same y with
  | true =>
   rw [h1] at hx hf;simp [ZB,-J,AC,y0,e1,e2,df,af,ld,fa,g1,g2,KF,RD,hx,hw];refine ih (i + 1) (by omega) (by simpa using hf) _ ?_ ?_ ?_ ?_ ?_ <;> simp [*]
  | false =>
   rw [h1] at hx hf;simp [ZB,-J,AC,y0,e1,e2,df,af,ld,fa,g1,g2,KF,RD,hx];exact hr _ (by simpa using hf.symm) (by simp)
theorem d4 (F:Nat) (l m:List Vl) (hl:l.length<=9223372036854775807) (hF:∀ x∈l,∀ y∈m,gA F [.agg (fA x),.agg (fA y)] (.bool (x.same y))) (b1 b2:Bool):gA 188 [.sl b1 (l.map fA),.sl b2 (m.map fA),.fn F []] (.bool (Vl.sames l m)):=by
 refine rA (c:=gC) rfl rfl ?_;by_cases he:l.length=m.length
 ·simp [gC,-J,AC,y0,he];refine eqf_lp F l m hl he hF b1 b2 _ _ (fun s' hf=>?main) (fun s' hf h4=>?main2) l.length 0 (by simp) (by simp) _ ?_ ?_ ?_ ?_ ?_
  case main=>simp [-J,AC,y0,hf]
  case main2=>simp [-J,AC,y0,hf,h4]
  all_goals simp [he]
 ·have fi:¬ (l.length:Int)=m.length:=by omega
  simp [gC,-J,AC,y0,fi,Vl.sames_len l m he]
theorem same_ev:∀ (n:Nat) (v w:Vl),SizeOf.sizeOf v<n->v.ok->gA 206 [.agg (fA v),.agg (fA w)] (.bool (v.same w)):=by
 intro n
 induction n with
 | zero=>intro v w h; omega
 | succ n ih =>
  intro v w hn hv;rw [Vl.ok_def] at hv;obtain ⟨o1,o2,o3,o4,o5,o6⟩:=hv;have hr:=raws_ev v.rest w.rest o3 v.rn w.rn;have fe:=d4 206 v.keys w.keys o1 (fun x hx y _=>ih x y (by have:=Vl.keys_lt v x hx; omega) (o5 x hx)) v.kn w.kn;have ed:=d4 206 v.items w.items o2 (fun x hx y _=>ih x y (by have:=Vl.items_lt v x hx; omega) (o6 x hx)) v.xn w.xn;simp only [gA] at hr fe ed;refine rA (c:=NC) rfl rfl ?_;rw [qA,qA,Vl.same_def];by_cases h1:v.kind=w.kind
  ·by_cases h2:v.b=w.b
   ·by_cases h3:v.i=w.i
    ·by_cases h4:v.s=w.s
     ·by_cases h5:v.id=w.id
      ·by_cases h6:v.rest=w.rest
       ·cases h7:Vl.sames v.keys w.keys with
        | true=>rw [h7] at fe; simp [NC,-J,AC,y0,h1,h2,h3,h4,h5,h6 ▸ hr,h6,KF,RD,fe,ed,h7]
        | false=>rw [h7] at fe; simp [NC,-J,AC,y0,h1,h2,h3,h4,h5,h6 ▸ hr,h6,KF,RD,fe,h7]
       ·simp [NC,-J,AC,y0,h1,h2,h3,h4,h5,hr,h6]
      ·simp [NC,-J,AC,y0,h1,h2,h3,h4,h5]
     ·simp [NC,-J,AC,y0,h1,h2,h3,h4]
    ·simp [NC,-J,AC,y0,h1,h2,h3]
   ·simp [NC,-J,AC,y0,h1,h2]
  ·simp [NC,-J,AC,y0,h1]
abbrev OA (v:Vl):List wA:=[⟨.int .i64 v.kind,.no⟩,⟨.bool v.b,.no⟩,⟨.int .i64 v.i,.no⟩,⟨.str v.s,.no⟩,⟨.int .i64 v.id,.no⟩,⟨.sl v.kn (v.keys.map fA),.no⟩,⟨.sl v.xn (v.items.map fA),.no⟩,⟨.sl v.rn (v.rest.map UJ),.no⟩]
theorem rrest_lp (v w:Vl) (hl:v.rest.length<=9223372036854775807) (he:v.rest.length=w.rest.length) (m:Nat) (r:RV) (k:Ex->aA->Option RV)
  (hk:∀ s':aA,v.rest=w.rest->(s'.env 2).v=.ptr 2 m 0->(s'.env 3).v=.ptr 3 m 0->s'.mem 2 m=some (OA v)->s'.mem 3 m=some (OA w)->k (.exit 0) s'=some r) (hr:∀ s':aA,v.rest≠w.rest->(s'.env 4).v=.bool false->k .ret s'=some r) :
  ∀ (n i:Nat),i + n=v.rest.length->(v.rest.drop i=w.rest.drop i ↔ v.rest=w.rest)->∀ s':aA,(s'.env 2).v=.ptr 2 m 0->(s'.env 3).v=.ptr 3 m 0->s'.mem 2 m=some (OA v)->s'.mem 3 m=some (OA w)->(s'.env 5).v=.int .i64 i->WI jA tA jD s' k=some r:=by
 intro n
 induction n with
 | zero =>
  intro i hi hf s' e2 e3 m2 m3 e5;have fa:¬ ((i:Int)<v.rest.length):=by omega
  refine iA ?_;simp [jD,-J,AC,y0,e2,e3,m2,m3,e5,fa];exact hk _ (hf.1 (by rw [yk (by omega),yk (by omega)])) (by simp [e2]) (by simp [e3]) (by simp [m2]) (by simp [m3])
 | succ n ih =>
  intro i hi hf s' e2 e3 m2 m3 e5;have fa:(i:Int)<v.rest.length:=by omega
  have tg:i<v.rest.length:=by omega
  have si:i<w.rest.length:=by omega
  have hw:=WB (i:=i);have g1:(v.rest.map UJ)[i]?=some (UJ v.rest[i]):=by simp [tg]
  have g2:(w.rest.map UJ)[i]?=some (UJ w.rest[i]):=by simp [si]
  rw [yb tg,yb si] at hf;simp only [List.cons.injEq] at hf;generalize v.rest[i]=x at *
  generalize w.rest[i]=y at *
  obtain ⟨xi,xd⟩:=x;obtain ⟨yi,yd⟩:=y;simp only [UJ] at g1 g2;simp only [u9.mk.injEq] at hf;refine iA ?_;by_cases h1:xi=yi
  ·by_cases h2:xd=yd
   ·subst h1 h2;simp [jD,-J,AC,y0,e2,e3,m2,m3,e5,fa,g1,g2,MK,hw];refine ih (i + 1) (by omega) (by simpa using hf) _ ?_ ?_ ?_ ?_ ?_ <;> simp [*]
   ·subst h1;simp [jD,-J,AC,y0,e2,e3,m2,m3,e5,fa,g1,g2,MK,h2];exact hr _ (fun h=>h2 (hf.2 h).1.2) (by simp)
  ·simp [jD,-J,AC,y0,e2,e3,m2,m3,e5,fa,g1,g2,MK,h1];exact hr _ (fun h=>h1 (hf.2 h).1.1) (by simp)
theorem rsames_lp (l m:List Vl) (hl:l.length<=9223372036854775807) (he:l.length=m.length) (hF:∀ x∈l,∀ y∈m,gA 51 [.agg (fA x),.agg (fA y)] (.bool (x.same y))) (b1 b2:Bool) (r:RV) (k:Ex->aA->Option RV) (hk:∀ s',Vl.sames l m=true->k (.exit 0) s'=some r) (hr:∀ s':aA,Vl.sames l m=false->(s'.env 4).v=.bool false->k .ret s'=some r) :
  ∀ (n i:Nat),i + n=l.length->Vl.sames (l.drop i) (m.drop i)=Vl.sames l m->∀ s':aA,(s'.env 0).v=.sl b1 (l.map fA)->(s'.env 1).v=.sl b2 (m.map fA)->(s'.env 5).v=.int .i64 i->WI jA tA ID s' k=some r:=by
 intro n
 induction n with
 | zero =>
  intro i hi hf s' e0 e1 e5;have fa:¬ ((i:Int)<l.length):=by omega
  refine iA ?_;simp [ID,-J,AC,y0,e0,e5,fa];refine hk _ ?_;rw [<- hf,yk (by omega),yk (by omega),Vl.sames]
 | succ n ih =>
  intro i hi hf s' e0 e1 e5;have fa:(i:Int)<l.length:=by omega
  have tg:i<l.length:=by omega
  have si:i<m.length:=by omega
  have hw:=WB (i:=i);have g1:(l.map fA)[i]?=some (fA l[i]):=by simp [tg]
  have g2:(m.map fA)[i]?=some (fA m[i]):=by simp [si]
  have hx:=hF l[i] (y8 _) m[i] (y8 _);rw [yb tg,yb si,Vl.sames] at hf;generalize l[i]=x at *
  generalize m[i]=y at *
  simp only [gA,qA] at g1 g2 hx;refine iA ?_;cases h1:x.same y with
  | true =>
   rw [h1] at hx hf;simp [ID,-J,AC,y0,e0,e1,e5,fa,g1,g2,KF,hx,hw];refine ih (i + 1) (by omega) (by simpa using hf) _ ?_ ?_ ?_ <;> simp [*]
  | false =>
   rw [h1] at hx hf;simp [ID,-J,AC,y0,e0,e1,e5,fa,g1,g2,KF,hx];exact hr _ (by simpa using hf.symm) (by simp)
theorem i3 (l m:List Vl) (hl:l.length<=9223372036854775807) (hF:∀ x∈l,∀ y∈m,gA 51 [.agg (fA x),.agg (fA y)] (.bool (x.same y))) (b1 b2:Bool):gA 88 [.sl b1 (l.map fA),.sl b2 (m.map fA)] (.bool (Vl.sames l m)):=by
 refine rA (c:=PE) rfl rfl ?_;by_cases he:l.length=m.length
 ·simp [PE,-J,AC,y0,he];refine rsames_lp l m hl he hF b1 b2 _ _ (fun s' hf=>?main) (fun s' hf h4=>?main2) l.length 0 (by simp) (by simp) _ ?_ ?_ ?_
  case main=>simp [-J,AC,y0,hf]
  case main2=>simp [-J,AC,y0,hf,h4]
  all_goals simp [he]
 ·have fi:¬ (l.length:Int)=m.length:=by omega
  simp [PE,-J,AC,y0,fi,Vl.sames_len l m he]
theorem bT:∀ (n:Nat) (v w:Vl),SizeOf.sizeOf v<n->v.ok->gA 51 [.agg (fA v),.agg (fA w)] (.bool (v.same w)):=by
 intro n
 induction n with
 | zero=>intro v w h; omega
 | succ n ih =>
  intro v w hn hv;rw [Vl.ok_def] at hv;obtain ⟨o1,o2,o3,o4,o5,o6⟩:=hv;have fe:=i3 v.keys w.keys o1 (fun x hx y _=>ih x y (by have:=Vl.keys_lt v x hx; omega) (o5 x hx)) v.kn w.kn;have ed:=i3 v.items w.items o2 (fun x hx y _=>ih x y (by have:=Vl.items_lt v x hx; omega) (o6 x hx)) v.xn w.xn;simp only [gA] at fe ed;refine rA (c:=MB) rfl rfl ?_;rw [qA,qA,Vl.same_def];by_cases h1:v.kind=w.kind
  ·by_cases h2:v.b=w.b
   ·by_cases h3:v.i=w.i
    ·by_cases h4:v.s=w.s
     ·by_cases h5:v.id=w.id
      ·by_cases he:v.rest.length=w.rest.length
       ·simp [MB,-J,AC,y0,h1,h2,h3,h4,h5,he];refine rrest_lp v w o3 he 1 _ _ (fun s' h6 e2 e3 m2 m3=>?main) (fun s' h6 e4=>?main2) v.rest.length 0 (by simp) (by simp) _ ?_ ?_ ?_ ?_ ?_
        case main =>
         cases h7:Vl.sames v.keys w.keys with
         | true=>rw [h7] at fe; simp [-J,AC,y0,e2,e3,m2,m3,KF,fe,ed,h6]
         | false=>rw [h7] at fe; simp [-J,AC,y0,e2,e3,m2,m3,KF,fe,h6]
        case main2=>simp [-J,AC,y0,e4,h6]
        all_goals simp [h1,h2,h3,h4,h5]
       ·have fi:¬ (v.rest.length:Int)=w.rest.length:=by omega
        have h6:¬ v.rest=w.rest:=fun h=>he (by rw [h])
        simp [MB,-J,AC,y0,h1,h2,h3,h4,h5,fi,h6]
      ·simp [MB,-J,AC,y0,h1,h2,h3,h4,h5]
     ·simp [MB,-J,AC,y0,h1,h2,h3,h4]
    ·simp [MB,-J,AC,y0,h1,h2,h3]
   ·simp [MB,-J,AC,y0,h1,h2]
  ·simp [MB,-J,AC,y0,h1]
def zB.same (m m':zB):Bool:=decide (m.id=m'.id)&&decide (m.name=m'.name)&&decide (m.ty=m'.ty)&&(m.crit == m'.crit)&&(m.has == m'.has)&&m.dflt.same m'.dflt
def jB:List zB->List zB->Bool
 | [],[]=>true
 | m :: r,m' :: r'=>m.same m'&&jB r r'
 | [],_ :: _=>false
 | _ :: _,[]=>false
theorem tO:∀ l m:List zB,l.length≠m.length->jB l m=false
 | [],[],h=>absurd rfl h
 | [],_ :: _,_=>rfl
 | _ :: _,[],_=>rfl
 | v :: r,w :: r',h=>by rw [jB,tO r r' (by simpa using h)]; simp
def pA.same (t u:pA):Bool:=decide (t.kind=u.kind)&&decide (t.name=u.name)&&decide (t.low=u.low)&&decide (t.high=u.high)&&decide (t.max=u.max)&&decide (t.key=u.key)&&decide (t.elem=u.elem)&&(t.opn == u.opn)&&decide (t.syms=u.syms)&&jB t.mems u.mems
theorem msame_ev (m m':zB) (hm:m.ok):gA 205 [.agg (nA m),.agg (nA m')] (.bool (m.same m')):=by
 have hs:=same_ev _ m.dflt m'.dflt (Nat.lt_succ_self _) hm.1;simp only [gA,qA] at hs;refine rA (c:=zC) rfl rfl ?_;unfold zB.same nA;by_cases h1:m.id=m'.id
 ·by_cases h2:m.name=m'.name
  ·by_cases h3:m.ty=m'.ty
   ·by_cases h4:m.crit=m'.crit
    ·by_cases h5:m.has=m'.has
     ·simp [zC,-J,AC,y0,h1,h2,h3,h4,h5,hs]
     ·simp [zC,-J,AC,y0,h1,h2,h3,h4,h5]
    ·simp [zC,-J,AC,y0,h1,h2,h3,h4]
   ·simp [zC,-J,AC,y0,h1,h2,h3]
  ·simp [zC,-J,AC,y0,h1,h2]
 ·simp [zC,-J,AC,y0,h1]
theorem rmsame_ev (m m':zB) (hm:m.ok):gA 195 [.agg (nA m),.agg (nA m')] (.bool (m.same m')):=by
 have hs:=bT _ m.dflt m'.dflt (Nat.lt_succ_self _) hm.1;simp only [gA,qA] at hs;refine rA (c:=pC) rfl rfl ?_;unfold zB.same nA;by_cases h1:m.id=m'.id
 ·by_cases h2:m.name=m'.name
  ·by_cases h3:m.ty=m'.ty
   ·by_cases h4:m.crit=m'.crit
    ·by_cases h5:m.has=m'.has
     ·simp [pC,-J,AC,y0,h1,h2,h3,h4,h5,hs]
     ·simp [pC,-J,AC,y0,h1,h2,h3,h4,h5]
    ·simp [pC,-J,AC,y0,h1,h2,h3,h4]
   ·simp [pC,-J,AC,y0,h1,h2,h3]
  ·simp [pC,-J,AC,y0,h1,h2]
 ·simp [pC,-J,AC,y0,h1]
theorem syms_lp (rs qs:List nQ) (hl:rs.length<=9223372036854775807) (he:rs.length=qs.length) (b1 b2:Bool) (r:RV) (k:Ex->aA->Option RV) (hk:∀ s',rs=qs->k (.exit 0) s'=some r) (hr:∀ s':aA,rs≠qs->(s'.env 4).v=.bool false->k .ret s'=some r) :
  ∀ (n i:Nat),i + n=rs.length->(rs.drop i=qs.drop i ↔ rs=qs)->∀ s':aA,(s'.env 0).v=.sl b1 (rs.map WD)->(s'.env 1).v=.sl b2 (qs.map WD)->(s'.env 12).v=.int .i64 rs.length->(s'.env 13).v=.int .i64 i->WI jA tA DB s' k=some r:=by
 intro n
 induction n with
 | zero =>
  intro i hi hf s' e0 e1 e12 wb;have fa:¬ ((i:Int)<rs.length):=by omega
  refine iA ?_;simp [DB,-J,AC,y0,e12,wb,fa];exact hk _ (hf.1 (by rw [yk (by omega),yk (by omega)]))
 | succ n ih =>
  intro i hi hf s' e0 e1 e12 wb;have fa:(i:Int)<rs.length:=by omega
  have tg:i<rs.length:=by omega
  have si:i<qs.length:=by omega
  have hw:=WB (i:=i);have g1:(rs.map WD)[i]?=some (WD rs[i]):=by simp [tg]
  have g2:(qs.map WD)[i]?=some (WD qs[i]):=by simp [si]
  rw [yb tg,yb si] at hf;simp only [List.cons.injEq] at hf;generalize rs[i]=x at *
  generalize qs[i]=y at *
  obtain ⟨xi,xd⟩:=x;obtain ⟨yi,yd⟩:=y;simp only [WD] at g1 g2;simp only [nQ.mk.injEq] at hf;refine iA ?_;by_cases h1:xi=yi
  ·by_cases h2:xd=yd
   ·subst h1 h2;simp [DB,-J,AC,y0,e0,e1,e12,wb,fa,g1,g2,MK,hw];refine ih (i + 1) (by omega) (by simpa using hf) _ ?_ ?_ ?_ ?_ <;> simp [*]
   ·subst h1;simp [DB,-J,AC,y0,e0,e1,e12,wb,fa,g1,g2,MK,h2];exact hr _ (fun h=>h2 (hf.2 h).1.2) (by simp)
  ·simp [DB,-J,AC,y0,e0,e1,e12,wb,fa,g1,g2,MK,h1];exact hr _ (fun h=>h1 (hf.2 h).1.1) (by simp)
theorem syms_ev (rs qs:List nQ) (hl:rs.length<=9223372036854775807) (b1 b2:Bool):gA 203 [.sl b1 (rs.map WD),.sl b2 (qs.map WD)] (.bool (decide (rs=qs))):=by
 refine rA (c:=FC) rfl rfl ?_;by_cases he:rs.length=qs.length
 ·simp [FC,-J,AC,y0,he];refine syms_lp rs qs hl he b1 b2 _ _ (fun s' hf=>?main) (fun s' hf h4=>?main2) rs.length 0 (by simp) (by simp) _ ?_ ?_ ?_ ?_
  case main=>simp [-J,AC,y0,hf]
  case main2=>simp [-J,AC,y0,hf,h4]
  all_goals simp [he]
 ·have fi:¬ (rs.length:Int)=qs.length:=by omega
  have ma:rs≠qs:=fun h=>he (by rw [h])
  simp [FC,-J,AC,y0,fi,ma]
theorem eqm_lp (l m:List zB) (hl:l.length<=9223372036854775807) (he:l.length=m.length) (hF:∀ x∈l,x.ok) (b1 b2:Bool) (r:RV) (k:Ex->aA->Option RV) (hk:∀ s',jB l m=true->k (.exit 0) s'=some r) (hr:∀ s':aA,jB l m=false->(s'.env 6).v=.bool false->k .ret s'=some r) :
  ∀ (n i:Nat),i + n=l.length->jB (l.drop i) (m.drop i)=jB l m->∀ s':aA,(s'.env 1).v=.sl b2 (m.map nA)->(s'.env 2).v=.fn 205 []->(s'.env 15).v=.sl b1 (l.map nA)->(s'.env 16).v=.int .i64 l.length->(s'.env 17).v=.int .i64 i->WI jA tA HB s' k=some r:=by
 intro n
 induction n with
 | zero =>
  intro i hi hf s' e1 e2 df af ld;have fa:¬ ((i:Int)<l.length):=by omega
  refine iA ?_;simp [HB,-J,AC,y0,af,ld,fa];refine hk _ ?_;rw [<- hf,yk (by omega),yk (by omega),jB]
 | succ n ih =>
  intro i hi hf s' e1 e2 df af ld;have fa:(i:Int)<l.length:=by omega
  have tg:i<l.length:=by omega
  have si:i<m.length:=by omega
  have hw:=WB (i:=i);have g1:(l.map nA)[i]?=some (nA l[i]):=by simp [tg]
  have g2:(m.map nA)[i]?=some (nA m[i]):=by simp [si]
  have hx:=msame_ev l[i] m[i] (hF l[i] (y8 _));rw [yb tg,yb si,jB] at hf;generalize l[i]=x at *
  generalize m[i]=y at *
  simp only [gA,nA] at g1 g2 hx;refine iA ?_;cases h1:x.same y with
  | true =>
   rw [h1] at hx hf;simp [HB,-J,AC,y0,e1,e2,df,af,ld,fa,g1,g2,KF,RD,hx,hw];refine ih (i + 1) (by omega) (by simpa using hf) _ ?_ ?_ ?_ ?_ ?_ <;> simp [*]
  | false =>
   rw [h1] at hx hf;simp [HB,-J,AC,y0,e1,e2,df,af,ld,fa,g1,g2,KF,RD,hx];exact hr _ (by simpa using hf.symm) (by simp)
theorem eqm_ev (l m:List zB) (hl:l.length<=9223372036854775807) (hF:∀ x∈l,x.ok) (b1 b2:Bool):gA 204 [.sl b1 (l.map nA),.sl b2 (m.map nA),.fn 205 []] (.bool (jB l m)):=by
 refine rA (c:=eC) rfl rfl ?_;by_cases he:l.length=m.length
 ·simp [eC,-J,AC,y0,he];refine eqm_lp l m hl he hF b1 b2 _ _ (fun s' hf=>?main) (fun s' hf h4=>?main2) l.length 0 (by simp) (by simp) _ ?_ ?_ ?_ ?_ ?_
  case main=>simp [-J,AC,y0,hf]
  case main2=>simp [-J,AC,y0,hf,h4]
  all_goals simp [he]
 ·have fi:¬ (l.length:Int)=m.length:=by omega
  simp [eC,-J,AC,y0,fi,tO l m he]
theorem tsame_ev (t u:pA) (ht:t.ok):gA 164 [.agg (eA t),.agg (eA u)] (.bool (t.same u)):=by
 have hs:=syms_ev t.syms u.syms ht.1 t.sn u.sn;have hm:=eqm_ev t.mems u.mems ht.2.1 ht.2.2 t.mn u.mn;simp only [gA] at hs hm;refine rA (c:=NB) rfl rfl ?_;unfold pA.same eA;by_cases h1:t.kind=u.kind
 ·by_cases h2:t.name=u.name
  ·by_cases h3:t.low=u.low
   ·by_cases h4:t.high=u.high
    ·by_cases h5:t.max=u.max
     ·by_cases h6:t.key=u.key
      ·by_cases h7:t.elem=u.elem
       ·by_cases h8:t.opn=u.opn
        ·by_cases h9:t.syms=u.syms
         ·rw [decide_eq_true h9] at hs;simp [NB,-J,AC,y0,h1,h2,h3,h4,h5,h6,h7,h8,hs,h9 ▸ hs,h9,KF,RD,hm]
         ·rw [decide_eq_false h9] at hs;simp [NB,-J,AC,y0,h1,h2,h3,h4,h5,h6,h7,h8,hs,h9]
        ·simp [NB,-J,AC,y0,h1,h2,h3,h4,h5,h6,h7,h8]
       ·simp [NB,-J,AC,y0,h1,h2,h3,h4,h5,h6,h7]
      ·simp [NB,-J,AC,y0,h1,h2,h3,h4,h5,h6]
     ·simp [NB,-J,AC,y0,h1,h2,h3,h4,h5]
    ·simp [NB,-J,AC,y0,h1,h2,h3,h4]
   ·simp [NB,-J,AC,y0,h1,h2,h3]
  ·simp [NB,-J,AC,y0,h1,h2]
 ·simp [NB,-J,AC,y0,h1]
abbrev sA (t:pA):List wA:=[⟨.int .i64 t.kind,.no⟩,⟨.str t.name,.no⟩,⟨.int .i64 t.low,.no⟩,⟨.int .i64 t.high,.no⟩,⟨.int .i64 t.max,.no⟩,⟨.sl t.sn (t.syms.map WD),.no⟩,⟨.sl t.mn (t.mems.map nA),.no⟩,⟨.int .i64 t.key,.no⟩,⟨.int .i64 t.elem,.no⟩,⟨.bool t.opn,.no⟩]
theorem rsyms_lp (v w:pA) (hl:v.syms.length<=9223372036854775807) (he:v.syms.length=w.syms.length) (m:Nat) (r:RV) (k:Ex->aA->Option RV)
  (hk:∀ s':aA,v.syms=w.syms->(s'.env 2).v=.ptr 2 m 0->(s'.env 3).v=.ptr 3 m 0->s'.mem 2 m=some (sA v)->s'.mem 3 m=some (sA w)->k (.exit 0) s'=some r) (hr:∀ s':aA,v.syms≠w.syms->(s'.env 4).v=.bool false->k .ret s'=some r) :
  ∀ (n i:Nat),i + n=v.syms.length->(v.syms.drop i=w.syms.drop i ↔ v.syms=w.syms)->∀ s':aA,(s'.env 2).v=.ptr 2 m 0->(s'.env 3).v=.ptr 3 m 0->s'.mem 2 m=some (sA v)->s'.mem 3 m=some (sA w)->(s'.env 5).v=.int .i64 i->WI jA tA ED s' k=some r:=by
 intro n
 induction n with
 | zero =>
  intro i hi hf s' e2 e3 m2 m3 e5;have fa:¬ ((i:Int)<v.syms.length):=by omega
  refine iA ?_;simp [ED,-J,AC,y0,e2,e3,m2,m3,e5,fa];exact hk _ (hf.1 (by rw [yk (by omega),yk (by omega)])) (by simp [e2]) (by simp [e3]) (by simp [m2]) (by simp [m3])
 | succ n ih =>
  intro i hi hf s' e2 e3 m2 m3 e5;have fa:(i:Int)<v.syms.length:=by omega
  have tg:i<v.syms.length:=by omega
  have si:i<w.syms.length:=by omega
  have hw:=WB (i:=i);have g1:(v.syms.map WD)[i]?=some (WD v.syms[i]):=by simp [tg]
  have g2:(w.syms.map WD)[i]?=some (WD w.syms[i]):=by simp [si]
  rw [yb tg,yb si] at hf;simp only [List.cons.injEq] at hf;generalize v.syms[i]=x at *
  generalize w.syms[i]=y at *
  obtain ⟨xi,xd⟩:=x;obtain ⟨yi,yd⟩:=y;simp only [WD] at g1 g2;simp only [nQ.mk.injEq] at hf;refine iA ?_;by_cases h1:xi=yi
  ·by_cases h2:xd=yd
   ·subst h1 h2;simp [ED,-J,AC,y0,e2,e3,m2,m3,e5,fa,g1,g2,MK,hw];refine ih (i + 1) (by omega) (by simpa using hf) _ ?_ ?_ ?_ ?_ ?_ <;> simp [*]
   ·subst h1;simp [ED,-J,AC,y0,e2,e3,m2,m3,e5,fa,g1,g2,MK,h2];exact hr _ (fun h=>h2 (hf.2 h).1.2) (by simp)
  ·simp [ED,-J,AC,y0,e2,e3,m2,m3,e5,fa,g1,g2,MK,h1];exact hr _ (fun h=>h1 (hf.2 h).1.1) (by simp)
theorem rmems_lp (v w:pA) (hl:v.mems.length<=9223372036854775807) (hF:∀ x∈v.mems,x.ok) (he:v.mems.length=w.mems.length) (m:Nat) (r:RV) (k:Ex->aA->Option RV)
  (hk:∀ s':aA,jB v.mems w.mems=true->k (.exit 2) s'=some r) (hr:∀ s':aA,jB v.mems w.mems=false->(s'.env 4).v=.bool false->k .ret s'=some r) :
  ∀ (n i:Nat),i + n=v.mems.length->jB (v.mems.drop i) (w.mems.drop i)=jB v.mems w.mems->∀ s':aA,(s'.env 2).v=.ptr 2 m 0->(s'.env 3).v=.ptr 3 m 0->s'.mem 2 m=some (sA v)->s'.mem 3 m=some (sA w)->(s'.env 6).v=.int .i64 i->WI jA tA bE s' k=some r:=by
 intro n
 induction n with
 | zero =>
  intro i hi hf s' e2 e3 m2 m3 e6;have fa:¬ ((i:Int)<v.mems.length):=by omega
  refine iA ?_;simp [bE,-J,AC,y0,e2,e3,m2,m3,e6,fa];refine hk _ ?_;rw [<- hf,yk (by omega),yk (by omega),jB]
 | succ n ih =>
  intro i hi hf s' e2 e3 m2 m3 e6;have fa:(i:Int)<v.mems.length:=by omega
  have tg:i<v.mems.length:=by omega
  have si:i<w.mems.length:=by omega
  have hw:=WB (i:=i);have g1:(v.mems.map nA)[i]?=some (nA v.mems[i]):=by simp [tg]
  have g2:(w.mems.map nA)[i]?=some (nA w.mems[i]):=by simp [si]
  have hx:=rmsame_ev v.mems[i] w.mems[i] (hF _ (y8 _));rw [yb tg,yb si,jB] at hf;generalize v.mems[i]=x at *
  generalize w.mems[i]=y at *
  simp only [gA,nA] at g1 g2 hx;refine iA ?_;cases h1:x.same y with
  | true =>
   rw [h1] at hx hf;simp [bE,-J,AC,y0,e2,e3,m2,m3,e6,fa,g1,g2,KF,hx,hw];refine ih (i + 1) (by omega) (by simpa using hf) _ ?_ ?_ ?_ ?_ ?_ <;> simp [*]
  | false =>
   rw [h1] at hx hf;simp [bE,-J,AC,y0,e2,e3,m2,m3,e6,fa,g1,g2,KF,hx];exact hr _ (by simpa using hf.symm) (by simp)
theorem rtsame_ev (t u:pA) (ht:t.ok):gA 156 [.agg (eA t),.agg (eA u)] (.bool (t.same u)):=by
 refine rA (c:=xB) rfl rfl ?_;unfold pA.same eA;by_cases h1:t.kind=u.kind
 ·by_cases h2:t.name=u.name
  ·by_cases h3:t.low=u.low
   ·by_cases h4:t.high=u.high
    ·by_cases h5:t.max=u.max
     ·by_cases h6:t.key=u.key
      ·by_cases h7:t.elem=u.elem
       ·by_cases h8:t.opn=u.opn
        ·by_cases h9:t.syms.length=u.syms.length
         ·by_cases dt:t.mems.length=u.mems.length
          ·simp [xB,-J,AC,y0,h1,h2,h3,h4,h5,h6,h7,h8,h9,dt];refine rsyms_lp t u ht.1 h9 1 _ _ (fun s' mq e2 e3 m2 m3=>?main) (fun s' mq e4=>?main2) t.syms.length 0 (by simp) (by simp) _ ?_ ?_ ?_ ?_ ?_
           case main =>
            simp [-J,AC,y0,mq];refine rmems_lp t u ht.2.1 ht.2.2 dt 1 _ _ (fun s' ro=>?a) (fun s' ro e4=>?b) t.mems.length 0 (by simp) (by simp) _ ?_ ?_ ?_ ?_ ?_
            case a=>simp [-J,AC,y0,ro]
            case b=>simp [-J,AC,y0,ro,e4]
            all_goals simp [e2,e3,m2,m3]
           case main2=>simp [-J,AC,y0,mq,e4]
           all_goals simp [h1,h2,h3,h4,h5,h6,h7,h8]
          ·have h10':¬ (t.mems.length:Int)=u.mems.length:=by omega
           simp [xB,-J,AC,y0,h1,h2,h3,h4,h5,h6,h7,h8,h9,h10',tO _ _ dt]
         ·have h9':¬ (t.syms.length:Int)=u.syms.length:=by omega
          have mq:¬ t.syms=u.syms:=fun h=>h9 (by rw [h])
          simp [xB,-J,AC,y0,h1,h2,h3,h4,h5,h6,h7,h8,h9',mq]
        ·simp [xB,-J,AC,y0,h1,h2,h3,h4,h5,h6,h7,h8]
       ·simp [xB,-J,AC,y0,h1,h2,h3,h4,h5,h6,h7]
      ·simp [xB,-J,AC,y0,h1,h2,h3,h4,h5,h6]
     ·simp [xB,-J,AC,y0,h1,h2,h3,h4,h5]
    ·simp [xB,-J,AC,y0,h1,h2,h3,h4]
   ·simp [xB,-J,AC,y0,h1,h2,h3]
  ·simp [xB,-J,AC,y0,h1,h2]
 ·simp [xB,-J,AC,y0,h1]
theorem anN_t (a:An):AC true a=.ex:=rfl
theorem anN_f (a:An):AC false a=a:=rfl
theorem anN_ex (b:Bool):AC b .ex=.ex:=by cases b <;> rfl
attribute [simp] anN_t anN_f anN_ex
theorem RA {b:C} {r:RV} (n:Nat) (I:Nat->aA->Prop) (E:Ex->aA->Prop)
  (step:∀ i,i<=n->∀ s k,I i s->(i<n->∀ s',I (i + 1) s'->WI jA tA b s' k=some r)->(∀ e s',E e s'->k e s'=some r)->WI jA tA b s k=some r)
  (s:aA) (k:Ex->aA->Option RV) (h:I 0 s) (hk:∀ e s',E e s'->k e s'=some r):WI jA tA b s k=some r:=by
 have:∀ m i,i + m=n->∀ s,I i s->WI jA tA b s k=some r:=by
  intro m
  induction m with
  | zero=>intro i hi s h; exact step i (by omega) s k h (fun fa=>absurd fa (by omega)) hk
  | succ m ih=>intro i hi s h; exact step i (by omega) s k h (fun _ s' h'=>ih (i + 1) (by omega) s' h') hk
 exact this n 0 (by omega) s h
instance memStr (s:ByteArray) (l:List ByteArray):Decidable (s∈l):=@List.instDecidableMemOfLawfulBEq _ instBEqOfDecidableEq _ s l
def dR (s:ByteArray) (l:List ByteArray):Bool:=decide (s∈l)
theorem WS {s:ByteArray} {l:List ByteArray} (h:s∈l):dR s l=true:=decide_eq_true h
theorem QS {s:ByteArray} {l:List ByteArray} (h:¬ s∈l):dR s l=false:=decide_eq_false h
def fR (b n:Int):Bool:=decide (b<n)&&decide (1<=n)&&decide (n<=1000)
def IC:Int->List ByteArray->List (Int × ByteArray)->Bool
 | _,_,[]=>true
 | b,seen,(n,s) :: r=>fR b n&&!dR s seen&&xF s&&IC n (seen++[s]) r
def j4 (x:Int × ByteArray):List AV:=[.int .i64 x.1]
def nmC (x:Int × ByteArray):List AV:=[.str x.2]
def PI (s:ByteArray):List AV:=[.str s,.bool true]
theorem LY (s:ByteArray):∀ l:List ByteArray,cI (l.map PI) (.str s)=if s∈l then some (AV.bool true) else none
 | []=>rfl
 | x :: r=>by
  simp only [yf,PI,cI,LO];by_cases h:x=s
  ·simp [h]
  ·have h':¬ s=x:=fun e=>h e.symm
   have:=LY s r;simp [h,h',this]
theorem ZY (s:ByteArray):∀ l:List ByteArray,¬ s∈l->UG (l.map PI) (.str s) (.bool true)=(l++[s]).map PI
 | [],_=>rfl
 | x :: r,hn=>by
  have h:¬ x=s:=fun e=>hn (by simp [e])
  have:=ZY s r fun e=>hn (by simp [e])
  simp [PI,UG,LO,h,this]
theorem j5:∀ l:List ByteArray,dJ .none (l.map PI)=true
 | []=>rfl
 | x :: r=>by
  have:=j5 r;simp only [dJ] at this;simp [dJ,PI,HG,AV.flat,AV.scal]
def iE (l:List (Int × ByteArray)):Nat->Int
 | 0=>0
 | i + 1=>match l[i]? with
  | some x=>x.1
  | none=>0
theorem ids_ev (l:List (Int × ByteArray)) (hl:l.length<=9223372036854775807) (b1 b2:Bool):gA 201 [.sl b1 (l.map j4),.sl b2 (l.map nmC)] (.bool (IC 0 [] l&&decide (l.length<=16))):=by
 refine rA (c:=nL) rfl rfl ?_;simp [nL,-J,-y4,-y3,y0];refine RA l.length (fun i s=>(s.env 0).v=.sl b1 (l.map j4)/\(s.env 1).v=.sl b2 (l.map nmC)/\(s.env 5).v=.mp 8 2/\(s.env 9).v=.sl b1 (l.map j4)/\(s.env 10).v=.int .i64 l.length/\(s.env 11).v=.int .i64 i/\s.obj 8 2=some (TI (((l.take i).map (·.2)).map PI))/\IC (iE l i) ((l.take i).map (·.2)) (l.drop i)=IC 0 [] l)
  (fun e s=>(e=.exit 0/\IC 0 [] l=true/\(s.env 0).v=.sl b1 (l.map j4))\/(e=.ret/\IC 0 [] l=false/\(s.env 4).v=.bool false)) (fun i hi s k h ih hk=>?_) _ _ ?_ (fun e s h=>?_)
 ·obtain ⟨e0,e1,e5,e9,e10,e11,o,hs⟩:=h;refine iA ?_;by_cases fa:i<l.length
  ·have ga:(i:Int)<l.length:=by omega
   have g1:(l.map j4)[i]?=some (j4 l[i]):=by simp [fa]
   have g2:(l.map nmC)[i]?=some (nmC l[i]):=by simp [fa]
   have hw:=WB (i:=i);have ht:l.take (i + 1)=l.take i++[l[i]]:=(yJ fa).symm;have hp:iE l (i + 1)=l[i].1:=by simp [iE,fa]
   have hn:=name_ev l[i].2;rw [yb fa,IC] at hs;generalize hx:l[i]=x at *
   generalize hsn:(l.take i).map (·.2)=seen at *
   have hg:=LY x.2 seen;have wq:=j5 seen;simp only [j4,nmC] at g1 g2;have hprev:(0<(i:Int)->∃ p,(l.map j4)[i - 1]?=some [.int .i64 p]/\iE l i=p):=fun h0=>by
    obtain ⟨j,rfl⟩:∃ j,i=j + 1:=⟨i - 1,by omega⟩;exact ⟨l[j].1,by simp [j4,show j<l.length from by omega],by simp [iE,show j<l.length from by omega]⟩
   have fail:∀ s',(s'.env 4).v=.bool false->(fR (iE l i) x.1&&!dR x.2 seen&&xF x.2)=false->k .ret s'=some (.bool (IC 0 [] l&&decide (l.length<=16)),none):=fun s' h4 hf=>hk _ _ (.inr ⟨rfl,by rw [<- hs,hf]; rfl,h4⟩)
   obtain ⟨z,hz⟩:∃ z:Int,z=i:=⟨_,rfl⟩;have ic:0<=z:=by omega
   have hzt:z.toNat=i:=by omega
   have uk:z<l.length:=by omega
   have zn:IntKind.i64.wrap (z + 1)=((i + 1:Nat):Int):=by rw [hz]; exact hw
   rw [<- hz] at e11;rw [<- hzt] at g1 g2;by_cases c1:x.1<1
   ·simp [SB,-J,-y4,-y3,y0,e0,e1,e5,e9,e10,e11,uk,ic,g1,c1];exact fail _ (by simp) (by simp [fR,show ¬ 1<=x.1 from by omega])
   by_cases c2:1000<x.1
   ·simp [SB,-J,-y4,-y3,y0,e0,e1,e5,e9,e10,e11,uk,ic,g1,c1,c2];exact fail _ (by simp) (by simp [fR,show ¬ x.1<=1000 from by omega])
   have rest:(¬ 0<z\/∃ y p,0<z/\IntKind.i64.wrap (z - 1)=y/\0<=y/\(l.map j4)[y.toNat]?=some [.int .i64 p]/\¬ x.1<=p)->iE l i<x.1->SB.run (dF jA tA) (RJ jA tA) s (tL (WI jA tA) SB k)=some (.bool (IC 0 [] l&&decide (l.length<=16)),none):=by
    intro h0 fq;by_cases c5:x.2∈seen
    ·rw [if_pos c5] at hg;rcases h0 with c3 | ⟨y,p,c3,hy,ij,xy,hp3⟩
     ·simp [SB,-J,-y4,-y3,y0,e0,e1,e5,e9,e10,e11,uk,ic,g1,g2,c1,c2,c3,o,cG,wq,HG,AV.flat,AV.scal,hg];exact fail _ (by simp) (by simp [WS c5])
     ·simp [SB,-J,-y4,-y3,y0,e0,e1,e5,e9,e10,e11,uk,ic,g1,g2,c1,c2,c3,hy,ij,xy,hp3,o,cG,wq,HG,AV.flat,AV.scal,hg];exact fail _ (by simp) (by simp [WS c5])
    ·rw [if_neg c5] at hg;have lc:=ZY x.2 seen c5;cases c6:xF x.2 with
     | false =>
      rw [c6] at hn;rcases h0 with c3 | ⟨y,p,c3,hy,ij,xy,hp3⟩
      ·simp [SB,-J,-y4,-y3,y0,e0,e1,e5,e9,e10,e11,uk,ic,g1,g2,c1,c2,c3,o,cG,wq,HG,AV.flat,AV.scal,hg,hn];exact fail _ (by simp) (by simp [c6])
      ·simp [SB,-J,-y4,-y3,y0,e0,e1,e5,e9,e10,e11,uk,ic,g1,g2,c1,c2,c3,hy,ij,xy,hp3,o,cG,wq,HG,AV.flat,AV.scal,hg,hn];exact fail _ (by simp) (by simp [c6])
     | true =>
      rw [c6] at hn;have cj:IC x.1 (seen++[x.2]) (l.drop (i + 1))=IC 0 [] l:=by rw [<- hs]; simp [fR,QS c5,c6,fq,show 1<=x.1 from by omega,show x.1<=1000 from by omega]
      rcases h0 with c3 | ⟨y,p,c3,hy,ij,xy,hp3⟩
      ·simp [SB,-J,-y4,-y3,y0,e0,e1,e5,e9,e10,e11,uk,ic,g1,g2,c1,c2,c3,o,cG,wq,HG,AV.flat,AV.scal,hg,hn,lc,zn];refine ih fa _ ⟨?_,?_,?_,?_,?_,?_,?_,?_⟩ <;> simp [ht,hsn,hp,cj,e0,e1,e5,e9,e10]
      ·simp [SB,-J,-y4,-y3,y0,e0,e1,e5,e9,e10,e11,uk,ic,g1,g2,c1,c2,c3,hy,ij,xy,hp3,o,cG,wq,HG,AV.flat,AV.scal,hg,hn,lc,zn];refine ih fa _ ⟨?_,?_,?_,?_,?_,?_,?_,?_⟩ <;> simp [ht,hsn,hp,cj,e0,e1,e5,e9,e10]
   by_cases c3:0<(i:Int)
   ·obtain ⟨p,hp1,xy⟩:=hprev c3;have c3z:0<z:=by omega
    have ux:IntKind.i64.wrap (z - 1)=((i - 1:Nat):Int):=by rw [IntWalk.i64_in _ (by omega)]; omega
    obtain ⟨y,hy⟩:∃ y:Int,y=((i - 1:Nat):Int):=⟨_,rfl⟩;have ij:0<=y:=by omega
    rw [<- hy] at ux;rw [show i - 1=y.toNat from by omega] at hp1;by_cases c4:x.1<=p
    ·simp [SB,-J,-y4,-y3,y0,e0,e1,e5,e9,e10,e11,uk,ic,g1,c1,c2,c3z,ux,ij,hp1,c4];exact fail _ (by simp) (by simp [fR,xy,show ¬ p<x.1 from by omega])
    ·exact rest (.inr ⟨y,p,c3z,ux,ij,hp1,c4⟩) (by rw [xy]; omega)
   ·have h0:i=0:=by omega
    subst h0;exact rest (.inl (by omega)) (by simp only [iE]; omega)
  ·have ga:¬ (i:Int)<l.length:=by omega
   simp [SB,-J,-y4,-y3,y0,e10,e11,ga];refine hk _ _ (.inl ⟨rfl,?_,by simp [e0]⟩);rw [<- hs,yk (by omega),IC]
 ·simp [TI,iE]
 ·rcases h with ⟨rfl,h1,h2⟩ | ⟨rfl,h1,h2⟩ <;> simp [-J,-y4,-y3,y0,h1,h2]
  omega
def CH (x:nQ):Int × ByteArray:=(x.id,x.name)
def gF (x:zB):Int × ByteArray:=(x.id,x.name)
def gM (l:List nQ):Bool:=decide (0<l.length)&&(IC 0 [] (l.map CH)&&decide (l.length<=16))
theorem symbols_ev (l:List nQ) (hl:l.length<=8796093022206) (b:Bool):gA 162 [.sl b (l.map WD)] (.bool (gM l)):=by
 refine rA (c:=kH) rfl rfl ?_;have ai:=fun b1 b2=>ids_ev (l.map CH) (by simp; omega) b1 b2
 simp only [gA] at ai;simp [kH,-J,-y4,-y3,y0];refine RA l.length (fun i s=>(s.env 0).v=.sl b (l.map WD)/\(s.env 7).v=.sl b (l.map WD)/\(s.env 8).v=.int .i64 l.length/\(s.env 9).v=.int .i64 i/\(s.env 3).v=.sl (l.take i).isEmpty (((l.take i).map CH).map j4)/\(s.env 4).v=.sl (l.take i).isEmpty (((l.take i).map CH).map nmC)/\((s.env 3).a=.ex/\(s.env 4).a=.ex\/(l.take i).isEmpty=false/\(s.env 3).a=.own 17 3/\(s.env 4).a=.own 22 9))
  (fun e s=>e=.exit 0/\(s.env 0).v=.sl b (l.map WD)/\(s.env 3).v=.sl l.isEmpty ((l.map CH).map j4)/\(s.env 4).v=.sl l.isEmpty ((l.map CH).map nmC)) (fun i hi s k h ih hk=>?_) _ _ ?_ (fun e s h=>?_)
 ·obtain ⟨e0,e7,e8,e9,e3,e4,an⟩:=h;refine iA ?_;by_cases fa:i<l.length
  ·have ga:(i:Int)<l.length:=by omega
   have g1:(l.map WD)[i]?=some (WD l[i]):=by simp [fa]
   have hw:=WB (i:=i);have ht:l.take (i + 1)=l.take i++[l[i]]:=(yJ fa).symm;generalize l[i]=x at *
   simp only [WD] at g1;have ia:(l.take i).length=i:=by simp; omega
   generalize l.take i=t at *
   have kf:ZA 8 (t.length + 1)=true:=by rw [xA]; omega
   have wi:ZA 16 (t.length + 1)=true:=by rw [xA]; omega
   have q1:iB 1 ((t.map CH).map j4)=true:=KB _ _ _ fun _=>rfl
   have q2:iB 1 ((t.map CH).map nmC)=true:=KB _ _ _ fun _=>rfl
   rcases an with ⟨a3,a4⟩ | ⟨a0,a3,a4⟩
   ·simp [EF,-J,-y4,-y3,y0,e0,e7,e8,e9,e3,e4,a3,a4,ga,g1,hw,kf,wi,q1,q2];refine ih fa _ ⟨?_,?_,?_,?_,?_,?_,?_⟩ <;> simp [ht,e0,e7,e8,j4,nmC,CH]
   ·simp [EF,-J,-y4,-y3,y0,e0,e7,e8,e9,e3,e4,a0,a3,a4,ga,g1,hw,kf,wi,q1,q2];refine ih fa _ ⟨?_,?_,?_,?_,?_,?_,?_⟩ <;> simp [ht,e0,e7,e8,j4,nmC,CH]
  ·have ga:¬ (i:Int)<l.length:=by omega
   simp [EF,-J,-y4,-y3,y0,e8,e9,ga];rw [yB (by omega)] at e3 e4;exact hk _ _ ⟨rfl,by simp [e0],by simp [e3],by simp [e4]⟩
 ·simp
 ·obtain ⟨rfl,e0,e3,e4⟩:=h;unfold gM;by_cases h0:0<l.length
  ·have wh:(0:Int)<l.length:=by omega
   simp [-J,-y4,-y3,y0,e0,e3,e4,h0,wh,ai]
  ·have wh:¬ (0:Int)<l.length:=by omega
   simp [-J,-y4,-y3,y0,e0,e3,e4,h0,wh]
theorem rid_ev (b n:Int):gA 198 [.int .i64 b,.int .i64 n] (.bool (fR b n)):=by
 refine rA (c:=XN) rfl rfl ?_;unfold fR;by_cases h1:b<n <;> by_cases h2:1<=n <;> simp [XN,-J,-y4,-y3,y0,h1,h2]
theorem E8 (l:List nQ) (hl:l.length<=8796093022206) (b:Bool):gA 159 [.sl b (l.map WD)] (.bool (gM l)):=by
 refine rA (c:=tI) rfl rfl ?_;simp [tI,-J,-y4,-y3,y0];have g0:∀ j,j<l.length->∃ x,l[j]?=some x:=fun j hj=>⟨l[j],by simp [hj]⟩
 refine RA l.length (fun i s=>(s.env 0).v=.sl b (l.map WD)/\(s.env 3).v=.int .i64 (iE (l.map CH) i)/\(s.env 4).v=.int .i64 i/\IC (iE (l.map CH) i) ((l.map CH).take i |>.map (·.2)) ((l.map CH).drop i)=IC 0 [] (l.map CH))
  (fun e s=>(e=.exit 0/\IC 0 [] (l.map CH)=true/\(s.env 0).v=.sl b (l.map WD))\/(e=.ret/\IC 0 [] (l.map CH)=false/\(s.env 2).v=.bool false)) (fun i hi s k h ih hk=>?_) _ _ ?_ (fun e s h=>?_)
 ·obtain ⟨e0,e3,e4,hs⟩:=h;refine iA ?_;by_cases fa:i<l.length
  ·have ga:(i:Int)<l.length:=by omega
   have g1:(l.map WD)[i]?=some (WD l[i]):=by simp [fa]
   have hw:=WB (i:=i);have ci:i<(l.map CH).length:=by simpa using fa
   have hp:iE (l.map CH) (i + 1)=l[i].id:=by simp [iE,fa,CH]
   have hn:=UY l[i].name;have KR:=rid_ev (iE (l.map CH) i) l[i].id;have uf:(l.map CH)[i]=CH l[i]:=by simp
   have ht:((l.map CH).take (i + 1)).map (·.2)=((l.map CH).take i).map (·.2)++[l[i].name]:=by rw [<- yJ ci,uf]; simp [CH]
   rw [yb ci,uf] at hs;obtain ⟨x,hx⟩:∃ x,x=l[i]:=⟨_,rfl⟩;rw [<- hx] at g1 hp hn KR ht hs;simp only [CH,IC] at hs;have fail:∀ s',(s'.env 2).v=.bool false->(fR (iE (l.map CH) i) x.id&&!dR x.name (((l.map CH).take i).map (·.2))&&xF x.name)=false->k .ret s'=some (.bool (gM l),none):=fun s' h4 hf=>hk _ _ (.inr ⟨rfl,by rw [<- hs,hf]; rfl,h4⟩)
   simp only [gA] at hn KR;simp only [WD] at g1;cases c1:fR (iE (l.map CH) i) x.id with
   | false =>
    rw [c1] at KR;simp [SE,-J,-y4,-y3,y0,e0,e3,e4,ga,g1,KR];exact fail _ (by simp) (by simp [c1])
   | true =>
    rw [c1] at KR;cases c2:xF x.name with
    | false =>
     rw [c2] at hn;simp [SE,-J,-y4,-y3,y0,e0,e3,e4,ga,g1,KR,hn];exact fail _ (by simp) (by simp [c2])
    | true =>
     rw [c2] at hn;simp [SE,-J,-y4,-y3,y0,e0,e3,e4,ga,g1,KR,hn];have jn:((l.map CH).take i).map (·.2)=(l.take i).map nQ.name:=by simp [<- List.map_take,CH,Function.comp_def]
     refine RA i (fun j s=>(s.env 0).v=.sl b (l.map WD)/\(s.env 4).v=.int .i64 i/\(s.env 5).v=.int .i64 j/\¬ x.name∈(l.take j).map nQ.name)
      (fun e s=>(e=.exit 2/\¬ x.name∈(l.take i).map nQ.name/\(s.env 0).v=.sl b (l.map WD)/\(s.env 4).v=.int .i64 i)\/(e=.ret/\x.name∈(l.take i).map nQ.name/\(s.env 2).v=.bool false)) (fun j hj s k' h ih' zc=>?_) _ _ ?_ (fun e s h=>?_)
     ·obtain ⟨e0,e4,e5,hm⟩:=h;refine iA ?_;by_cases hji:j<i
      ·have sk:(j:Int)<i:=by omega
       have g2:(l.map WD)[j]?=some (WD l[j]):=by simp [show j<l.length from by omega]
       have ez:=WB (i:=j);have htj:l.take (j + 1)=l.take j++[l[j]]:=(yJ (by omega)).symm;simp only [WD] at g2;by_cases wg:l[j].name=x.name
       ·simp [MF,-J,-y4,-y3,y0,e0,e4,e5,sk,g1,g2,wg];refine zc _ _ (.inr ⟨rfl,?_,by simp⟩);rw [<- wg];exact Y00 (List.mem_take_iff_getElem.2 ⟨j,by omega,rfl⟩)
       ·simp [MF,-J,-y4,-y3,y0,e0,e4,e5,sk,g1,g2,wg,ez];refine ih' hji _ ⟨?_,?_,?_,?_⟩
        ·simp [e0]
        ·simp [e4]
        ·simp
        ·rw [htj,yH,yx];rintro (h | h)
         ·exact hm h
         ·simp at h; exact wg h.symm
      ·have sk:¬ (j:Int)<i:=by omega
       have hjj:j=i:=by omega
       simp [MF,-J,-y4,-y3,y0,e4,e5,sk];exact zc _ _ (.inl ⟨rfl,hjj ▸ hm,by simp [e0],by simp [e4]⟩)
     ·simp [e0,e4]
     ·rcases h with ⟨rfl,h1,e0,e4⟩ | ⟨rfl,h1,e2⟩
      ·simp [-J,-y4,-y3,y0,e0,e4,g1,hw];refine ih fa _ ⟨?_,?_,?_,?_⟩
       ·simp [e0]
       ·simp [hp]
       ·simp
       ·rw [hp,ht,<- hs,c1,c2,jn,QS h1];rfl
      ·simp [-J,-y4,-y3,y0];exact fail _ e2 (by rw [jn,WS h1]; simp)
  ·have ga:¬ (i:Int)<l.length:=by omega
   simp [SE,-J,-y4,-y3,y0,e0,e4,ga];refine hk _ _ (.inl ⟨rfl,?_,by simp [e0]⟩);rw [<- hs,yk (by simp; omega),IC]
 ·simp [iE]
 ·unfold gM;rcases h with ⟨rfl,h1,e0⟩ | ⟨rfl,h1,e2⟩
  ·by_cases h0:0<l.length
   ·have wh:(1:Int)<=l.length:=by omega
    simp [-J,-y4,-y3,y0,e0,h0,wh,h1];omega
   ·have wh:¬ (1:Int)<=l.length:=by omega
    simp [-J,-y4,-y3,y0,e0,h0,wh,h1]
  ·simp [-J,-y4,-y3,y0,h1,e2]
theorem blank_ev (v:Vl) (hv:v.ok):gA 202 [.agg (fA v)] (.bool (v.same Vl.zero)):=by
 have h:=same_ev _ v Vl.zero (Nat.lt_succ_self _) hv;refine rA (c:=uJ) rfl rfl ?_;simp only [gA,qA,Vl.zero,Vl.kind,Vl.b,Vl.i,Vl.s,Vl.id,Vl.kn,Vl.keys,Vl.xn,Vl.items,Vl.rn,Vl.rest,ym] at h ⊢;simp [uJ,-J,-y4,-y3,y0,h]
theorem rblank_ev (v:Vl) (hv:v.ok):gA 51 [.agg (fA v),.agg [.int .i64 0,.bool false,.int .i64 0,.str ⟨#[]⟩,.int .i64 0,.sl true [],.sl true [],.sl true []]] (.bool (v.same Vl.zero)):=by
 have h:=bT _ v Vl.zero (Nat.lt_succ_self _) hv;simp only [gA,qA,Vl.zero,Vl.kind,Vl.b,Vl.i,Vl.s,Vl.id,Vl.kn,Vl.keys,Vl.xn,Vl.items,Vl.rn,Vl.rest,ym] at h ⊢;exact h
def AB (rec:Bool) (m:zB):Bool:=!(!rec&&(m.crit||m.has))&&!(m.crit&&m.has)&&(m.has||m.dflt.same Vl.zero)
def IG (rec:Bool) (l:List zB):Bool:=l.all (AB rec)&&((rec||decide (0<l.length))&&(IC 0 [] (l.map gF)&&decide (l.length<=16)))
theorem members_ev (t:pA) (ht:t.ok) (hl:t.mems.length<=8796093022206) (hk:t.kind=5\/t.kind=6):gA 163 [.agg (eA t)] (.bool (IG (decide (t.kind=5)) t.mems)):=by
 obtain ⟨rc,hrc⟩:∃ rc,rc=decide (t.kind=5):=⟨_,rfl⟩;have hk:t.kind=5/\rc=true\/t.kind=6/\rc=false:=by
  rcases hk with h | h
  ·exact .inl ⟨h,by rw [hrc,h]; rfl⟩
  ·exact .inr ⟨h,by rw [hrc,h]; rfl⟩
 rw [<- hrc];clear hrc;refine rA (c:=jH) rfl rfl ?_;have ai:=fun b1 b2=>ids_ev (t.mems.map gF) (by simp; omega) b1 b2
 simp only [gA] at ai;simp [jH,-J,-y4,-y3,y0,eA];refine RA t.mems.length (fun i s=>(s.env 1).v=.ptr 1 1 0/\s.mem 1 1=some (sA t)/\(s.env 8).v=.sl t.mn (t.mems.map nA)/\(s.env 9).v=.int .i64 t.mems.length/\(s.env 10).v=.int .i64 i/\(s.env 3).v=.sl (t.mems.take i).isEmpty (((t.mems.take i).map gF).map j4)/\(s.env 4).v=.sl (t.mems.take i).isEmpty (((t.mems.take i).map gF).map nmC)/\((t.mems.take i).isEmpty=(t.mems.take i).isEmpty/\(s.env 3).a=.ex/\(s.env 4).a=.ex\/(t.mems.take i).isEmpty=false/\(s.env 3).a=.own 18 3/\(s.env 4).a=.own 23 9)/\(t.mems.drop i).all (AB rc)=t.mems.all (AB rc))
  (fun e s=>(e=.exit 0/\t.mems.all (AB rc)=true/\(s.env 1).v=.ptr 1 1 0/\s.mem 1 1=some (sA t)/\(s.env 3).v=.sl t.mems.isEmpty ((t.mems.map gF).map j4)/\(s.env 4).v=.sl t.mems.isEmpty ((t.mems.map gF).map nmC))\/(e=.ret/\t.mems.all (AB rc)=false/\(s.env 2).v=.bool false)) (fun i hi s k h ih zc=>?_) _ _ ?_ (fun e s h=>?_)
 ·obtain ⟨e1,m1,e8,e9,e10,e3,e4,an,hs⟩:=h;refine iA ?_;by_cases fa:i<t.mems.length
  ·have ga:(i:Int)<t.mems.length:=by omega
   have g1:(t.mems.map nA)[i]?=some (nA t.mems[i]):=by simp [fa]
   have hw:=WB (i:=i);have nv:t.mems.take (i + 1)=t.mems.take i++[t.mems[i]]:=(yJ fa).symm;have bo:=blank_ev t.mems[i].dflt (ht.2.2 _ (y8 _)).1;rw [yb fa,List.all_cons] at hs;generalize t.mems[i]=x at *
   simp only [nA] at g1;simp only [gA,qA] at bo;have ia:(t.mems.take i).length=i:=by simp; omega
   generalize hq:t.mems.take i=q at *
   have kf:ZA 8 (q.length + 1)=true:=by rw [xA]; omega
   have wi:ZA 16 (q.length + 1)=true:=by rw [xA]; omega
   have q1:iB 1 ((q.map gF).map j4)=true:=KB _ _ _ fun _=>rfl
   have q2:iB 1 ((q.map gF).map nmC)=true:=KB _ _ _ fun _=>rfl
   have fail:∀ s',(s'.env 2).v=.bool false->AB rc x=false->k .ret s'=some (.bool (IG rc t.mems),none):=fun s' h4 hf=>zc _ _ (.inr ⟨rfl,by rw [<- hs,hf]; rfl,h4⟩)
   have good:AB rc x=true->(t.mems.drop (i + 1)).all (AB rc)=t.mems.all (AB rc):=fun h=>by rw [<- hs,h]; rfl
   generalize hB:t.mems.all (AB rc)=B at *
   cases hg:AB rc x with
   | false =>
    cases hz:x.dflt.same Vl.zero <;> rw [hz] at bo <;> rcases hk with ⟨h5,rfl⟩ | ⟨h5,rfl⟩ <;> cases hc:x.crit <;> cases hh:x.has <;> first | (simp [AB,hc,hh,hz] at hg; done) | skip
    all_goals rcases an with ⟨a0,a3,a4⟩ | ⟨a0,a3,a4⟩ <;>
     simp [WF,-J,-y4,-y3,y0,e1,m1,e8,e9,e10,e3,e4,a0,a3,a4,ga,g1,hw,kf,wi,q1,q2,hc,hh,h5,bo]
    all_goals exact fail _ (by simp) hg
   | true =>
    have good:=good hg;cases hz:x.dflt.same Vl.zero <;> rw [hz] at bo <;> rcases hk with ⟨h5,rfl⟩ | ⟨h5,rfl⟩ <;> cases hc:x.crit <;> cases hh:x.has <;> first | (simp [AB,hc,hh,hz] at hg; done) | skip
    all_goals rcases an with ⟨a0,a3,a4⟩ | ⟨a0,a3,a4⟩ <;>
     simp [WF,-J,-y4,-y3,y0,e1,m1,e8,e9,e10,e3,e4,a0,a3,a4,ga,g1,hw,kf,wi,q1,q2,hc,hh,h5,bo]
    all_goals refine ih fa _ ⟨?_,?_,?_,?_,?_,?_,?_,?_,good⟩
    all_goals simp [nv,e1,m1,e8,e9,j4,nmC,gF,An.strip]
  ·have ga:¬ (i:Int)<t.mems.length:=by omega
   simp [WF,-J,-y4,-y3,y0,e9,e10,ga];rw [yB (by omega)] at e3 e4;rw [yk (by omega)] at hs;exact zc _ _ (.inl ⟨rfl,hs.symm,by simp [e1],by simp [m1],by simp [e3],by simp [e4]⟩)
 ·simp
 ·unfold IG;rcases h with ⟨rfl,h1,e1,m1,e3,e4⟩ | ⟨rfl,h1,e2⟩
  ·rw [h1];rcases hk with ⟨h5,rfl⟩ | ⟨h5,rfl⟩
   ·simp [-J,-y4,-y3,y0,e1,m1,e3,e4,h5,ai]
   ·by_cases h0:0<t.mems.length
    ·have wh:(0:Int)<t.mems.length:=by omega
     simp [-J,-y4,-y3,y0,e1,m1,e3,e4,h5,h0,wh,ai]
    ·have wh:¬ (0:Int)<t.mems.length:=by omega
     simp [-J,-y4,-y3,y0,e1,m1,e3,e4,h5,h0,wh]
  ·simp [-J,-y4,-y3,y0,h1,e2]
theorem z8 (l:List zB) (hl:l.length<=8796093022206) (sa:∀ m∈l,m.ok) (b rec:Bool):gA 160 [.sl b (l.map nA),.bool rec] (.bool (IG rec l)):=by
  refine rA (c:=rI) rfl rfl ?_;simp [rI,-J,-y4,-y3,y0];refine RA l.length (fun i s=>(s.env 0).v=.sl b (l.map nA)/\(s.env 1).v=.bool rec/\(s.env 5).v=.int .i64 (iE (l.map gF) i)/\(s.env 6).v=.int .i64 i/\(IC (iE (l.map gF) i) ((l.map gF).take i |>.map (·.2)) ((l.map gF).drop i)&&(l.drop i).all (AB rec))=(IC 0 [] (l.map gF)&&l.all (AB rec)))
    (fun e s=>(e=.exit 0/\(IC 0 [] (l.map gF)&&l.all (AB rec))=true/\(s.env 0).v=.sl b (l.map nA)/\(s.env 1).v=.bool rec)\/(e=.ret/\(IC 0 [] (l.map gF)&&l.all (AB rec))=false/\(s.env 4).v=.bool false)) (fun i hi s k h ih hk=>?_) _ _ ?_ (fun e s h=>?_)
  · obtain ⟨e0,e1,e5,e6,hs⟩:=h
    refine iA ?_;by_cases fa:i<l.length
    · have ga:(i:Int)<l.length:=by omega
      have g1:(l.map nA)[i]?=some (nA l[i]):=by simp [fa]
      have hw:=WB (i:=i);have ci:i<(l.map gF).length:=by simpa using fa
      have hp:iE (l.map gF) (i + 1)=l[i].id:=by simp [iE,fa,gF]
      have hn:=UY l[i].name;have KR:=rid_ev (iE (l.map gF) i) l[i].id;have bo:=rblank_ev l[i].dflt (sa _ (y8 _)).1;have uf:(l.map gF)[i]=gF l[i]:=by simp
      have ht:((l.map gF).take (i + 1)).map (·.2)=((l.map gF).take i).map (·.2)++[l[i].name]:=by rw [<- yJ ci,uf]; simp [gF]
      rw [yb ci,uf,yb fa,List.all_cons] at hs;obtain ⟨x,hx⟩:∃ x,x=l[i]:=⟨_,rfl⟩;rw [<- hx] at g1 hp hn KR ht hs bo;simp only [IC] at hs;have hs2:((fR (iE (l.map gF) i) x.id&&!dR x.name (((l.map gF).take i).map (·.2))&&xF x.name&&AB rec x)&&(IC x.id (((l.map gF).take i).map (·.2)++[x.name]) ((l.map gF).drop (i + 1))&&(l.drop (i + 1)).all (AB rec)))=(IC 0 [] (l.map gF)&&l.all (AB rec)):=by
        rw [<- hs];simp only [gF,Bool.and_assoc];congr 1;congr 1;congr 1;rw [<- Bool.and_assoc,<- Bool.and_assoc,Bool.and_comm (AB rec x)]
      clear hs;have fail:∀ s',(s'.env 4).v=.bool false->(fR (iE (l.map gF) i) x.id&&!dR x.name (((l.map gF).take i).map (·.2))&&xF x.name&&AB rec x)=false->k .ret s'=some (.bool (IG rec l),none):=fun s' h4 hf=>hk _ _ (.inr ⟨rfl,by rw [<- hs2,hf]; rfl,h4⟩)
      simp only [gA,qA] at hn KR bo;simp only [nA] at g1;cases c1:fR (iE (l.map gF) i) x.id with
      | false =>
        rw [c1] at KR;simp [LD,-J,-y4,-y3,y0,e0,e1,e5,e6,ga,g1,KR];exact fail _ (by simp) (by simp [c1])
      | true =>
        rw [c1] at KR;cases c2:xF x.name with
        | false =>
          rw [c2] at hn;simp [LD,-J,-y4,-y3,y0,e0,e1,e5,e6,ga,g1,KR,hn];exact fail _ (by simp) (by simp [c2])
        | true =>
          rw [c2] at hn;have jn:((l.map gF).take i).map (·.2)=(l.take i).map zB.name:=by simp [<- List.map_take,gF,Function.comp_def]
          have inner:∀ s:aA,AB rec x=true->(s.env 0).v=.sl b (l.map nA)->(s.env 1).v=.bool rec->(s.env 6).v=.int .i64 i->(s.env 8).v=.int .i64 0->∀ p,(s.env 7).v=.ptr 7 p 0->s.mem 7 p=some ((nA x).map (⟨·,.no⟩)) →
              ∀ k2:Ex->aA->Option RV,(∀ s',(s'.env 4).v=.bool false->k2 .ret s'=k .ret s')->(∀ s',(s'.env 0).v=.sl b (l.map nA)->(s'.env 1).v=.bool rec->(s'.env 6).v=.int .i64 i->(s'.env 7).v=.ptr 7 p 0->s'.mem 7 p=some ((nA x).map (⟨·,.no⟩))->¬ x.name∈(l.take i).map zB.name->k2 (.exit 2) s'=some (.bool (IG rec l),none)) →
              WI jA tA AE s k2=some (.bool (IG rec l),none):=by
            intro s hgood e0 e1 e6 e8 p e7 m7 k2 hk2 hk3;refine RA i (fun j s=>(s.env 0).v=.sl b (l.map nA)/\(s.env 1).v=.bool rec/\(s.env 6).v=.int .i64 i/\(s.env 7).v=.ptr 7 p 0/\s.mem 7 p=some ((nA x).map (⟨·,.no⟩))/\(s.env 8).v=.int .i64 j/\¬ x.name∈(l.take j).map zB.name)
              (fun e s=>(e=.exit 2/\¬ x.name∈(l.take i).map zB.name/\(s.env 0).v=.sl b (l.map nA)/\(s.env 1).v=.bool rec/\(s.env 6).v=.int .i64 i/\(s.env 7).v=.ptr 7 p 0/\s.mem 7 p=some ((nA x).map (⟨·,.no⟩)))\/(e=.ret/\x.name∈(l.take i).map zB.name/\(s.env 4).v=.bool false)) (fun j hj s k' h ih' zc=>?_) _ _ ?_ (fun e s h=>?_)
            · obtain ⟨e0,e1,e6,e7,m7,e8,hm⟩:=h
              refine iA ?_;by_cases hji:j<i
              · have sk:(j:Int)<i:=by omega
                have g2:(l.map nA)[j]?=some (nA l[j]):=by simp [show j<l.length from by omega]
                have ez:=WB (i:=j);have htj:l.take (j + 1)=l.take j++[l[j]]:=(yJ (by omega)).symm;simp only [nA,yf,ym] at g2 m7;by_cases wg:l[j].name=x.name
                · simp [AE,-J,-y4,-y3,y0,e0,e1,e6,e7,m7,e8,sk,g1,g2,wg]
                  refine zc _ _ (.inr ⟨rfl,?_,by simp⟩);rw [<- wg];exact Y00 (List.mem_take_iff_getElem.2 ⟨j,by omega,rfl⟩)
                · simp [AE,-J,-y4,-y3,y0,e0,e1,e6,e7,m7,e8,sk,g1,g2,wg,ez]
                  refine ih' hji _ ⟨?_,?_,?_,?_,?_,?_,?_⟩
                  · simp [e0]
                  · simp [e1]
                  · simp [e6]
                  · simp [e7]
                  · simp [m7,nA]
                  · simp
                  · rw [htj,yH,yx]
                    rintro (h | h)
                    · exact hm h
                    · simp at h; exact wg h.symm
              · have sk:¬ (j:Int)<i:=by omega
                have hjj:j=i:=by omega
                simp [AE,-J,-y4,-y3,y0,e6,e8,sk];exact zc _ _ (.inl ⟨rfl,hjj ▸ hm,by simp [e0],by simp [e1],by simp [e6],by simp [e7],by simp [m7]⟩)
            · simp [e0,e1,e6,e7,e8,m7]
            · rcases h with ⟨rfl,h1,e0,e1,e6,e7,m7⟩ | ⟨rfl,h1,e4⟩
              · exact hk3 s e0 e1 e6 e7 m7 h1
              · rw [hk2 _ e4]
                exact fail _ e4 (by rw [jn,WS h1]; simp)
          have next:∀ s',(s'.env 0).v=.sl b (l.map nA)->(s'.env 1).v=.bool rec->(s'.env 5).v=.int .i64 x.id->(s'.env 6).v=.int .i64 ((i + 1:Nat):Int)->AB rec x=true->¬ x.name∈(l.take i).map zB.name->WI jA tA LD s' k=some (.bool (IG rec l),none):=fun s' f0 f1 f5 f6 hg ab=>ih fa _ ⟨f0,f1,by rw [hp]; exact f5,f6,by rw [hp,ht,<- hs2,c1,c2,hg,jn,QS ab]; rfl⟩
          cases hz:x.dflt.same Vl.zero <;> rw [hz] at bo <;> cases rec <;> cases hc:x.crit <;> cases hh:x.has <;>
            simp [LD,-J,-y4,-y3,y0,e0,e1,e5,e6,ga,g1,KR,hn,hc,hh,bo] <;>
            first
            | exact fail _ (by simp) (by simp [AB,hc,hh,hz])
            | (refine inner _ (by simp [AB,hc,hh,hz]) ?_ ?_ ?_ ?_ (s.next + 1) ?_ ?_ _ ?_ ?_
               · simp [e0]
               · simp [e1]
               · simp [e6]
               · simp
               · simp
               · simp [nA,hc,hh]
               · intro s' _; rfl
               · intro s' f0 f1 f6 f7 fm ab
                 simp only [nA,yf,ym] at fm;simp [-J,-y4,-y3,y0,f0,f1,f6,f7,fm,hw];refine next _ ?_ ?_ ?_ ?_ (by simp [AB,hc,hh,hz]) ab <;> simp [f0,f1])
    · have ga:¬ (i:Int)<l.length:=by omega
      simp [LD,-J,-y4,-y3,y0,e0,e6,ga];refine hk _ _ (.inl ⟨rfl,?_,by simp [e0],by simp [e1]⟩);rw [<- hs,yk (by simp; omega),yk (by omega),IC];rfl
  · simp [iE]
  · unfold IG
    rcases h with ⟨rfl,h1,e0,e1⟩ | ⟨rfl,h1,e2⟩
    · rw [y7] at h1
      rw [h1.1,h1.2];by_cases h16:l.length<=16
      · have jt:(l.length:Int)<=16:=by omega
        cases rec
        · by_cases h0:0<l.length
          · have wh:(1:Int)<=l.length:=by omega
            simp [-J,-y4,-y3,y0,e0,e1,h0,wh,h16,jt]
          · have wh:¬ (1:Int)<=l.length:=by omega
            simp [-J,-y4,-y3,y0,e0,e1,h0,wh,h16,jt]
        · simp [-J,-y4,-y3,y0,e0,e1,h16,jt]
      · have jt:¬ (l.length:Int)<=16:=by omega
        simp [-J,-y4,-y3,y0,e0,e1,h16,jt]
    · have:(l.all (AB rec)&&((rec||decide (0<l.length))&&(IC 0 [] (l.map gF)&&decide (l.length<=16))))=false:=by
        rw [Bool.and_eq_false_iff] at h1;rcases h1 with h1 | h1 <;> simp [h1]
      rw [this];simp [-J,-y4,-y3,y0,e2]
mutual
theorem Vl.same_refl:∀ v:Vl,v.same v=true
 | .mk k b i s d kn ks xn xs rn rs=>by rw [Vl.same]; simp [Vl.sames_refl ks,Vl.sames_refl xs]
theorem Vl.sames_refl:∀ l:List Vl,Vl.sames l l=true
 | []=>by rw [Vl.sames]
 | v :: r=>by rw [Vl.sames]; simp [Vl.same_refl v,Vl.sames_refl r]
end
theorem zB.same_refl (m:zB):m.same m=true:=by simp [zB.same,Vl.same_refl]
theorem wR:∀ l:List zB,jB l l=true
 | []=>rfl
 | m :: r=>by simp [jB,zB.same_refl,wR r]
def tC:pA:=⟨0,⟨#[]⟩,0,0,0,true,[],true,[],0,0,false⟩
def pA.left (t:pA):pA :=
 if t.kind=1 then { t with kind:=0 }
 else if t.kind=2 then { t with kind:=0,low:=0,high:=0 }
 else if t.kind=3 then { t with kind:=0,max:=0 }
 else if t.kind=4 then { t with kind:=0,name:=⟨#[]⟩,sn:=true,syms:=[],opn:=false }
 else if t.kind=5 then { t with kind:=0,name:=⟨#[]⟩,mn:=true,mems:=[] }
 else if t.kind=6 then { t with kind:=0,name:=⟨#[]⟩,mn:=true,mems:=[],opn:=false }
 else if t.kind=7 then { t with kind:=0,max:=0,elem:=0 }
 else if t.kind=8 then { t with kind:=0,max:=0,elem:=0,key:=0 }
 else { t with kind:=0,elem:=0 }
def LG (t:pA):Bool :=
 if t.kind=2 then decide (t.low<=t.high)
 else if t.kind=3 then decide (0<=t.max)&&decide (t.max<=200)
 else if t.kind=4 then xF t.name&&gM t.syms
 else if t.kind=5 then xF t.name&&IG true t.mems
 else if t.kind=6 then xF t.name&&IG false t.mems
 else if t.kind=7\/t.kind=8 then decide (0<=t.max)&&decide (t.max<=50)
 else true
def dB (t:pA):Bool:=decide (1<=t.kind/\t.kind<=9)&&(LG t&&t.left.same tC)
def pA.fine (t:pA):Prop:=t.ok/\t.syms.length<=8796093022206/\t.mems.length<=8796093022206
theorem tT {t u:pA} (h:t.ok) (h1:u.syms=t.syms\/u.syms=[]) (h2:u.mems=t.mems\/u.mems=[]):u.ok:=by
 refine ⟨?_,?_,?_⟩
 ·rcases h1 with h1 | h1
  ·rw [h1]; exact h.1
  ·rw [h1]; simp
 ·rcases h2 with h2 | h2
  ·rw [h2]; exact h.2.1
  ·rw [h2]; simp
 ·rcases h2 with h2 | h2
  ·rw [h2]; exact h.2.2
  ·rw [h2]; simp
theorem left_ok {t:pA} (h:t.ok):t.left.ok:=by
 unfold pA.left;by_cases h1:t.kind=1
 ·rw [if_pos h1]; exact tT h (.inl rfl) (.inl rfl)
 by_cases h2:t.kind=2
 ·rw [if_neg h1,if_pos h2]; exact tT h (.inl rfl) (.inl rfl)
 by_cases h3:t.kind=3
 ·rw [if_neg h1,if_neg h2,if_pos h3]; exact tT h (.inl rfl) (.inl rfl)
 by_cases h4:t.kind=4
 ·rw [if_neg h1,if_neg h2,if_neg h3,if_pos h4]; exact tT h (.inr rfl) (.inl rfl)
 by_cases h5:t.kind=5
 ·rw [if_neg h1,if_neg h2,if_neg h3,if_neg h4,if_pos h5]; exact tT h (.inl rfl) (.inr rfl)
 by_cases h6:t.kind=6
 ·rw [if_neg h1,if_neg h2,if_neg h3,if_neg h4,if_neg h5,if_pos h6]; exact tT h (.inl rfl) (.inr rfl)
 rw [if_neg h1,if_neg h2,if_neg h3,if_neg h4,if_neg h5,if_neg h6];by_cases h7:t.kind=7
 ·rw [if_pos h7]; exact tT h (.inl rfl) (.inl rfl)
 by_cases h8:t.kind=8
 ·rw [if_neg h7,if_pos h8]; exact tT h (.inl rfl) (.inl rfl)
 rw [if_neg h7,if_neg h8]; exact tT h (.inl rfl) (.inl rfl)
theorem kinds (k:Int):k=1\/k=2\/k=3\/k=4\/k=5\/k=6\/k=7\/k=8\/k=9\/¬ (1<=k/\k<=9):=by omega
def CD (n:Int):List AV:=[.int .i64 n]
def pA.usesL (t:pA):List Int:=(t.mems.map zB.ty++(if t.kind=8 then [t.key] else []))++(if 7<=t.kind then [t.elem] else [])
section
variable (t:pA) (hl:t.mems.length<=8796093022206)
include t hl
theorem uses_lp (r:RV) (k:Ex->aA->Option RV)
  (hk:∀ s':aA,(s'.env 1).v=.ptr 1 1 0->s'.mem 1 1=some (sA t)->(s'.env 3).v=.sl t.mems.isEmpty ((t.mems.map zB.ty).map CD)->(t.mems.isEmpty=t.mems.isEmpty/\(s'.env 3).a=.ex\/t.mems.isEmpty=false/\(s'.env 3).a=.own 17 3)->k (.exit 0) s'=some r)
  (s:aA) (h1:(s.env 1).v=.ptr 1 1 0) (h2:s.mem 1 1=some (sA t)) (h3:(s.env 7).v=.sl t.mn (t.mems.map nA)) (h4:(s.env 8).v=.int .i64 t.mems.length) (h5:(s.env 9).v=.int .i64 0) (h6:(s.env 3).v=.sl true []) (h7:(s.env 3).a=.ex):WI jA tA AF s k=some r:=by
 refine RA t.mems.length (fun i s=>(s.env 1).v=.ptr 1 1 0/\s.mem 1 1=some (sA t)/\(s.env 7).v=.sl t.mn (t.mems.map nA)/\(s.env 8).v=.int .i64 t.mems.length/\(s.env 9).v=.int .i64 i/\(s.env 3).v=.sl (t.mems.take i).isEmpty (((t.mems.take i).map zB.ty).map CD)/\((t.mems.take i).isEmpty=(t.mems.take i).isEmpty/\(s.env 3).a=.ex\/(t.mems.take i).isEmpty=false/\(s.env 3).a=.own 17 3))
  (fun e s=>e=.exit 0/\(s.env 1).v=.ptr 1 1 0/\s.mem 1 1=some (sA t)/\(s.env 3).v=.sl t.mems.isEmpty ((t.mems.map zB.ty).map CD)/\(t.mems.isEmpty=t.mems.isEmpty/\(s.env 3).a=.ex\/t.mems.isEmpty=false/\(s.env 3).a=.own 17 3)) (fun i hi s k h ih hk=>?_) _ _ ?_ (fun e s h=>?_)
 ·obtain ⟨e1,m1,e7,e8,e9,e3,an⟩:=h;refine iA ?_;by_cases fa:i<t.mems.length
  ·have ga:(i:Int)<t.mems.length:=by omega
   have g1:(t.mems.map nA)[i]?=some (nA t.mems[i]):=by simp [fa]
   have hw:=WB (i:=i);have ht:t.mems.take (i + 1)=t.mems.take i++[t.mems[i]]:=(yJ fa).symm;generalize t.mems[i]=x at *
   simp only [nA] at g1;have ia:(t.mems.take i).length=i:=by simp; omega
   generalize t.mems.take i=q at *
   have kf:ZA 8 (q.length + 1)=true:=by rw [xA]; omega
   have q1:iB 1 ((q.map zB.ty).map CD)=true:=KB _ _ _ fun _=>rfl
   rcases an with ⟨a0,a3⟩ | ⟨a0,a3⟩
   ·simp [AF,-J,-y4,-y3,y0,e1,m1,e7,e8,e9,e3,a0,a3,ga,g1,hw,kf,q1];refine ih fa _ ⟨?_,?_,?_,?_,?_,?_,?_⟩ <;> simp [ht,e1,m1,e7,e8,CD,An.strip]
   ·simp [AF,-J,-y4,-y3,y0,e1,m1,e7,e8,e9,e3,a0,a3,ga,g1,hw,kf,q1];refine ih fa _ ⟨?_,?_,?_,?_,?_,?_,?_⟩ <;> simp [ht,e1,m1,e7,e8,CD,An.strip]
  ·have ga:¬ (i:Int)<t.mems.length:=by omega
   simp [AF,-J,-y4,-y3,y0,e8,e9,ga];rw [yB (by omega)] at e3 an;exact hk _ _ ⟨rfl,by simp [e1],by simp [m1],by simp [e3],by simpa using an⟩
 ·simp [h1,h2,h3,h4,h5,h6,h7]
 ·obtain ⟨rfl,e1,m1,e3,an⟩:=h;exact hk s e1 m1 e3 an
theorem uses_ev (b:Bool) (hb:b=t.usesL.isEmpty):gA 120 [.agg (eA t)] (.sl b (t.usesL.map CD)):=by
 subst hb;refine rA (c:=cK) rfl rfl ?_;simp [cK,-J,-y4,-y3,y0,eA];refine uses_lp t hl _ _ (fun s e1 m1 e3 an=>?_) _ ?_ ?_ ?_ ?_ ?_ ?_ ?_
 ·have q1:iB 1 ((t.mems.map zB.ty).map CD)=true:=KB _ _ _ fun _=>rfl
  have kf:ZA 8 (t.mems.length + 1)=true:=by rw [xA]; omega
  have wi:ZA 8 (t.mems.length + 1 + 1)=true:=by rw [xA]; omega
  unfold pA.usesL;by_cases h8:t.kind=8
  ·rcases an with ⟨a0,a3⟩ | ⟨a0,a3⟩
   ·simp [-J,-y4,-y3,y0,e1,m1,e3,a0,a3,h8,q1,kf,wi,CD]
   ·simp [-J,-y4,-y3,y0,e1,m1,e3,a0,a3,h8,q1,kf,wi,CD]
  ·by_cases h7:7<=t.kind
   ·rcases an with ⟨a0,a3⟩ | ⟨a0,a3⟩
    ·simp [-J,-y4,-y3,y0,e1,m1,e3,a0,a3,h8,h7,q1,kf,wi,CD]
    ·simp [-J,-y4,-y3,y0,e1,m1,e3,a0,a3,h8,h7,q1,kf,wi,CD]
   ·simp [-J,-y4,-y3,y0,e1,m1,e3,h8,h7]
 all_goals simp
theorem ruses_lp (r:RV) (k:Ex->aA->Option RV)
  (hk:∀ s':aA,(s'.env 1).v=.ptr 1 1 0->s'.mem 1 1=some (sA t)->(s'.env 3).v=.sl t.mems.isEmpty ((t.mems.map zB.ty).map CD)->(t.mems.isEmpty=t.mems.isEmpty/\(s'.env 3).a=.ex\/t.mems.isEmpty=false/\(s'.env 3).a=.own 20 3)->k (.exit 0) s'=some r)
  (s:aA) (h1:(s.env 1).v=.ptr 1 1 0) (h2:s.mem 1 1=some (sA t)) (h5:(s.env 4).v=.int .i64 0) (h6:(s.env 3).v=.sl true []) (h7:(s.env 3).a=.ex):WI jA tA fG s k=some r:=by
 refine RA t.mems.length (fun i s=>(s.env 1).v=.ptr 1 1 0/\s.mem 1 1=some (sA t)/\(s.env 4).v=.int .i64 i/\(s.env 3).v=.sl (t.mems.take i).isEmpty (((t.mems.take i).map zB.ty).map CD)/\((t.mems.take i).isEmpty=(t.mems.take i).isEmpty/\(s.env 3).a=.ex\/(t.mems.take i).isEmpty=false/\(s.env 3).a=.own 20 3))
  (fun e s=>e=.exit 0/\(s.env 1).v=.ptr 1 1 0/\s.mem 1 1=some (sA t)/\(s.env 3).v=.sl t.mems.isEmpty ((t.mems.map zB.ty).map CD)/\(t.mems.isEmpty=t.mems.isEmpty/\(s.env 3).a=.ex\/t.mems.isEmpty=false/\(s.env 3).a=.own 20 3)) (fun i hi s k h ih hk=>?_) _ _ ?_ (fun e s h=>?_)
 ·obtain ⟨e1,m1,e9,e3,an⟩:=h;refine iA ?_;by_cases fa:i<t.mems.length
  ·have ga:(i:Int)<t.mems.length:=by omega
   have g1:(t.mems.map nA)[i]?=some (nA t.mems[i]):=by simp [fa]
   have hw:=WB (i:=i);have ht:t.mems.take (i + 1)=t.mems.take i++[t.mems[i]]:=(yJ fa).symm;generalize t.mems[i]=x at *
   simp only [nA] at g1;have ia:(t.mems.take i).length=i:=by simp; omega
   generalize t.mems.take i=q at *
   have kf:ZA 8 (q.length + 1)=true:=by rw [xA]; omega
   have q1:iB 1 ((q.map zB.ty).map CD)=true:=KB _ _ _ fun _=>rfl
   rcases an with ⟨a0,a3⟩ | ⟨a0,a3⟩
   ·simp [fG,-J,-y4,-y3,y0,e1,m1,e9,e3,a0,a3,ga,g1,hw,kf,q1];refine ih fa _ ⟨?_,?_,?_,?_,?_⟩ <;> simp [ht,e1,m1,CD,An.strip]
   ·simp [fG,-J,-y4,-y3,y0,e1,m1,e9,e3,a0,a3,ga,g1,hw,kf,q1];refine ih fa _ ⟨?_,?_,?_,?_,?_⟩ <;> simp [ht,e1,m1,CD,An.strip]
  ·have ga:¬ (i:Int)<t.mems.length:=by omega
   simp [fG,-J,-y4,-y3,y0,e1,m1,e9,ga];rw [yB (by omega)] at e3 an;exact hk _ _ ⟨rfl,by simp [e1],by simp [m1],by simp [e3],by simpa using an⟩
 ·simp [h1,h2,h5,h6,h7]
 ·obtain ⟨rfl,e1,m1,e3,an⟩:=h;exact hk s e1 m1 e3 an
theorem ruses_ev (h9:t.kind<=9) (b:Bool) (hb:b=t.usesL.isEmpty):gA 117 [.agg (eA t)] (.sl b (t.usesL.map CD)):=by
 subst hb;refine rA (c:=lL) rfl rfl ?_;simp [lL,-J,-y4,-y3,y0,eA];refine ruses_lp t hl _ _ (fun s e1 m1 e3 an=>?_) _ ?_ ?_ ?_ ?_ ?_
 ·have q1:iB 1 ((t.mems.map zB.ty).map CD)=true:=KB _ _ _ fun _=>rfl
  have kf:ZA 8 (t.mems.length + 1)=true:=by rw [xA]; omega
  have wi:ZA 8 (t.mems.length + 1 + 1)=true:=by rw [xA]; omega
  unfold pA.usesL;have hc:t.kind=8\/t.kind=7\/t.kind=9\/(¬ t.kind=8/\¬ t.kind=7/\¬ t.kind=9/\¬ 7<=t.kind):=by omega
  rcases hc with h | h | h | ⟨h8,h7,h9,h⟩
  ·rcases an with ⟨a0,a3⟩ | ⟨a0,a3⟩ <;> simp [-J,-y4,-y3,y0,e1,m1,e3,a0,a3,h,q1,kf,wi,CD]
  ·rcases an with ⟨a0,a3⟩ | ⟨a0,a3⟩ <;> simp [-J,-y4,-y3,y0,e1,m1,e3,a0,a3,h,q1,kf,wi,CD]
  ·rcases an with ⟨a0,a3⟩ | ⟨a0,a3⟩ <;> simp [-J,-y4,-y3,y0,e1,m1,e3,a0,a3,h,q1,kf,wi,CD]
  ·simp [-J,-y4,-y3,y0,e1,m1,e3,h8,h7,h9,h]
 all_goals simp
end
def sC (v:Vl):Bool :=
 (decide (v.kind=1)||!v.b)&&((decide (v.kind=2)||decide (v.i=0))&&((decide (v.kind=3)||decide (v.s=⟨#[]⟩))&&((decide (v.kind=4)||decide (v.kind=6)||decide (v.id=0))&&((decide (v.kind=8)||v.keys.isEmpty)&&((decide (5<=v.kind)||v.items.isEmpty)&&(decide (v.kind=5)||decide (v.kind=6)||v.rest.isEmpty))))))
def Vl.bare (v:Vl):Vl:=.mk v.kind (if v.kind=1 then v.b else false) (if v.kind=2 then v.i else 0) (if v.kind=3 then v.s else ⟨#[]⟩) (if v.kind=4\/v.kind=6 then v.id else 0)
 (if v.kind=8 then v.kn else true) (if v.kind=8 then v.keys else []) (if 5<=v.kind then v.xn else true) (if 5<=v.kind then v.items else []) (if v.kind=5\/v.kind=6 then v.rn else true) (if v.kind=5\/v.kind=6 then v.rest else [])
section
variable (v:Vl)
include v
theorem bare_ev1 (h:v.kind=1):gA 220 [.agg (fA v)] (.agg (fA v.bare)):=by
 refine rA (c:=bB) rfl rfl ?_;obtain ⟨k,b,i,s,d,kn,ks,xn,xs,rn,rs⟩:=v;have h:k=1:=h;subst h;rw [qA,qA];simp [bB,-J,-y4,-y3,y0,Vl.bare,Vl.kind,Vl.b,Vl.i,Vl.s,Vl.id,Vl.kn,Vl.keys,Vl.xn,Vl.items,Vl.rn,Vl.rest]
theorem bare_ev2 (h:v.kind=2):gA 220 [.agg (fA v)] (.agg (fA v.bare)):=by
 refine rA (c:=bB) rfl rfl ?_;obtain ⟨k,b,i,s,d,kn,ks,xn,xs,rn,rs⟩:=v;have h:k=2:=h;subst h;rw [qA,qA];simp [bB,-J,-y4,-y3,y0,Vl.bare,Vl.kind,Vl.b,Vl.i,Vl.s,Vl.id,Vl.kn,Vl.keys,Vl.xn,Vl.items,Vl.rn,Vl.rest]
theorem bare_ev3 (h:v.kind=3):gA 220 [.agg (fA v)] (.agg (fA v.bare)):=by
 refine rA (c:=bB) rfl rfl ?_;obtain ⟨k,b,i,s,d,kn,ks,xn,xs,rn,rs⟩:=v;have h:k=3:=h;subst h;rw [qA,qA];simp [bB,-J,-y4,-y3,y0,Vl.bare,Vl.kind,Vl.b,Vl.i,Vl.s,Vl.id,Vl.kn,Vl.keys,Vl.xn,Vl.items,Vl.rn,Vl.rest]
theorem bare_ev4 (h:v.kind=4):gA 220 [.agg (fA v)] (.agg (fA v.bare)):=by
 refine rA (c:=bB) rfl rfl ?_;obtain ⟨k,b,i,s,d,kn,ks,xn,xs,rn,rs⟩:=v;have h:k=4:=h;subst h;rw [qA,qA];simp [bB,-J,-y4,-y3,y0,Vl.bare,Vl.kind,Vl.b,Vl.i,Vl.s,Vl.id,Vl.kn,Vl.keys,Vl.xn,Vl.items,Vl.rn,Vl.rest]
theorem bare_ev5 (h:v.kind=5):gA 220 [.agg (fA v)] (.agg (fA v.bare)):=by
 refine rA (c:=bB) rfl rfl ?_;obtain ⟨k,b,i,s,d,kn,ks,xn,xs,rn,rs⟩:=v;have h:k=5:=h;subst h;rw [qA,qA];simp [bB,-J,-y4,-y3,y0,Vl.bare,Vl.kind,Vl.b,Vl.i,Vl.s,Vl.id,Vl.kn,Vl.keys,Vl.xn,Vl.items,Vl.rn,Vl.rest]
theorem bare_ev6 (h:v.kind=6):gA 220 [.agg (fA v)] (.agg (fA v.bare)):=by
 refine rA (c:=bB) rfl rfl ?_;obtain ⟨k,b,i,s,d,kn,ks,xn,xs,rn,rs⟩:=v;have h:k=6:=h;subst h;rw [qA,qA];simp [bB,-J,-y4,-y3,y0,Vl.bare,Vl.kind,Vl.b,Vl.i,Vl.s,Vl.id,Vl.kn,Vl.keys,Vl.xn,Vl.items,Vl.rn,Vl.rest]
theorem bare_ev7 (h:v.kind=7):gA 220 [.agg (fA v)] (.agg (fA v.bare)):=by
 refine rA (c:=bB) rfl rfl ?_;obtain ⟨k,b,i,s,d,kn,ks,xn,xs,rn,rs⟩:=v;have h:k=7:=h;subst h;rw [qA,qA];simp [bB,-J,-y4,-y3,y0,Vl.bare,Vl.kind,Vl.b,Vl.i,Vl.s,Vl.id,Vl.kn,Vl.keys,Vl.xn,Vl.items,Vl.rn,Vl.rest]
theorem bare_ev8 (h:v.kind=8):gA 220 [.agg (fA v)] (.agg (fA v.bare)):=by
 refine rA (c:=bB) rfl rfl ?_;obtain ⟨k,b,i,s,d,kn,ks,xn,xs,rn,rs⟩:=v;have h:k=8:=h;subst h;rw [qA,qA];simp [bB,-J,-y4,-y3,y0,Vl.bare,Vl.kind,Vl.b,Vl.i,Vl.s,Vl.id,Vl.kn,Vl.keys,Vl.xn,Vl.items,Vl.rn,Vl.rest]
theorem bare_ev9 (h:v.kind=9):gA 220 [.agg (fA v)] (.agg (fA v.bare)):=by
 refine rA (c:=bB) rfl rfl ?_;obtain ⟨k,b,i,s,d,kn,ks,xn,xs,rn,rs⟩:=v;have h:k=9:=h;subst h;rw [qA,qA];simp [bB,-J,-y4,-y3,y0,Vl.bare,Vl.kind,Vl.b,Vl.i,Vl.s,Vl.id,Vl.kn,Vl.keys,Vl.xn,Vl.items,Vl.rn,Vl.rest]
theorem bare_ev (h:1<=v.kind/\v.kind<=9):gA 220 [.agg (fA v)] (.agg (fA v.bare)):=by
 rcases kinds v.kind with e | e | e | e | e | e | e | e | e | e
 ·exact bare_ev1 v e
 ·exact bare_ev2 v e
 ·exact bare_ev3 v e
 ·exact bare_ev4 v e
 ·exact bare_ev5 v e
 ·exact bare_ev6 v e
 ·exact bare_ev7 v e
 ·exact bare_ev8 v e
 ·exact bare_ev9 v e
 ·exact absurd h e
end
theorem proper_ev1 (v w:Vl) (hb:gA 220 [.agg (fA v)] (.agg (fA w))):gA 207 [.agg (fA v)] (.bool ((v.b == w.b)&&(decide (v.i=w.i)&&(decide (v.s=w.s)&&(decide (v.id=w.id)&&(decide (v.keys.length=w.keys.length)&&(decide (v.items.length=w.items.length)&&decide (v.rest.length=w.rest.length)))))))):=by
 refine rA (c:=UC) rfl rfl ?_;rw [qA,qA] at hb;rw [qA];simp only [gA] at hb;by_cases h1:v.b=w.b
 ·by_cases h2:v.i=w.i
  ·by_cases h3:v.s=w.s
   ·by_cases h4:v.id=w.id
    ·by_cases h5:v.keys.length=w.keys.length
     ·by_cases h6:v.items.length=w.items.length
      ·by_cases h7:v.rest.length=w.rest.length
       ·simp [UC,-J,-y4,-y3,y0,hb,h1.symm,h2.symm,h3.symm,h4.symm,h5,h6,h7]
       ·have h7':¬ (v.rest.length:Int)=w.rest.length:=by omega
        simp [UC,-J,-y4,-y3,y0,hb,h1.symm,h2.symm,h3.symm,h4.symm,h5,h6,h7,h7']
      ·have h6':¬ (v.items.length:Int)=w.items.length:=by omega
       simp [UC,-J,-y4,-y3,y0,hb,h1.symm,h2.symm,h3.symm,h4.symm,h5,h6,h6']
     ·have h5':¬ (v.keys.length:Int)=w.keys.length:=by omega
      simp [UC,-J,-y4,-y3,y0,hb,h1.symm,h2.symm,h3.symm,h4.symm,h5,h5']
    ·simp [UC,-J,-y4,-y3,y0,hb,h1.symm,h2.symm,h3.symm,h4]
   ·simp [UC,-J,-y4,-y3,y0,hb,h1.symm,h2.symm,h3]
  ·simp [UC,-J,-y4,-y3,y0,hb,h1.symm,h2]
 ·simp [UC,-J,-y4,-y3,y0,hb,h1]
theorem zero_bare {α β:Type} (k:Int) (h:1<=k/\k<=9) (b:Bool) (i:Int) (s:ByteArray) (d:Int) (ks xs:List α) (rs:List β) :
  ((decide (k=1)||!b)&&((decide (k=2)||decide (i=0))&&((decide (k=3)||decide (s=⟨#[]⟩))&&((decide (k=4)||decide (k=6)||decide (d=0))&&((decide (k=8)||ks.isEmpty)&&((decide (5<=k)||xs.isEmpty)&&(decide (k=5)||decide (k=6)||rs.isEmpty))))))) =
  ((b == (if k=1 then b else false))&&(decide (i=(if k=2 then i else 0))&&(decide (s=(if k=3 then s else ⟨#[]⟩))&&(decide (d=(if k=4\/k=6 then d else 0))&&(decide (ks.length=(if k=8 then ks else []).length)&&(decide (xs.length=(if 5<=k then xs else []).length)&&decide (rs.length=(if k=5\/k=6 then rs else []).length))))))):=by
 rcases kinds k with e | e | e | e | e | e | e | e | e | e
 all_goals first | exact absurd h e | skip
 all_goals cases b <;> cases ks <;> cases xs <;> cases rs <;> simp [e]
theorem proper_ev (v:Vl) (h:1<=v.kind/\v.kind<=9):gA 207 [.agg (fA v)] (.bool (sC v)):=by
 have r:=proper_ev1 v v.bare (bare_ev v h);have e:=zero_bare v.kind h v.b v.i v.s v.id v.keys v.items v.rest;unfold sC;rw [e];exact r
theorem rzero_ev1 (v:Vl) (h:v.kind=1):gA 175 [.agg (fA v)] (.bool (sC v)):=by
 refine rA (c:=uA) rfl rfl ?_;rw [qA];unfold sC;by_cases hi:v.i=0
 ·by_cases hs:v.s=⟨#[]⟩
  ·by_cases hd:v.id=0
   ·by_cases hk:v.keys=[]
    ·by_cases hx:v.items=[]
     ·by_cases hr:v.rest=[]
      ·simp [uA,-J,-y4,-y3,y0,h,hi,hs,hd,hk,hx,hr]
      ·simp [uA,-J,-y4,-y3,y0,h,hi,hs,hd,hk,hx,hr]
     ·simp [uA,-J,-y4,-y3,y0,h,hi,hs,hd,hk,hx]
    ·simp [uA,-J,-y4,-y3,y0,h,hi,hs,hd,hk]
   ·simp [uA,-J,-y4,-y3,y0,h,hi,hs,hd]
  ·simp [uA,-J,-y4,-y3,y0,h,hi,hs]
 ·simp [uA,-J,-y4,-y3,y0,h,hi]
theorem rzero_ev2 (v:Vl) (h:v.kind=2):gA 175 [.agg (fA v)] (.bool (sC v)):=by
 refine rA (c:=uA) rfl rfl ?_;rw [qA];unfold sC;by_cases hb:v.b=false
 ·by_cases hs:v.s=⟨#[]⟩
  ·by_cases hd:v.id=0
   ·by_cases hk:v.keys=[]
    ·by_cases hx:v.items=[]
     ·by_cases hr:v.rest=[]
      ·simp [uA,-J,-y4,-y3,y0,h,hb,hs,hd,hk,hx,hr]
      ·simp [uA,-J,-y4,-y3,y0,h,hb,hs,hd,hk,hx,hr]
     ·simp [uA,-J,-y4,-y3,y0,h,hb,hs,hd,hk,hx]
    ·simp [uA,-J,-y4,-y3,y0,h,hb,hs,hd,hk]
   ·simp [uA,-J,-y4,-y3,y0,h,hb,hs,hd]
  ·simp [uA,-J,-y4,-y3,y0,h,hb,hs]
 ·simp [uA,-J,-y4,-y3,y0,h,hb]
theorem rzero_ev3 (v:Vl) (h:v.kind=3):gA 175 [.agg (fA v)] (.bool (sC v)):=by
 refine rA (c:=uA) rfl rfl ?_;rw [qA];unfold sC;by_cases hb:v.b=false
 ·by_cases hi:v.i=0
  ·by_cases hd:v.id=0
   ·by_cases hk:v.keys=[]
    ·by_cases hx:v.items=[]
     ·by_cases hr:v.rest=[]
      ·simp [uA,-J,-y4,-y3,y0,h,hb,hi,hd,hk,hx,hr]
      ·simp [uA,-J,-y4,-y3,y0,h,hb,hi,hd,hk,hx,hr]
     ·simp [uA,-J,-y4,-y3,y0,h,hb,hi,hd,hk,hx]
    ·simp [uA,-J,-y4,-y3,y0,h,hb,hi,hd,hk]
   ·simp [uA,-J,-y4,-y3,y0,h,hb,hi,hd]
  ·simp [uA,-J,-y4,-y3,y0,h,hb,hi]
 ·simp [uA,-J,-y4,-y3,y0,h,hb]
theorem rzero_ev4 (v:Vl) (h:v.kind=4):gA 175 [.agg (fA v)] (.bool (sC v)):=by
 refine rA (c:=uA) rfl rfl ?_;rw [qA];unfold sC;by_cases hb:v.b=false
 ·by_cases hi:v.i=0
  ·by_cases hs:v.s=⟨#[]⟩
   ·by_cases hk:v.keys=[]
    ·by_cases hx:v.items=[]
     ·by_cases hr:v.rest=[]
      ·simp [uA,-J,-y4,-y3,y0,h,hb,hi,hs,hk,hx,hr]
      ·simp [uA,-J,-y4,-y3,y0,h,hb,hi,hs,hk,hx,hr]
     ·simp [uA,-J,-y4,-y3,y0,h,hb,hi,hs,hk,hx]
    ·simp [uA,-J,-y4,-y3,y0,h,hb,hi,hs,hk]
   ·simp [uA,-J,-y4,-y3,y0,h,hb,hi,hs]
  ·simp [uA,-J,-y4,-y3,y0,h,hb,hi]
 ·simp [uA,-J,-y4,-y3,y0,h,hb]
theorem rzero_ev5 (v:Vl) (h:v.kind=5):gA 175 [.agg (fA v)] (.bool (sC v)):=by
 refine rA (c:=uA) rfl rfl ?_;rw [qA];unfold sC;by_cases hb:v.b=false
 ·by_cases hi:v.i=0
  ·by_cases hs:v.s=⟨#[]⟩
   ·by_cases hd:v.id=0
    ·by_cases hk:v.keys=[]
     ·simp [uA,-J,-y4,-y3,y0,h,hb,hi,hs,hd,hk]
     ·simp [uA,-J,-y4,-y3,y0,h,hb,hi,hs,hd,hk]
    ·simp [uA,-J,-y4,-y3,y0,h,hb,hi,hs,hd]
   ·simp [uA,-J,-y4,-y3,y0,h,hb,hi,hs]
  ·simp [uA,-J,-y4,-y3,y0,h,hb,hi]
 ·simp [uA,-J,-y4,-y3,y0,h,hb]
theorem rzero_ev6 (v:Vl) (h:v.kind=6):gA 175 [.agg (fA v)] (.bool (sC v)):=by
 refine rA (c:=uA) rfl rfl ?_;rw [qA];unfold sC;by_cases hb:v.b=false
 ·by_cases hi:v.i=0
  ·by_cases hs:v.s=⟨#[]⟩
   ·by_cases hk:v.keys=[]
    ·simp [uA,-J,-y4,-y3,y0,h,hb,hi,hs,hk]
    ·simp [uA,-J,-y4,-y3,y0,h,hb,hi,hs,hk]
   ·simp [uA,-J,-y4,-y3,y0,h,hb,hi,hs]
  ·simp [uA,-J,-y4,-y3,y0,h,hb,hi]
 ·simp [uA,-J,-y4,-y3,y0,h,hb]
theorem rzero_ev7 (v:Vl) (h:v.kind=7):gA 175 [.agg (fA v)] (.bool (sC v)):=by
 refine rA (c:=uA) rfl rfl ?_;rw [qA];unfold sC;by_cases hb:v.b=false
 ·by_cases hi:v.i=0
  ·by_cases hs:v.s=⟨#[]⟩
   ·by_cases hd:v.id=0
    ·by_cases hk:v.keys=[]
     ·by_cases hr:v.rest=[]
      ·simp [uA,-J,-y4,-y3,y0,h,hb,hi,hs,hd,hk,hr]
      ·simp [uA,-J,-y4,-y3,y0,h,hb,hi,hs,hd,hk,hr]
     ·simp [uA,-J,-y4,-y3,y0,h,hb,hi,hs,hd,hk]
    ·simp [uA,-J,-y4,-y3,y0,h,hb,hi,hs,hd]
   ·simp [uA,-J,-y4,-y3,y0,h,hb,hi,hs]
  ·simp [uA,-J,-y4,-y3,y0,h,hb,hi]
 ·simp [uA,-J,-y4,-y3,y0,h,hb]
theorem rzero_ev8 (v:Vl) (h:v.kind=8):gA 175 [.agg (fA v)] (.bool (sC v)):=by
 refine rA (c:=uA) rfl rfl ?_;rw [qA];unfold sC;by_cases hb:v.b=false
 ·by_cases hi:v.i=0
  ·by_cases hs:v.s=⟨#[]⟩
   ·by_cases hd:v.id=0
    ·by_cases hr:v.rest=[]
     ·simp [uA,-J,-y4,-y3,y0,h,hb,hi,hs,hd,hr]
     ·simp [uA,-J,-y4,-y3,y0,h,hb,hi,hs,hd,hr]
    ·simp [uA,-J,-y4,-y3,y0,h,hb,hi,hs,hd]
   ·simp [uA,-J,-y4,-y3,y0,h,hb,hi,hs]
  ·simp [uA,-J,-y4,-y3,y0,h,hb,hi]
 ·simp [uA,-J,-y4,-y3,y0,h,hb]
theorem rzero_ev9 (v:Vl) (h:v.kind=9):gA 175 [.agg (fA v)] (.bool (sC v)):=by
 refine rA (c:=uA) rfl rfl ?_;rw [qA];unfold sC;by_cases hb:v.b=false
 ·by_cases hi:v.i=0
  ·by_cases hs:v.s=⟨#[]⟩
   ·by_cases hd:v.id=0
    ·by_cases hk:v.keys=[]
     ·by_cases hr:v.rest=[]
      ·simp [uA,-J,-y4,-y3,y0,h,hb,hi,hs,hd,hk,hr]
      ·simp [uA,-J,-y4,-y3,y0,h,hb,hi,hs,hd,hk,hr]
     ·simp [uA,-J,-y4,-y3,y0,h,hb,hi,hs,hd,hk]
    ·simp [uA,-J,-y4,-y3,y0,h,hb,hi,hs,hd]
   ·simp [uA,-J,-y4,-y3,y0,h,hb,hi,hs]
  ·simp [uA,-J,-y4,-y3,y0,h,hb,hi]
 ·simp [uA,-J,-y4,-y3,y0,h,hb]
end Go.Proofs.YtbhbeakhognieaaGreat
