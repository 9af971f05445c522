/- A part of the proof. -/
import Derived.Test.YtbhbeakhognieaaGreatWs
import Derived.Test.YtbhbeakhognieaaGreatWu
set_option linter.all false
set_option maxRecDepth 100000
set_option maxHeartbeats 8000000
open Option renaming bind_some → J
open List renaming range_succ → y0, map_map → y3, getElem?_eq_getElem → y5, getElem_mem → y8, drop_eq_getElem_cons → yb, getElem?_map → yc, map_cons → yf, mem_cons → yg, mem_of_getElem? → yh, mem_cons_self → yl, map_nil → ym, mem_cons_of_mem → yo, getElem_of_mem → yq, mem_append → yx, take_of_length_le → yB, take_append_getElem → yJ, mem_singleton → yO, cons_append → yR, mem_map_of_mem → Y00
open Int renaming toNat_lt → y4
open Bool renaming and_eq_true → y7
open Nat renaming le_refl → yj
namespace Go.Proofs.YtbhbeakhognieaaGreat
open Go
abbrev En:=Int × ByteArray
def entC (e:En):List AV:=[.int .i64 e.1,.str e.2]
def EnRow (l:List En) (v:AV) (mem:Nat->Nat->Option (List wA)):Prop:=(∃ q N,v=.ref q N 2 0 l.length l.length/\q≠0/\mem q N=some (kA (l.map entC)))\/(l=[]/\v=.sl true [])
theorem LN {T:Nat->Option MA} {ext:JB} {b:C} {k:Ex->aA->Option RV} {j:Nat} {s:aA}:tL (WI T ext) b k (.exit j) s=k (.exit j) s:=(rfl)
section
def S9 (f:Int->Vl->ByteArray):List zB->List Vl->List En
 | m :: r,v :: q=>if wN m v then S9 f r q else (m.id,sJ m.id m.crit (f m.ty v)) :: S9 f r q
 | _,_=>[]
def c9:List En->ByteArray->ByteArray
 | [],b=>b
 | e :: r,b=>c9 r (b++e.2)
theorem p8 (f:Int->Vl->ByteArray):∀ (l:List zB) (q:List Vl) (b:ByteArray),GI f l q b=c9 (S9 f l q) b
 | [],q,b=>by cases q <;> rfl
 | m :: r,[],b=>rfl
 | m :: r,v :: q,b=>by
  rw [GI,S9,p8 f r q];split <;> rfl
theorem C0:∀ (l:List En) (b:ByteArray),b.size<=(c9 l b).size
 | [],b=>yj _
 | e :: r,b=>by
  have:=C0 r (b++e.2);rw [ByteArray.size_append] at this;rw [c9];omega
theorem E6:∀ (l:List En) (b:ByteArray) (e:En),e∈l->e.2.size<=(c9 l b).size
 | x :: r,b,e,h=>by
  rcases yg.1 h with rfl | h
  ·have:=C0 r (b++e.2);rw [ByteArray.size_append] at this;rw [c9];omega
  ·rw [c9];exact E6 r _ e h
theorem G6 (f:Int->Vl->ByteArray):∀ (l:List zB) (q:List Vl) (i:Nat) (m:zB) (v:Vl),l[i]?=some m->q[i]?=some v->wN m v=false->(m.id,sJ m.id m.crit (f m.ty v))∈S9 f l q
 | [],_,i,m,v,h,_,_=>by simp at h
 | _ :: _,[],i,m,v,_,h,_=>by simp at h
 | a :: r,c :: q,0,m,v,h1,h2,h3=>by
  simp at h1 h2;subst h1; subst h2;rw [S9,h3,if_neg (by decide)];simp
 | a :: r,c :: q,i + 1,m,v,h1,h2,h3=>by
  have:=G6 f r q i m v (by simpa using h1) (by simpa using h2) h3;rw [S9];split
  ·exact this
  ·exact yo _ this
def upM (l:List zB):Prop:=l.Pairwise fun a b=>a.id<b.id
def EnAt (l:List En) (s:aA):Prop:=(∃ N,(s.env 9).v=.ref 54 N 2 0 l.length l.length/\s.mem 54 N=some (kA (l.map entC)))\/(l=[]/\(s.env 9).v=.sl true [])
theorem EnAt.row {l:List En} {s:aA} (h:EnAt l s):EnRow l (s.env 9).v s.mem:=by
 rcases h with ⟨N,h1,h2⟩ | ⟨h1,h2⟩
 ·exact .inl ⟨54,N,h1,by decide,h2⟩
 ·exact .inr ⟨h1,h2⟩
section
variable (sn:Bool) (S:List pA) (x:pA) (v:Vl) (fp:Int->Vl->ByteArray) (fd:Int->Vl->Nat)
end
end
section
theorem qX:∀ (l:List (Int × ByteArray)) (b:Int) (seen:List ByteArray),IC b seen l=true->(∀ x∈l,b<x.1/\1<=x.1/\x.1<=1000)/\l.Pairwise fun x y=>x.1<y.1
 | [],_,_,_=>by simp
 | (n,s) :: r,b,seen,h=>by
  simp only [IC,y7] at h;obtain ⟨⟨⟨h1,_⟩,_⟩,h2⟩:=h;have hb:b<n/\1<=n/\n<=1000:=by unfold fR at h1; simp at h1; omega
  obtain ⟨g1,g2⟩:=qX r n _ h2;refine ⟨fun x hx=>?_,List.pairwise_cons.2 ⟨fun y hy=>(g1 y hy).1,g2⟩⟩;rcases yg.1 hx with rfl | hx
  ·exact hb
  ·have:=g1 x hx; omega
theorem RW {x:pA} (h:dB x=true):upM x.mems/\∀ m∈x.mems,1<=m.id/\m.id<=1000:=by
 unfold dB at h;rw [y7,y7] at h;obtain ⟨_,h1,h2⟩:=h;have main:∀ rc,IG rc x.mems=true->upM x.mems/\∀ m∈x.mems,1<=m.id/\m.id<=1000:=fun rc h=>by
  unfold IG at h;simp only [y7] at h;obtain ⟨h3,h4⟩:=qX _ _ _ h.2.2.1;rw [List.pairwise_map] at h4;exact ⟨h4,fun m hm=>(h3 _ (Y00 hm)).2⟩
 by_cases k5:x.kind=5
 ·simp [LG,k5] at h1; exact main true h1.2
 by_cases k6:x.kind=6
 ·simp [LG,k6] at h1; exact main false h1.2
 have e:x.left.mems=x.mems:=by
  unfold pA.left;simp only [if_neg k5,if_neg k6]
  repeat' split
  all_goals rfl
 have hm:jB x.left.mems []=true:=by simp only [pA.same,y7] at h2; exact h2.2
 rw [e] at hm;cases hx:x.mems with
 | nil=>exact ⟨List.Pairwise.nil,by simp⟩
 | cons a r=>rw [hx] at hm; simp [jB] at hm
theorem up_syms {x:pA} (h:dB x=true):∀ m∈x.syms,1<=m.id/\m.id<=1000:=by
 unfold dB at h;rw [y7,y7] at h;obtain ⟨_,h1,h2⟩:=h;by_cases k4:x.kind=4
 ·simp [LG,k4] at h1;have h1:=h1.2;unfold gM at h1;simp only [y7] at h1;obtain ⟨h3,_⟩:=qX _ _ _ h1.2.1;exact fun m hm=>(h3 _ (Y00 hm)).2
 have e:x.left.syms=x.syms:=by
  unfold pA.left;simp only [if_neg k4]
  repeat' split
  all_goals rfl
 have hm:decide (x.left.syms=[])=true:=by
  simp only [pA.same,y7] at h2;exact h2.1.2
 rw [e] at hm;rw [of_decide_eq_true hm];simp
theorem rZ:∀ {l:List zB},upM l->∀ {i j:Nat} {a b:zB},l[i]?=some a->l[j]?=some b->i<j->a.id<b.id
 | [],_,i,j,a,b,h,_,_=>by simp at h
 | m :: r,h,i,j,a,b,h1,h2,hij=>by
  obtain ⟨g1,g2⟩:=List.pairwise_cons.1 h
  match i,j with
  | 0,j + 1 =>
   simp at h1 h2;subst h1;exact g1 b (yh h2)
  | i + 1,j + 1=>exact rZ g2 (i:=i) (j:=j) (by simpa using h1) (by simpa using h2) (by omega)
theorem PX {l:List zB} (h:upM l) {c:Nat} {m:zB} (hc:l[c]?=some m):QA l m.id=c:=by
 have h0:0<=QA l m.id:=by
  have h1:=GH (fun x:zB=>decide (x.id=m.id)) l;rw [List.any_eq_true.2 ⟨m,yh hc,by simp⟩] at h1;exact of_decide_eq_true h1
 obtain ⟨g,hg,he⟩:=EI (fun x:zB=>decide (x.id=m.id)) l (by unfold QA at h0; omega);have he:g.id=m.id:=by simpa using he
 change l[(QA l m.id).toNat]?=some g at hg;rcases Nat.lt_trichotomy (QA l m.id).toNat c with h1 | h1 | h1
 ·have:=rZ h hg hc h1; omega
 ·omega
 ·have:=rZ h hc hg h1; omega
theorem memIx_no {l:List zB} {id:Int} (h:∀ m∈l,m.id≠id):QA l id=-1:=by
 have h1:=GH (fun x:zB=>decide (x.id=id)) l;have h2:(l.any fun x=>decide (x.id=id))=false:=by
  rw [List.any_eq_false];intro m hm;simpa using h m hm
 rw [h2] at h1;have h3:=qF (fun x:zB=>decide (x.id=id)) l;have h4:¬ 0<=FB (fun x:zB=>decide (x.id=id)) l:=of_decide_eq_false h1;unfold QA;omega
def ZG (sn:Bool) (S:List pA) (t:Int) (v:Vl) (p:ByteArray):Prop:=gA 132 [QD sn S,.int .i64 t,.agg (fA v)] (.str p)
theorem K2 (f:Int->Vl->ByteArray):∀ (l:List zB) (q:List Vl) (m:zB) (v:Vl) (b:ByteArray),l.length=q.length->GI f (l++[m]) (q++[v]) b=if wN m v then GI f l q b else GI f l q b++sJ m.id m.crit (f m.ty v)
 | [],[],m,v,b,_=>by simp only [List.nil_append,GI]
 | a :: r,c :: q,m,v,b,h=>by
  rw [yR,yR,GI,GI,K2 f r q m v _ (by simpa using h)]
theorem mY (f:Int->Vl->ByteArray):∀ (l:List zB) (q:List Vl) (b:ByteArray) (i:Nat),(GI f (l.take i) (q.take i) b).size<=(GI f l q b).size
 | [],q,b,i=>by cases q <;> simp [GI]
 | a :: r,[],b,i=>by cases i <;> simp [GI]
 | a :: r,c :: q,b,0=>by simp only [List.take_zero]; exact J2 f (a :: r) (c :: q) b
 | a :: r,c :: q,b,i + 1=>by
  rw [List.take_succ_cons,List.take_succ_cons,GI,GI];exact mY f r q _ i
section
variable (sn:Bool) (S:List pA) (t:Int) (x:pA) (v:Vl) (fp:Int->Vl->ByteArray) (h0:0<=t) (g:S[t.toNat]?=some x)
include h0 g
theorem rpay1 (hk:x.kind=1):ZG sn S t v (ZH fp x v):=by
 have g1:(S.map eA)[t.toNat]?=some (eA x):=by rw [yc,g]; rfl
 simp only [eA,hk] at g1;refine rA (c:=SA) rfl rfl ?_;rw [qA];unfold ZH;cases hb:v.b with
 | true=>simp [SA,-J,-y4,-y3,y0,g1,h0,hk,hb,eB]
 | false=>simp [SA,-J,-y4,-y3,y0,g1,h0,hk,hb,eB]
theorem rpay2 (hk:x.kind=2) (hi:zH v.i):ZG sn S t v (ZH fp x v):=by
 have g1:(S.map eA)[t.toNat]?=some (eA x):=by rw [yc,g]; rfl
 have hz:=d5 v.i hi;have hb:=rbig_ev (dZ v.i) (by unfold dZ; obtain ⟨i1,i2⟩:=hi; split <;> omega);simp only [gA,eA,hk] at g1 hz hb;refine rA (c:=SA) rfl rfl ?_;rw [qA];unfold ZH;simp [SA,-J,-y4,-y3,y0,g1,h0,hk,hz,hb]
theorem rpay3 (hk:x.kind=3):ZG sn S t v (ZH fp x v):=by
 have g1:(S.map eA)[t.toNat]?=some (eA x):=by rw [yc,g]; rfl
 simp only [eA,hk] at g1;refine rA (c:=SA) rfl rfl ?_;rw [qA];unfold ZH;simp [SA,-J,-y4,-y3,y0,g1,h0,hk]
theorem rpay4 (hk:x.kind=4) (KR:1<=v.id/\v.id<=1000):ZG sn S t v (ZH fp x v):=by
 have g1:(S.map eA)[t.toNat]?=some (eA x):=by rw [yc,g]; rfl
 have hb:=rbig_ev v.id (by omega);have h2:IntKind.u64.wrap v.id=v.id:=GF _ (by omega);simp only [gA,eA,hk] at g1 hb;refine rA (c:=SA) rfl rfl ?_;rw [qA];unfold ZH;simp [SA,-J,-y4,-y3,y0,g1,h0,hk,hb,h2]
theorem rpay6 (hk:x.kind=6) {m:zB} {u:Vl} (rj:x.mems.length<=9223372036854775807) (hr:v.rest=[]) (hu:v.items=[u]) (c1:0<=QA x.mems v.id) (pj:x.mems[(QA x.mems v.id).toNat]?=some m) (KR:1<=v.id/\v.id<=1000)
  (hf:ZG sn S m.ty u (fp m.ty u)) (tb:(ZH fp x v).size<=140737488355328):ZG sn S t v (ZH fp x v):=by
 have g1:(S.map eA)[t.toNat]?=some (eA x):=by rw [yc,g]; rfl
 have hp:ZH fp x v=kW v.id++fp m.ty u:=by simp [ZH,hk,pj,hu,armB]
 rw [hp,ByteArray.size_append] at tb;rw [hp];have hm:=kO x v.id rj;have h1:=i5 v.id (by omega);have h2:IntKind.u64.wrap v.id=v.id:=GF _ (by omega);have h4:(kW v.id).size + (fp m.ty u).size<=9223372036854775807:=by omega
 simp only [gA,eA,BO,hk] at hm;generalize QA x.mems v.id=ix at *
 simp only [c1,decide_true] at hm;have jf:max ix 0=ix:=Int.max_eq_left c1;rw [jf] at hm;have g2:(x.mems.map nA)[ix.toNat]?=some (nA m):=by rw [yc,pj]; rfl
 simp only [ZG,gA,eA,nA,qA,hk] at g1 g2 h1 hf;refine rA (c:=SA) rfl rfl ?_;rw [qA,hu,hr];simp only [yf,ym,qA];simp [SA,-J,-y4,-y3,y0,g1,h0,hk,hm,g2,c1,h1,h2,hf,h4]
theorem rpay9 (hk:x.kind=9) (hf:∀ u∈v.items,ZG sn S x.elem u (fp x.elem u)) (tb:(ZH fp x v).size<=140737488355328):ZG sn S t v (ZH fp x v):=by
 have g1:(S.map eA)[t.toNat]?=some (eA x):=by rw [yc,g]; rfl
 have hp:ZH fp x v=optB (fp x.elem) v.items:=by simp [ZH,hk]
 rw [hp] at tb ⊢;simp only [eA,hk] at g1;refine rA (c:=SA) rfl rfl ?_;rw [qA]
 match hi:v.items with
 | []=>simp [SA,-J,-y4,-y3,y0,g1,h0,hk,optB,eB]
 | u :: q =>
  rw [hi] at tb;simp only [optB,ByteArray.size_append] at tb ⊢;have h3:=hf u (by rw [hi]; simp);have h4:(ByteArray.mk #[1]).size + (fp x.elem u).size<=9223372036854775807:=by omega
  have h5:¬ ((q.length:Int) + 1=0):=by omega
  simp only [ZG,gA,qA] at h3;simp only [yf,qA];simp [SA,-J,-y4,-y3,y0,g1,h0,hk,h3,h4,h5]
theorem rpay7 (hk:x.kind=7) (wd:v.items.length<=9223372036854775807) (hf:∀ u∈v.items,ZG sn S x.elem u (fp x.elem u)) (tb:(ZH fp x v).size<=140737488355328):ZG sn S t v (ZH fp x v):=by
 have g1:(S.map eA)[t.toNat]?=some (eA x):=by rw [yc,g]; rfl
 have hp:ZH fp x v=eH (fp x.elem) v.items eB:=by simp [ZH,hk]
 rw [hp] at tb ⊢;simp only [eA,hk] at g1;refine rA (c:=SA) rfl rfl ?_;rw [qA];simp [SA,-J,-y4,-y3,y0,g1,h0,hk];refine RA v.items.length (fun i s=>(s.env 3).v=.ptr 3 1 0/\s.mem 3 1=some [⟨.sl sn (S.map eA),.no⟩]/\(s.env 5).v=.ptr 5 1 0/\s.mem 5 1=some (OA v)/\(s.env 7).v=.ptr 7 2 0/\s.mem 7 2=some (sA x)/\(s.env 10).v=.str (eH (fp x.elem) (v.items.take i) eB)/\(s.env 11).v=.int .i64 i)
  (fun e s=>e=.exit 1/\(s.env 10).v=.str (eH (fp x.elem) v.items eB)) (fun i hi s kk h ih jb=>?_) _ _ ?_ (fun e s h=>?_)
 ·obtain ⟨e3,m3,e5,m5,e7,m7,e10,e11⟩:=h;refine iA ?_;by_cases fa:i<v.items.length
  ·have ga:(i:Int)<v.items.length:=by omega
   have p1:v.items[i]?=some v.items[i]:=y5 fa;have t1:v.items.take (i + 1)=v.items.take i++[v.items[i]]:=(yJ fa).symm;have hw:=WB (i:=i);have tq:=hf _ (y8 fa);generalize v.items[i]=u at *
   have g2:(v.items.map fA)[i]?=some (fA u):=by rw [yc,p1]; rfl
   have uw:∀ (l m:List Vl) (b:ByteArray),eH (fp x.elem) (l++m) b=eH (fp x.elem) m (eH (fp x.elem) l b):=fun l=>by
    induction l with
    | nil=>intro m b; rfl
    | cons a r ih=>intro m b; rw [yR,eH,eH,ih]
   have hB:eH (fp x.elem) (v.items.take (i + 1)) eB=eH (fp x.elem) (v.items.take i) eB++eF (fp x.elem u):=by rw [t1,uw]; rfl
   have ng:(eH (fp x.elem) (v.items.take (i + 1)) eB).size<=(eH (fp x.elem) v.items eB).size:=by
    have h1:=uw (v.items.take (i + 1)) (v.items.drop (i + 1)) eB;rw [List.take_append_drop] at h1;rw [h1];exact zR _ _ _
   rw [hB,ByteArray.size_append] at ng;have iw:=XE (fp x.elem u);have hse:=cT (fp x.elem u) (by omega);have h4:(eH (fp x.elem) (v.items.take i) eB).size + (eF (fp x.elem u)).size<=9223372036854775807:=by omega
   simp only [ZG,gA,qA] at g2 tq hse;simp [xI,-J,-y4,-y3,y0,e3,m3,e5,m5,e7,m7,e10,e11,ga,g2,tq,hse,h4,hw];refine ih fa _ ⟨?_,?_,?_,?_,?_,?_,?_,?_⟩
   ·simp [e3]
   ·simp [m3]
   ·simp [e5]
   ·simp [m5]
   ·simp [e7]
   ·simp [m7]
   ·rw [hB]; simp
   ·simp
  ·have ga:¬ (i:Int)<v.items.length:=by omega
   rw [yB (by omega)] at e10;simp [xI,-J,-y4,-y3,y0,e5,m5,e11,ga];exact jb _ _ ⟨rfl,by simp [e10]⟩
 ·simp [hk,eH,eB]
 ·obtain ⟨rfl,e10⟩:=h;simp [-J,-y4,-y3,y0,e10]
theorem rpay8 (hk:x.kind=8) (wd:v.items.length<=9223372036854775807) (lg:v.items.length=v.keys.length) (hfk:∀ u∈v.keys,ZG sn S x.key u (fp x.key u)) (hf:∀ u∈v.items,ZG sn S x.elem u (fp x.elem u)) (tb:(ZH fp x v).size<=140737488355328):ZG sn S t v (ZH fp x v):=by
 have g1:(S.map eA)[t.toNat]?=some (eA x):=by rw [yc,g]; rfl
 have hp:ZH fp x v=fJ (fp x.key) (fp x.elem) v.keys v.items eB:=by simp [ZH,hk]
 rw [hp] at tb ⊢;simp only [eA,hk] at g1;refine rA (c:=SA) rfl rfl ?_;rw [qA];simp [SA,-J,-y4,-y3,y0,g1,h0,hk];refine RA v.items.length (fun i s=>(s.env 3).v=.ptr 3 1 0/\s.mem 3 1=some [⟨.sl sn (S.map eA),.no⟩]/\(s.env 5).v=.ptr 5 1 0/\s.mem 5 1=some (OA v)/\(s.env 7).v=.ptr 7 2 0/\s.mem 7 2=some (sA x)/\(s.env 12).v=.str (fJ (fp x.key) (fp x.elem) (v.keys.take i) (v.items.take i) eB)/\(s.env 13).v=.int .i64 i)
  (fun e s=>e=.exit 3/\(s.env 12).v=.str (fJ (fp x.key) (fp x.elem) v.keys v.items eB)) (fun i hi s kk h ih jb=>?_) _ _ ?_ (fun e s h=>?_)
 ·obtain ⟨e3,m3,e5,m5,e7,m7,e12,wb⟩:=h;refine iA ?_;by_cases fa:i<v.items.length
  ·have ga:(i:Int)<v.items.length:=by omega
   have hltk:i<v.keys.length:=by omega
   have p1:v.items[i]?=some v.items[i]:=y5 fa;have p2:v.keys[i]?=some v.keys[i]:=y5 hltk;have t1:v.items.take (i + 1)=v.items.take i++[v.items[i]]:=(yJ fa).symm;have t2:v.keys.take (i + 1)=v.keys.take i++[v.keys[i]]:=(yJ hltk).symm;have hw:=WB (i:=i);have tq:=hf _ (y8 fa);have hfky:=hfk _ (y8 hltk);generalize v.items[i]=u at *
   generalize v.keys[i]=ky at *
   have g2:(v.items.map fA)[i]?=some (fA u):=by rw [yc,p1]; rfl
   have g3:(v.keys.map fA)[i]?=some (fA ky):=by rw [yc,p2]; rfl
   have uw:∀ (l q:List Vl) (k v:Vl) (b:ByteArray),l.length=q.length->fJ (fp x.key) (fp x.elem) (l++[k]) (q++[v]) b=fJ (fp x.key) (fp x.elem) l q b++eF (fp x.key k)++eF (fp x.elem v):=fun l=>by
    induction l with
    | nil =>
     intro q k v b h;cases q with
     | nil=>rfl
     | cons=>simp at h
    | cons a r ih =>
     intro q k v b h;cases q with
     | nil=>simp at h
     | cons c q=>rw [yR,yR,fJ,fJ,ih q k v _ (by simpa using h)]
   have hpre:∀ (l q:List Vl) (b:ByteArray) (i:Nat),(fJ (fp x.key) (fp x.elem) (l.take i) (q.take i) b).size<=(fJ (fp x.key) (fp x.elem) l q b).size:=fun l=>by
    induction l with
    | nil=>intro q b i; cases q <;> simp [fJ]
    | cons a r ih =>
     intro q b i;cases q with
     | nil=>cases i <;> simp [fJ]
     | cons c q =>
      cases i with
      | zero=>simp only [List.take_zero]; exact iU _ _ (a :: r) (c :: q) b
      | succ i=>rw [List.take_succ_cons,List.take_succ_cons,fJ,fJ]; exact ih q _ i
   have hB:fJ (fp x.key) (fp x.elem) (v.keys.take (i + 1)) (v.items.take (i + 1)) eB=fJ (fp x.key) (fp x.elem) (v.keys.take i) (v.items.take i) eB++eF (fp x.key ky)++eF (fp x.elem u):=by rw [t1,t2,uw _ _ _ _ _ (by simp; omega)]
   have ng:=hpre v.keys v.items eB (i + 1);rw [hB,ByteArray.size_append,ByteArray.size_append] at ng;have iw:=XE (fp x.elem u);have hpk:=XE (fp x.key ky);have hse:=cT (fp x.elem u) (by omega);have hsk:=cT (fp x.key ky) (by omega);have h4:(fJ (fp x.key) (fp x.elem) (v.keys.take i) (v.items.take i) eB).size + (eF (fp x.key ky)).size<=9223372036854775807:=by omega
   have h5:(fJ (fp x.key) (fp x.elem) (v.keys.take i) (v.items.take i) eB++eF (fp x.key ky)).size + (eF (fp x.elem u)).size<=9223372036854775807:=by rw [ByteArray.size_append]; omega
   simp only [ZG,gA,qA] at g2 g3 tq hfky hse hsk;simp [zI,-J,-y4,-y3,y0,e3,m3,e5,m5,e7,m7,e12,wb,ga,g2,g3,tq,hfky,hse,hsk,h4,h5,hw,-ByteArray.size_append];refine ih fa _ ⟨?_,?_,?_,?_,?_,?_,?_,?_⟩
   ·simp [e3]
   ·simp [m3]
   ·simp [e5]
   ·simp [m5]
   ·simp [e7]
   ·simp [m7]
   ·rw [hB]; simp
   ·simp
  ·have ga:¬ (i:Int)<v.items.length:=by omega
   rw [yB (by omega),yB (by omega)] at e12;simp [zI,-J,-y4,-y3,y0,e5,m5,wb,ga];exact jb _ _ ⟨rfl,by simp [e12]⟩
 ·simp [hk,fJ,eB]
 ·obtain ⟨rfl,e12⟩:=h;simp [-J,-y4,-y3,y0,e12]
end
end
theorem rpay5 (sn:Bool) (S:List pA) (t:Int) (x:pA) (v:Vl) (fp:Int->Vl->ByteArray) (h0:0<=t) (g:S[t.toNat]?=some x) (hk:x.kind=5) (rj:x.mems.length<=8796093022206) (ia:v.items.length=x.mems.length) (hr:v.rest=[]) (hup:upM x.mems) (KR:∀ m∈x.mems,1<=m.id/\m.id<=1000) (hiok:∀ u∈v.items,u.ok)
  (hf:∀ (i:Nat) m u,x.mems[i]?=some m->v.items[i]?=some u->wN m u=false->ZG sn S m.ty u (fp m.ty u))
  (tb:(ZH fp x v).size<=140737488355328):ZG sn S t v (ZH fp x v):=by
 have g1:(S.map eA)[t.toNat]?=some (eA x):=by rw [yc,g]; rfl
 have hp:ZH fp x v=GI fp x.mems v.items eB:=by simp [ZH,hk]
 rw [hp] at tb ⊢;simp only [eA,hk] at g1;refine rA (c:=SA) rfl rfl ?_;rw [qA,hr];simp [SA,-J,-y4,-y3,y0,g1,h0,hk];refine RA 1000 (fun j s=>∃ c,c<=x.mems.length/\(∀ m∈x.mems.take c,m.id<=j)/\(∀ m∈x.mems.drop c,(j:Int)<m.id)/\(s.env 3).v=.ptr 3 1 0/\s.mem 3 1=some [⟨.sl sn (S.map eA),.no⟩]/\(s.env 5).v=.ptr 5 1 0/\s.mem 5 1=some [⟨.int .i64 v.kind,.no⟩,⟨.bool v.b,.no⟩,⟨.int .i64 v.i,.no⟩,⟨.str v.s,.no⟩,⟨.int .i64 v.id,.no⟩,⟨.sl v.kn (v.keys.map fA),.no⟩,⟨.sl v.xn (v.items.map fA),.no⟩,⟨.sl v.rn [],.no⟩]/\(s.env 7).v=.ptr 7 2 0/\s.mem 7 2=some (sA x)/\(s.env 14).v=.str (GI fp (x.mems.take c) (v.items.take c) eB)/\(s.env 15).v=.int .i64 ((j + 1:Nat):Int))
  (fun e s=>e=.exit 5/\(s.env 14).v=.str (GI fp x.mems v.items eB)) (fun j hj s kk h ih jb=>?_) _ _ ?_ (fun e s h=>?_)
 ·obtain ⟨c,hc,ax,gp,e3,m3,e5,m5,e7,m7,jc,df⟩:=h;refine iA ?_;obtain ⟨z,hz⟩:∃ z:Int,z=((j + 1:Nat):Int):=⟨_,rfl⟩;rw [<- hz] at df;simp only [sA,hk] at m7;by_cases fa:j<1000
  ·have ga:z<=1000:=by omega
   have zn:IntKind.i64.wrap (z + 1)=((j + 1 + 1:Nat):Int):=by rw [IntWalk.i64_in _ (by omega)]; omega
   have wk:=kO x z (by omega);have fin1:∀ s':aA,∀ c',c'<=x.mems.length->(∀ m∈x.mems.take c',m.id<=((j + 1:Nat):Int))->(∀ m∈x.mems.drop c',(((j + 1:Nat):Int))<m.id)->(s'.env 3).v=.ptr 3 1 0->s'.mem 3 1=some [⟨.sl sn (S.map eA),.no⟩]->(s'.env 5).v=.ptr 5 1 0->s'.mem 5 1=s.mem 5 1->(s'.env 7).v=.ptr 7 2 0->s'.mem 7 2=s.mem 7 2->(s'.env 14).v=.str (GI fp (x.mems.take c') (v.items.take c') eB)->(s'.env 15).v=.int .i64 ((j + 1 + 1:Nat):Int)->WI jA tA fD s' kk=some (.str (GI fp x.mems v.items eB),none):=fun s' c' q1 q2 q3 q4 q5 q6 q7 q8 q9 q10 q11=>ih fa s' ⟨c',q1,q2,q3,q4,q5,q6,by rw [q7,m5],q8,by rw [q9,m7]; simp [sA,hk],q10,q11⟩
   by_cases fc:c<x.mems.length/\∀ m,x.mems[c]?=some m->m.id=z
   ·obtain ⟨fc,dw⟩:=fc;have tt:c<v.items.length:=by omega
    have p1:x.mems[c]?=some x.mems[c]:=y5 fc;have p2:v.items[c]?=some v.items[c]:=y5 tt;have t1:x.mems.take (c + 1)=x.mems.take c++[x.mems[c]]:=(yJ fc).symm;have t2:v.items.take (c + 1)=v.items.take c++[v.items[c]]:=(yJ tt).symm;have d1:x.mems.drop c=x.mems[c] :: x.mems.drop (c + 1):=yb fc;have hmid:=dw _ p1;have cu:=PX hup p1;have huo:=hiok _ (y8 tt);have ry:=KR _ (y8 fc);have sr:∀ m∈x.mems.drop (c + 1),((j + 1:Nat):Int)<m.id:=fun m hm=>by
     obtain ⟨i,hi,rfl⟩:=yq hm;rw [List.length_drop] at hi;have p3:x.mems[c + 1 + i]?=some x.mems[c + 1 + i]:=y5 (by omega);have:=rZ hup p1 p3 (by omega);rw [List.getElem_drop];omega
    generalize x.mems[c]=m at *
    generalize v.items[c]=u at *
    have g2:(x.mems.map nA)[c]?=some (nA m):=by rw [yc,p1]; rfl
    have g3:(v.items.map fA)[c]?=some (fA u):=by rw [yc,p2]; rfl
    have hB:=K2 fp (x.mems.take c) (v.items.take c) m u eB (by simp; omega);rw [<- t1,<- t2] at hB;have hlo2:∀ m'∈x.mems.take (c + 1),m'.id<=((j + 1:Nat):Int):=fun m' tc=>by
     rw [t1] at tc;rcases yx.1 tc with tc | tc
     ·have:=ax m' tc; omega
     ·rw [yO.1 tc]; omega
    have hix':QA x.mems z=c:=by rw [<- hmid]; exact cu
    have ko:=bT (SizeOf.sizeOf u + 1) u m.dflt (by omega) huo;have hom:wN m u=(m.has&&u.same m.dflt):=by unfold wN; rw [same_sym]
    simp only [gA,eA,BO,hk,hix'] at wk;have jf:max (c:Int) 0=c:=by omega
    have hc0:(0:Int)<=c:=by omega
    rw [jf] at wk;simp only [hc0,decide_true] at wk;simp only [gA,nA,qA] at g2 g3 ko;cases hh:m.has with
    | true =>
     cases hsa:u.same m.dflt with
     | true =>
      rw [hsa] at ko;have ho:wN m u=true:=by rw [hom,hh,hsa]; rfl
      rw [ho,if_pos rfl] at hB;simp [fD,-J,-y4,-y3,y0,e3,m3,e5,m5,e7,m7,jc,df,ga,wk,g2,g3,hh,ko];refine iA ?_;simp [FE,-J,-y4,-y3,y0,e5,m5];simp [-J,-y4,-y3,y0,LN,df,zn];refine fin1 _ (c + 1) (by omega) hlo2 sr ?_ ?_ ?_ ?_ ?_ ?_ ?_ ?_
      ·simp [e3]
      ·simp [m3]
      ·simp [e5]
      ·simp
      ·simp [e7]
      ·simp
      ·rw [hB]; simp [jc]
      ·simp
     | false =>
      rw [hsa] at ko;have ho:wN m u=false:=by rw [hom,hh,hsa]; rfl
      rw [ho,if_neg (by decide)] at hB;have hpa:=hf c m u p1 p2 ho;have ng:=mY fp x.mems v.items eB (c + 1);rw [hB,ByteArray.size_append] at ng;have iw:=MM m.id m.crit (fp m.ty u);have hfi:=B2 m.id ry m.crit (fp m.ty u) (by omega);rw [hmid] at hfi ng hB;have h4:(GI fp (x.mems.take c) (v.items.take c) eB).size + (sJ z m.crit (fp m.ty u)).size<=9223372036854775807:=by omega
      simp only [ZG,gA,qA] at hpa hfi;simp [fD,-J,-y4,-y3,y0,e3,m3,e5,m5,e7,m7,jc,df,ga,wk,g2,g3,hh,ko,hpa,hfi,h4,-ByteArray.size_append];refine iA ?_;simp [FE,-J,-y4,-y3,y0,e5,m5];simp [-J,-y4,-y3,y0,LN,df,zn];refine fin1 _ (c + 1) (by omega) hlo2 sr ?_ ?_ ?_ ?_ ?_ ?_ ?_ ?_
      ·simp [e3]
      ·simp [m3]
      ·simp [e5]
      ·simp
      ·simp [e7]
      ·simp
      ·rw [hB]; simp
      ·simp
    | false =>
     have ho:wN m u=false:=by rw [hom,hh]; rfl
     rw [ho,if_neg (by decide)] at hB;have hpa:=hf c m u p1 p2 ho;have ng:=mY fp x.mems v.items eB (c + 1);rw [hB,ByteArray.size_append] at ng;have iw:=MM m.id m.crit (fp m.ty u);have hfi:=B2 m.id ry m.crit (fp m.ty u) (by omega);rw [hmid] at hfi ng hB;have h4:(GI fp (x.mems.take c) (v.items.take c) eB).size + (sJ z m.crit (fp m.ty u)).size<=9223372036854775807:=by omega
     simp only [ZG,gA,qA] at hpa hfi;simp [fD,-J,-y4,-y3,y0,e3,m3,e5,m5,e7,m7,jc,df,ga,wk,g2,g3,hh,hpa,hfi,h4,-ByteArray.size_append];refine iA ?_;simp [FE,-J,-y4,-y3,y0,e5,m5];simp [-J,-y4,-y3,y0,LN,df,zn];refine fin1 _ (c + 1) (by omega) hlo2 sr ?_ ?_ ?_ ?_ ?_ ?_ ?_ ?_
     ·simp [e3]
     ·simp [m3]
     ·simp [e5]
     ·simp
     ·simp [e7]
     ·simp
     ·rw [hB]; simp
     ·simp
   ·have nb:∀ m∈x.mems,m.id≠z:=fun m hm he=>by
     obtain ⟨i,hi,rfl⟩:=yq hm;rcases Nat.lt_trichotomy i c with h1 | h1 | h1
     ·have:=ax x.mems[i] (by rw [List.mem_take_iff_getElem]; exact ⟨i,by omega,rfl⟩);omega
     ·subst h1;exact fc ⟨hi,fun m' tc=>by rw [y5 hi] at tc; injection tc with tc; rw [<- tc]; exact he⟩
     ·have hcl':c<x.mems.length:=by omega
      have q1:=gp x.mems[c] (by rw [yb hcl']; exact yl);have q2:=rZ hup (y5 hcl') (y5 hi) h1;omega
    simp only [gA,eA,BO,hk,memIx_no nb] at wk;have sr:∀ m∈x.mems.drop c,((j + 1:Nat):Int)<m.id:=fun m hm=>by
     have q1:=gp m hm;have q2:=nb m (List.mem_of_mem_drop hm);omega
    simp at wk;simp [fD,-J,-y4,-y3,y0,e3,m3,e5,m5,e7,m7,jc,df,ga,wk];refine iA ?_;simp [FE,-J,-y4,-y3,y0,e5,m5];simp [-J,-y4,-y3,y0,LN,df,zn];refine fin1 _ c hc (fun m hm=>by have:=ax m hm; omega) sr ?_ ?_ ?_ ?_ ?_ ?_ ?_ ?_
    ·simp [e3]
    ·simp [m3]
    ·simp [e5]
    ·simp
    ·simp [e7]
    ·simp
    ·simp [jc]
    ·simp
  ·have ga:¬ z<=1000:=by omega
   have hcn:c=x.mems.length:=by
    rcases Nat.lt_or_ge c x.mems.length with h1 | h1
    ·have q1:=gp x.mems[c] (by rw [yb h1]; exact yl);have q2:=KR x.mems[c] (y8 h1);omega
    ·omega
   subst hcn;rw [yB (by omega),yB (by omega)] at jc;simp [fD,-J,-y4,-y3,y0,df,ga];exact jb _ _ ⟨rfl,by simp [jc]⟩
 ·refine ⟨0,by omega,by simp,fun m hm=>?_,?_,?_,?_,?_,?_,?_,?_,?_⟩
  ·have:=KR m (by simpa using hm);simp;omega
  ·simp
  ·simp
  ·simp
  ·simp
  ·simp
  ·simp [sA,hk]
  ·simp [GI,eB]
  ·simp
 ·obtain ⟨rfl,jc⟩:=h;simp [-J,-y4,-y3,y0,jc]

section
section
variable (sn:Bool) (S:List pA) (t:Int) (x:pA) (v:Vl) (fp:Int->Vl->ByteArray) (fd:Int->Vl->Nat) (h0:0<=t) (g:S[t.toNat]?=some x)
include h0 g
end
end
section
section
variable (sn:Bool) (S:List pA) (t:Int) (x:pA) (v:Vl) (fp:Int->Vl->ByteArray) (fd:Int->Vl->Nat)
variable (h0:0<=t) (g:S[t.toNat]?=some x)
include h0 g
end
end
end Go.Proofs.YtbhbeakhognieaaGreat
