/- A part of the proof. -/
import Derived.Test.YtpmklcpajcfpjaaGreatDoorWj
import Derived.Test.YtpmklcpajcfpjaaGreatDoorWo
set_option linter.all false
set_option maxRecDepth 100000
set_option maxHeartbeats 8000000
open Option renaming bind_some → J, map_some → yB
open List renaming range_succ → y0, map_map → y9, length_map → yc, all_eq_true → ye, getElem?_eq_getElem → yf, length_append → yj, getElem?_map → yk, map_cons → ym, getElem?_eq_some_iff → yn, mem_cons_self → yo, mem_cons_of_mem → yp, mem_of_getElem? → yr, mem_cons → yt, mem_append → yu, drop_eq_getElem_cons → yv, drop_eq_nil_of_le → yw, append_assoc → yx, length_take → yz, flatten_cons → yA, getElem_mem → yC, mem_map → yD, map_congr_left → yE, append_nil → yF, length_cons → yG, getElem?_drop → yI, length_drop → yJ, getElem?_take → yK, getElem?_append_right → yP, map_nil → yQ, mem_flatMap → yR, nodup_append → yS, getElem?_append_left → yT, mem_singleton → yU, map_take → yW, nil_append → Y00, map_drop → Y01, map_append → Y03, drop_zero → Y05, getElem?_eq_none → Y08, flatMap_cons → Y0a, take_of_length_le → Y0b, take_append_drop → Y0c, getElem?_cons_zero → Y0d, pairwise_cons → Y0f, mem_of_mem_take → Y0i, getElem?_set_self → Y0n, getElem?_cons_succ → Y0o
open Int renaming toNat_lt → yb
open Bool renaming and_eq_true → yg, false_eq_true → yM
open Nat renaming le_refl → yl, zero_add → yy, le_trans → yH, add_mul → yL, add_zero → yV, lt_of_lt_of_le → Y06, mul_le_mul_right → Y0e
namespace Go.Proofs.YtpmklcpajcfpjaaGreatDoor
open Go
structure aF where
 kind:Int
 ty:Int
 id:Int
 name:ByteArray
 mem:ED
 sym:PG
 low:Int
 high:Int
 max:Int
 opn:Bool
 key:Int
 elem:Int
def qJ (e:aF):List AV:=[.int .i64 e.kind,.int .i64 e.ty,.int .i64 e.id,.str e.name]++rD e.mem++fD e.sym++[.int .i64 e.low,.int .i64 e.high,.int .i64 e.max,.bool e.opn,.int .i64 e.key,.int .i64 e.elem]
theorem edC_len (e:aF):(qJ e).length=25:=rfl
theorem tF (l:List aF):kD 25 (l.map qJ)=true:=nF _ _ _ edC_len
def ED.zero:ED:=⟨0,⟨#[]⟩,0,false,false,.zero⟩
def aF.zero:aF:=⟨0,0,0,⟨#[]⟩,.zero,⟨0,⟨#[]⟩⟩,0,0,0,false,0,0⟩
theorem Xj (x:ED)(id:Int):BD 83 [.agg (rD x),.bp [.int .i64 id]] (.bool (decide (x.id=id))):=by
 refine tD (c:=UI) rfl rfl ?_;simp[UI,-J,-yb,-y9,y0,rD]
theorem BS (t:BC)(id:Int)(hl:t.qA.length<=9223372036854775807):BD 46 [.agg (GC t),.int .i64 id] (.int .i64 (iE t.qA id)):=by
 refine tD (c:=bK) rfl rfl ?_;have h:=Z2 83 [.bp [.int .i64 id]] t.qA (fun x=>decide (x.id=id)) hl (fun _ _=>rfl) (fun x _=>Xj x id) t.mn;simp only[BD]at h;unfold iE;simp[bK,-J,-yb,-y9,y0,GC,h]
theorem Wk (x:PG)(id:Int):BD 86 [.agg (fD x),.bp [.int .i64 id]] (.bool (decide (x.id=id))):=by
 refine tD (c:=II) rfl rfl ?_;simp[II,-J,-yb,-y9,y0,fD]
theorem aV (t:BC)(id:Int)(hl:t.wA.length<=9223372036854775807):BD 48 [.agg (GC t),.int .i64 id] (.int .i64 (oE t.wA id)):=by
 refine tD (c:=nK) rfl rfl ?_;have h:=X2 86 [.bp [.int .i64 id]] t.wA (fun x=>decide (x.id=id)) hl (fun _ _=>rfl) (fun x _=>Wk x id) t.sn;simp only[BD]at h;unfold oE;simp[nK,-J,-yb,-y9,y0,GC,h]
theorem Qk (m m':ED)(hm:m.ok):BD 47 [.agg (rD m),.agg (rD m')] (.bool (m.same m')):=by
 have hs:=Gf _ m.dflt m'.dflt (Nat.lt_succ_self _) hm.1;simp only[BD,EF]at hs;refine tD (c:=DG) rfl rfl ?_;unfold ED.same rD;by_cases h1:m.id=m'.id
 ·by_cases h2:m.name=m'.name
  ·by_cases h3:m.ty=m'.ty
   ·by_cases h4:m.gB=m'.gB
    ·by_cases h5:m.has=m'.has
     ·simp[DG,-J,tE,y0,h1,h2,h3,h4,h5,hs]
     ·simp[DG,-J,tE,y0,h1,h2,h3,h4,h5]
    ·simp[DG,-J,tE,y0,h1,h2,h3,h4]
   ·simp[DG,-J,tE,y0,h1,h2,h3]
  ·simp[DG,-J,tE,y0,h1,h2]
 ·simp[DG,-J,tE,y0,h1]
theorem Zx (m m':ED)(hm:m.ok):BD 38 [.agg (rD m),.agg (rD m')] (.bool (m.same m')):=by
 have h:=SX ⟨0,⟨#[]⟩,0,0,0,true,[],false,[m],0,0,false⟩ ⟨0,⟨#[]⟩,0,0,0,true,[],false,[m'],0,0,false⟩ ⟨by simp,by simp,fun x hx=>by simp at hx;subst hx;exact hm⟩;simp only[BD,GC,BC.same,mD]at h;refine tD (c:=AI) rfl rfl ?_;simp[rD]at h;simp[AI,-J,-yb,-y9,y0,rD,h]
section
section
variable {α:Type} (f:α->Int)
def FQ (x:α):List α->List α
 | []=>[x]
 |y::r=>if f y<=f x then y::FQ x r else x::y::r
def qL (z:Int):List α->Nat
 | []=>0
 |y::r=>if f y<=z then qL z r+1 else 0
def uI (l:List α):Prop:=l.Pairwise fun a b=>f a<f b
variable {f}
theorem qZ (z:Int):∀l:List α,qL f z l<=l.length
 | []=>yl _
 |y::r=>by
  unfold qL;split
  ·have:=qZ z r;simp only[yG];omega
  ·exact Nat.zero_le _
theorem GZ (x:α):∀l:List α,FQ f x l=l.take (qL f (f x) l)++x::l.drop (qL f (f x) l)
 | []=>rfl
 |y::r=>by
  unfold FQ qL;split
  ·rw[GZ x r,List.take_succ_cons,List.drop_succ_cons,List.cons_append]
  ·rfl
theorem G8 {z:Int}:∀{l:List α}{i:Nat},i<qL f z l->∃y,l[i]?=some y/\f y<=z
 | [],i,h=>by simp[qL]at h
 |y::r,i,h=>by
  unfold qL at h;split at h
  ·rename_i hy;cases i with
   |zero=>exact⟨y,rfl,hy⟩
   |succ i =>
    obtain⟨x,h1,h2⟩:=G8 (z:=z) (l:=r) (i:=i) (by omega);exact⟨x,by simpa using h1,h2⟩
  ·omega
theorem Ci {z:Int}:∀{l:List α},qL f z l<l.length->∃y,l[qL f z l]?=some y/\z<f y
 | [],h=>by simp at h
 |y::r,h=>by
  unfold qL at h ⊢;split at h
  ·rename_i hy;rw[if_pos hy];simpa using Ci (l:=r) (by simpa using h)
  ·rename_i hy;rw[if_neg hy];exact⟨y,rfl,by omega⟩
theorem MY {z:Int}{l:List α}{n:Nat}(h1:∀i y,i<n->l[i]?=some y->f y<=z)(h2:n=l.length\/∃y,l[n]?=some y/\z<f y)(hn:n<=l.length):qL f z l=n:=by
 rcases Nat.lt_trichotomy (qL f z l) n with h|h|h
 ·obtain⟨y,hy,hz⟩:=Ci (f:=f) (z:=z) (l:=l) (by omega);have:=h1 _ y h hy;omega
 ·exact h
 ·obtain ⟨y,hy,hz⟩:=G8 h;rcases h2 with h2 | ⟨y',nk,hz'⟩
  ·subst h2;have:=qZ (f:=f) z l;omega
  ·rw[hy]at nk;injection nk with nk;subst nk;omega
theorem jS {x z:α}:∀{l:List α},z∈FQ f x l↔z=x\/z∈l
 | []=>by simp[FQ]
 |y::r=>by
  unfold FQ;split
  ·rw [yt,jS (l:=r),yt];constructor
   ·rintro (h | h | h)
    ·exact .inr (.inl h)
    ·exact .inl h
    ·exact .inr (.inr h)
   ·rintro (h | h | h)
    ·exact .inr (.inl h)
    ·exact .inl h
    ·exact .inr (.inr h)
  ·rw[yt]
theorem B7 (x:α):∀l:List α,(FQ f x l).length=l.length+1
 | []=>rfl
 |y::r=>by
  unfold FQ;split
  ·simp[B7 x r]
  ·simp
theorem PV {x:α}:∀{l:List α},uI f l->(∀y∈l,f y≠f x)->uI f (FQ f x l)
 | [],_,_=>by simp[FQ,uI]
 |y::r,h,hn=>by
  obtain⟨h1,h2⟩:=Y0f.1 h;have hyx:=hn y (yo ..);unfold FQ;split
  ·rename_i hy;refine Y0f.2 ⟨fun z hz=>?_,PV h2 fun z hz=>hn z (yp _ hz)⟩;rcases jS.1 hz with rfl | hz
   ·omega
   ·exact h1 z hz
  ·rename_i hy;refine Y0f.2 ⟨fun z hz=>?_,h⟩;rcases yt.1 hz with rfl | hz
   ·omega
   ·have:=h1 z hz;omega
theorem sU {l:List α}(p:α->Bool)(h:uI f l):uI f (l.filter p):=h.filter p
theorem S5 {l:List α}{g:α->α}(hg:∀x∈l,f (g x)=f x)(h:uI f l):uI f (l.map g):=by
 unfold uI;rw[List.pairwise_map];refine h.imp_of_mem fun{a b} ha hb og=>?_
 rw[hg a ha,hg b hb];exact og
theorem LU:∀{l:List α}{i:Nat}{x:α},uI f l->l[i]?=some x->l.filter (fun y=>!decide (f y=f x))=l.take i++l.drop (i+1)/\∀z,(l.map fun y=>if f y=f x then z else y)=l.set i z
 | [],i,x,_,h=>by cases h
 |y::r,i,x,h,hi=>by
  obtain⟨h1,h2⟩:=Y0f.1 h;cases i with
  |zero =>
   have:y=x:=by simpa using hi
   subst this;have hr:∀z∈r,¬f z=f y:=fun z hz e=>by have:=h1 z hz;omega
   have e1:(r.filter fun z=>!decide (f z=f y))=r:=List.filter_eq_self.2 fun z hz=>by simp[hr z hz]
   refine⟨by rw[List.filter_cons];simp[e1],fun z=>?_⟩;rw[ym,if_pos rfl,yE (g:=fun z=>z) fun z hz=>if_neg (hr z hz)];simp
  |succ i =>
   have ee:r[i]?=some x:=by simpa using hi
   have ba:=h1 x (yr ee);obtain⟨g1,g2⟩:=LU h2 ee;refine⟨by rw[List.filter_cons,if_pos (by simp;omega),g1];simp,fun z=>?_⟩;rw[ym,if_neg (by omega),g2 z];simp
end
def BC.bare (t:BC):BC:={ t with sn:=false,mn:=false }
def iH (k:Int):Bool:=decide (k=5)||decide (k=6)
def QG (a k:Int):Bool :=
 if a=1\/a=2\/a=3 then iH k
 else if a=4\/a=5 then decide (k=4)
 else if a=6 then iH k||decide (k=4)
 else if a=7 then decide (k=2)||decide (k=3)||decide (k=7)||decide (k=8)
 else if a=8 then decide (k=4)||decide (k=6)
 else if a=9 then decide (k=7)||decide (k=8)||decide (k=9)
 else false
def nT (l:List ED)(id:Int):Bool:=l.any fun m=>decide (m.id=id)
def HW (l:List PG)(id:Int):Bool:=l.any fun m=>decide (m.id=id)
def jD (t:BC)(e:aF):Int×BC :=
 if QG e.kind t.kind=false then(1,t)
 else if e.kind=1 then(if nT t.qA e.mem.id then(5,t)else(0,{ t with qA:=FQ ED.id e.mem t.qA }))
 else if e.kind=2 then(if nT t.qA e.id then(0,{ t with qA:=t.qA.filter fun m=>!decide (m.id=e.id) })else(4,t))
 else if e.kind=3 then(if nT t.qA e.mem.id then(0,{ t with qA:=t.qA.map fun m=>if m.id=e.mem.id then e.mem else m })else(4,t))
 else if e.kind=4 then(if HW t.wA e.sym.id then(0,{ t with wA:=t.wA.map fun m=>if m.id=e.sym.id then e.sym else m })else(0,{ t with wA:=FQ PG.id e.sym t.wA }))
 else if e.kind=5 then(if HW t.wA e.id then(0,{ t with wA:=t.wA.filter fun m=>!decide (m.id=e.id) })else(4,t))
 else if e.kind=6 then(0,{ t with name:=e.name })
 else if e.kind=7 then(if t.kind=2 then(0,{ t with low:=e.low,high:=e.high })else(0,{ t with max:=e.max }))
 else if e.kind=8 then(0,{ t with opn:=e.opn })
 else(0,{ t with elem:=e.elem,key:=if t.kind=8 then e.key else t.key })
def LG (B:List BC)(e:aF):Int×List BC :=
 if 0<=e.ty then(match B[e.ty.toNat]? with
  |some t=>if(jD t e).1=0 then(0,B.set e.ty.toNat (jD t e).2)else((jD t e).1,B)
  |none=>(4,B))else(4,B)
def zK:List BC->Nat->List aF->Nat×Int×List BC
 |B,i,[]=>(i,0,B)
 |B,i,e::r=>if(LG B e).1=0 then zK (LG B e).2 (i+1) r else(i,(LG B e).1,[])
def cT (t:BC):Prop:=uI ED.id t.qA/\uI PG.id t.wA
def ZD (L:List BC):List BC:=L.map BC.bare
theorem Gw (t:BC)(e:aF):jD t.bare e=((jD t e).1,(jD t e).2.bare):=by
 cases t with
 |mk kind name low high max sn wA mn qA key elem opn =>
 unfold jD BC.bare;dsimp only;by_cases h0:QG e.kind kind=false
 ·rw[if_pos h0,if_pos h0]
 rw[if_neg h0,if_neg h0];by_cases h1:e.kind=1
 ·rw[if_pos h1,if_pos h1];by_cases g:nT qA e.mem.id=true<;>simp[g]
 rw[if_neg h1,if_neg h1];by_cases h1:e.kind=2
 ·rw[if_pos h1,if_pos h1];by_cases g:nT qA e.id=true<;>simp[g]
 rw[if_neg h1,if_neg h1];by_cases h1:e.kind=3
 ·rw[if_pos h1,if_pos h1];by_cases g:nT qA e.mem.id=true<;>simp[g]
 rw[if_neg h1,if_neg h1];by_cases h1:e.kind=4
 ·rw[if_pos h1,if_pos h1];by_cases g:HW wA e.sym.id=true<;>simp[g]
 rw[if_neg h1,if_neg h1];by_cases h1:e.kind=5
 ·rw[if_pos h1,if_pos h1];by_cases g:HW wA e.id=true<;>simp[g]
 rw[if_neg h1,if_neg h1];by_cases h1:e.kind=6
 ·rw[if_pos h1,if_pos h1]
 rw[if_neg h1,if_neg h1];by_cases h1:e.kind=7
 ·rw[if_pos h1,if_pos h1];by_cases g:kind=2<;>simp[g]
 rw[if_neg h1,if_neg h1];by_cases h1:e.kind=8
 ·rw[if_pos h1,if_pos h1]
 rw[if_neg h1,if_neg h1]
theorem c7 (a k:Int):QG a k=true->(a=1\/a=2\/a=3\/a=4\/a=5\/a=6\/a=7\/a=8\/a=9):=by
 unfold QG;intro h;by_cases h1:a=1\/a=2\/a=3
 ·omega
 by_cases h2:a=4\/a=5
 ·omega
 simp only[h1,h2,if_false]at h;split at h
 ·omega
 split at h
 ·omega
 split at h
 ·omega
 split at h
 ·omega
 cases h
theorem Cd {t:BC}{e:aF}(h:cT t):cT (jD t e).2:=by
 obtain⟨h1,h2⟩:=h;have hm:∀{l:List ED}{i:Int},¬nT l i=true->∀y∈l,y.id≠i:=fun{l i} hn y hy he=>hn (List.any_eq_true.2 ⟨y,hy,decide_eq_true he⟩)
 have hs:∀{l:List PG}{i:Int},¬HW l i=true->∀y∈l,y.id≠i:=fun{l i} hn y hy he=>hn (List.any_eq_true.2 ⟨y,hy,decide_eq_true he⟩)
 unfold jD;split
 ·exact⟨h1,h2⟩
 split
 ·split
  ·exact⟨h1,h2⟩
  ·rename_i hn;exact⟨PV h1 (hm hn),h2⟩
 split
 ·split
  ·exact⟨sU _ h1,h2⟩
  ·exact⟨h1,h2⟩
 split
 ·split
  ·refine ⟨S5 (fun x _=>?_) h1,h2⟩;split
   ·rename_i e;exact e.symm
   ·rfl
  ·exact⟨h1,h2⟩
 split
 ·split
  ·refine ⟨h1,S5 (fun x _=>?_) h2⟩;split
   ·rename_i e;exact e.symm
   ·rfl
  ·rename_i hn;exact⟨h1,PV h2 (hs hn)⟩
 split
 ·split
  ·exact⟨h1,sU _ h2⟩
  ·exact⟨h1,h2⟩
 split
 ·exact⟨h1,h2⟩
 split
 ·split<;>exact⟨h1,h2⟩
 split
 ·exact⟨h1,h2⟩
 ·exact⟨h1,h2⟩
theorem Xd {B:List BC}{e:aF}(h:∀t∈B,cT t):∀t∈(LG B e).2,cT t:=by
 unfold LG;split
 ·split
  ·rename_i t ht;split
   ·intro u hu;rcases List.mem_or_eq_of_mem_set hu with hu | rfl
    ·exact h u hu
    ·exact Cd (h t (yr ht))
   ·exact h
  ·exact h
 ·exact h
theorem i5 (B:List BC)(e:aF):(LG B e).2.length=B.length:=by
 unfold LG
 repeat' split
 all_goals simp
theorem Dw (B:List BC)(e:aF):LG (ZD B) e=((LG B e).1,ZD (LG B e).2):=by
 unfold LG ZD;rw[yk];split
 ·cases B[e.ty.toNat]? with
  |none=>rfl
  |some t =>
   simp only[yB,Gw];split
   ·rw[List.map_set]
   ·rfl
 ·rfl
theorem WJ (L:List BC):valid (ZD L)=valid L:=by
 have h1:∀k,tM (ZD L) k=tM L k:=fun k=>by
  unfold tM ZD;rw[yk];cases L[k.toNat]?<;>rfl
 have h2:∀t:BC,bD t.bare=bD t:=fun t=>by
  have e1:EI t.bare=EI t:=by unfold EI;rfl
  have e2:t.bare.left.same pE=t.left.same pE:=by
   unfold BC.left;simp only[show t.bare.kind=t.kind from rfl]
   repeat' split
   all_goals rfl
  unfold bD;rw[e1,e2];rfl
 have h3:∀i (t:BC),ZE (ZD L) i t.bare=ZE L i t:=fun i t=>by
  unfold ZE;simp only[h1,h2];simp only[ZD,yc];rw[<- yW,y9];rfl
 have h4:∀n i,bE (ZD L) n i=bE L n i:=by
  intro n
  induction n with
  |zero=>intro i;rfl
  |succ n ih =>
   intro i;unfold bE;unfold ZD;rw[yk];cases L[i]? with
   |none=>rfl
   |some t=>simp only[yB];rw[show ZE (L.map BC.bare) i t.bare=ZE L i t from h3 i t];rw[show bE (L.map BC.bare) n (i+1)=bE L n (i+1)from ih (i+1)]
 unfold valid;rw[show(ZD L).length=L.length from yc _,h4]
end
def AQ (n:Int)(s:ByteArray):aF:={ aF.zero with kind:=6,ty:=n,name:=s }
def xP (n a b c:Int):aF:={ aF.zero with kind:=7,ty:=n,low:=a,high:=b,max:=c }
def SQ (n:Int)(b:Bool):aF:={ aF.zero with kind:=8,ty:=n,opn:=b }
def cP (n a b:Int):aF:={ aF.zero with kind:=9,ty:=n,key:=a,elem:=b }
def xZ (n i:Int):aF:={ aF.zero with kind:=2,ty:=n,id:=i }
def P7 (n:Int)(m:ED):aF:={ aF.zero with kind:=3,ty:=n,mem:=m }
def lZ (n:Int)(m:ED):aF:={ aF.zero with kind:=1,ty:=n,mem:=m }
def fU (n i:Int):aF:={ aF.zero with kind:=5,ty:=n,id:=i }
def IR (n:Int)(x:PG):aF:={ aF.zero with kind:=4,ty:=n,sym:=x }
def tN (n:Int)(q:List ED)(l:List ED):List aF:=l.flatMap fun m=>if iE q m.id<0 then [xZ n m.id]else []
def AO (n:Int)(q:List ED)(m:ED):List aF:=match q[(iE q m.id).toNat]? with
 |some m'=>if 0<=iE q m.id/\m'.same m=false then [P7 n m]else []
 |none=>[]
def XM (n:Int)(q:List ED)(l:List ED):List aF:=l.flatMap (AO n q)
def ZM (n:Int)(q:List ED)(l:List ED):List aF:=l.flatMap fun m=>if iE q m.id<0 then [lZ n m]else []
def CM (n:Int)(q:List PG)(l:List PG):List aF:=l.flatMap fun m=>if oE q m.id<0 then [fU n m.id]else []
def JO (n:Int)(q:List PG)(m:PG):List aF:=match q[(oE q m.id).toNat]? with
 |some m'=>if 0<=oE q m.id/\m'.name≠m.name then [IR n m]else []
 |none=>[]
def iN (n:Int)(q:List PG)(l:List PG):List aF:=l.flatMap (JO n q)
def uN (n:Int)(q:List PG)(l:List PG):List aF:=l.flatMap fun m=>if oE q m.id<0 then [IR n m]else []
def iP (n:Int)(x y:BC):List aF :=
 (if x.name=y.name then []else [AQ n y.name])++((if x.low=y.low/\x.high=y.high/\x.max=y.max then []else [xP n y.low y.high y.max])++((if x.opn=y.opn then []else [SQ n y.opn])++(if x.key=y.key/\x.elem=y.elem then []else [cP n y.key y.elem])))
def AM (n:Int)(x y:BC):List aF:=iP n x y++(tN n y.qA x.qA++(XM n x.qA y.qA++(ZM n x.qA y.qA++(CM n y.wA x.wA++(iN n x.wA y.wA++uN n x.wA y.wA)))))
theorem ZH {α β:Type}(f:α->List β){l:List α}{i:Nat}{x:α}(h:l[i]?=some x):(l.take (i+1)).flatMap f=(l.take i).flatMap f++f x:=by
 rw[List.take_add_one,h];simp
def OutA (L:List aF)(v:SC):Prop:=(L=[]/\v=⟨.sl true [],.ex⟩)\/(L≠[]/\v.v=.sl false (L.map qJ)/\∃k,v.a=.own k 54)
structure KO (n:Int)(x y:BC)(L:List aF)(s:LC):Prop where
 e0:(s.env 0).v=.int .i64 n
 e4:(s.env 4).v=.ptr 4 1 0
 e5:(s.env 5).v=.ptr 5 1 0
 m4:s.mem 4 1=some ((GC x).map (⟨·,.no⟩))
 m5:s.mem 5 1=some ((GC y).map (⟨·,.no⟩))
 e7:OutA L (s.env 7)
 len:L.length<=1000
theorem bt_rem {rv:RV}{n:Int}{x y:BC}(hx:x.qA.length<=100)(hy:y.qA.length<=100){L:List aF}(hL:L.length<=500)(s:LC)(h:KO n x y L s)(e8:(s.env 8).v=.int .i64 0)(k:Ex->LC->Option RV)
  (hk:∀s',KO n x y (L++tN n y.qA x.qA) s'->k (.exit 0) s'=some rv):HJ MC ZC NF s k=some rv:=by
 refine zE x.qA.length (fun i s=>(s.env 8).v=.int .i64 i/\KO n x y (L++tN n y.qA (x.qA.take i)) s/\(L++tN n y.qA (x.qA.take i)).length<=L.length+i) (fun e s=>e=.exit 0/\KO n x y (L++tN n y.qA x.qA) s) (fun i hi s k h ih hk=>?_) _ _ ⟨e8,by simpa [tN]using h,by simp[tN]⟩ (fun e s h=>by obtain⟨rfl,h⟩:=h;exact hk _ h);obtain⟨e8,hI,hn⟩:=h;obtain⟨env,mem,nx,obj,gh⟩:=s;obtain⟨e0,e4,e5,m4,m5,e7,da⟩:=hI;dsimp only at e8 e0 e4 e5 m4 m5 e7;have M4:=m4;have M5:=m5;refine wD ?_;by_cases ba:i<x.qA.length
 ·have fa:(i:Int)<x.qA.length:=by omega
  have hw:=rE (i:=i);obtain⟨q,hq⟩:∃q,x.qA[i]?=some q:=⟨_,yf ba⟩;have g1:(x.qA.map rD)[i]?=some (rD q):=by rw[yk,hq];rfl
  have AG:=ZH (fun m=>if iE y.qA m.id<0 then [xZ n m.id]else []) hq;have ec:=S6 y q.id (by omega);simp only[BD,GC,Xz]at ec;simp only[GC]at m4 m5;have g2:(AV.int IntKind.i64 q.id)=(AV.int IntKind.i64 q.id):=rfl;simp only[rD]at g1;have jb:=ih ba;unfold tN at jb e7 hn da;rw[AG]at jb;generalize oe:L++(x.qA.take i).flatMap (fun m=>if iE y.qA m.id<0 then [xZ n m.id]else [])=L0 at *
  rw[<- yx,oe]at jb;have ac:(x.qA.map rD).length=x.qA.length:=yc _;generalize ic:x.qA.map rD=ml at *
  have ga:pD 272 (L0.length+1)=true:=by rw[XC];omega
  have fb:=tF L0;have ub:(L0.map qJ).length=L0.length:=yc _;by_cases hc:iE y.qA q.id<0
  ·have nc:¬ 0<=iE y.qA q.id:=by omega
   rw[if_pos hc]at jb;rcases e7 with⟨rfl,e7⟩|⟨h0,e7,kk,a7⟩
   ·have ga:pD 272 1=true:=by rw [XC]; omega
    simp[NF,-J,-yb,-y9,y0,e8,e0,e4,e5,e7,m4,m5,fa,hw,ac,g1,ec,hc,nc,ga];refine jb _ ⟨by simp,⟨by simp[e0],by simp[e4],by simp[e5],?_,?_,.inr ⟨by simp,?_,131,?_⟩,?_⟩,?_⟩
    ·simp[m4,GC,ic,ID]
    ·simp[m5,GC,ID]
    ·simp;rfl
    ·simp
    ·first|(simp;done)|(simp;omega)
    ·first|(simp;done)|(simp;omega)
   ·simp [NF,-J,-yb,-y9,y0,e8,e0,e4,e5,e7,a7,tE,m4,m5,fa,hw,ac,ub,g1,ec,hc,nc,ga,fb];refine jb _ ⟨by simp,⟨by simp [e0],by simp [e4],by simp [e5],?_,?_,.inr ⟨by simp,?_,131,?_⟩,?_⟩,?_⟩
    ·simp[m4,GC,ic,ID]
    ·simp[m5,GC,ID]
    ·simp;rfl
    ·simp
    ·first|(simp;done)|(simp;omega)
    ·first|(simp;done)|(simp;omega)
  ·have nc:0<=iE y.qA q.id:=by omega
   rw[if_neg hc,yF]at jb;simp[NF,-J,-yb,-y9,y0,e8,e0,e4,e5,m4,m5,fa,hw,ac,g1,ec,hc,nc];refine jb _ ⟨by simp,⟨by simp[e0],by simp[e4],by simp[e5],M4,M5,by simpa using e7,da⟩,by omega⟩
 ·have fa:¬ (i:Int)<x.qA.length:=by omega
  have:i=x.qA.length:=by omega
  subst this;rw[List.take_length]at e7 da;simp only[GC]at m4;simp[NF,-J,-yb,-y9,y0,e8,e4,m4,fa];exact hk _ _ ⟨rfl,by simp[e0],by simp[e4],by simp[e5],M4,M5,by simpa using e7,da⟩
section
variable {rv:RV} {n:Int} {x y:BC}
include rv n x y
theorem bt_add (hx:x.qA.length<=100)(hy:y.qA.length<=100){L:List aF}(hL:L.length<=500)(s:LC)(h:KO n x y L s)(e_c:(s.env 14).v=.int .i64 0)(k:Ex->LC->Option RV)
  (hk:∀s',KO n x y (L++ZM n x.qA y.qA) s'->k (.exit 4) s'=some rv):HJ MC ZC BF s k=some rv:=by
 refine zE y.qA.length (fun i s=>(s.env 14).v=.int .i64 i/\KO n x y (L++ZM n x.qA (y.qA.take i)) s/\(L++ZM n x.qA (y.qA.take i)).length<=L.length+i) (fun e s=>e=.exit 4/\KO n x y (L++ZM n x.qA y.qA) s) (fun i hi s k h ih hk=>?_) _ _ ⟨e_c,by simpa [ZM]using h,by simp[ZM]⟩ (fun e s h=>by obtain⟨rfl,h⟩:=h;exact hk _ h);obtain⟨e_c,hI,hn⟩:=h;obtain⟨env,mem,nx,obj,gh⟩:=s;obtain⟨e0,e4,e5,m4,m5,e7,da⟩:=hI;dsimp only at e_c e0 e4 e5 m4 m5 e7;have M4:=m4;have M5:=m5;refine wD ?_;by_cases ba:i<y.qA.length
 ·have fa:(i:Int)<y.qA.length:=by omega
  have hw:=rE (i:=i);obtain⟨q,hq⟩:∃q,y.qA[i]?=some q:=⟨_,yf ba⟩;have g1:(y.qA.map rD)[i]?=some (rD q):=by rw[yk,hq];rfl
  have AG:=ZH (fun m=>if iE x.qA m.id<0 then [lZ n m]else []) hq;have ec:=S6 x q.id (by omega);simp only[BD,GC,Xz]at ec;simp only[GC]at m4 m5;have g2:(AV.int IntKind.i64 q.id)=(AV.int IntKind.i64 q.id):=rfl;simp only[rD]at g1;have jb:=ih ba;unfold ZM at jb e7 hn da;rw[AG]at jb;generalize oe:L++(y.qA.take i).flatMap (fun m=>if iE x.qA m.id<0 then [lZ n m]else [])=L0 at *
  rw[<- yx,oe]at jb;have ac:(y.qA.map rD).length=y.qA.length:=yc _;generalize ic:y.qA.map rD=ml at *
  have ga:pD 272 (L0.length+1)=true:=by rw[XC];omega
  have fb:=tF L0;have ub:(L0.map qJ).length=L0.length:=yc _;by_cases hc:iE x.qA q.id<0
  ·have nc:¬ 0<=iE x.qA q.id:=by omega
   rw[if_pos hc]at jb;rcases e7 with⟨rfl,e7⟩|⟨h0,e7,kk,a7⟩
   ·have ga:pD 272 1=true:=by rw [XC]; omega
    simp[BF,-J,-yb,-y9,y0,e_c,e0,e4,e5,e7,m4,m5,fa,hw,ac,g1,ec,hc,nc,ga];refine jb _ ⟨by simp,⟨by simp[e0],by simp[e4],by simp[e5],?_,?_,.inr ⟨by simp,?_,204,?_⟩,?_⟩,?_⟩
    ·simp[m4,GC,ID]
    ·simp[m5,GC,ic,ID]
    ·simp;rfl
    ·simp
    ·first|(simp;done)|(simp;omega)
    ·first|(simp;done)|(simp;omega)
   ·simp [BF,-J,-yb,-y9,y0,e_c,e0,e4,e5,e7,a7,tE,m4,m5,fa,hw,ac,ub,g1,ec,hc,nc,ga,fb];refine jb _ ⟨by simp,⟨by simp [e0],by simp [e4],by simp [e5],?_,?_,.inr ⟨by simp,?_,204,?_⟩,?_⟩,?_⟩
    ·simp[m4,GC,ID]
    ·simp[m5,GC,ic,ID]
    ·simp;rfl
    ·simp
    ·first|(simp;done)|(simp;omega)
    ·first|(simp;done)|(simp;omega)
  ·have nc:0<=iE x.qA q.id:=by omega
   rw[if_neg hc,yF]at jb;simp[BF,-J,-yb,-y9,y0,e_c,e0,e4,e5,m4,m5,fa,hw,ac,g1,ec,hc,nc];refine jb _ ⟨by simp,⟨by simp[e0],by simp[e4],by simp[e5],M4,M5,by simpa using e7,da⟩,by omega⟩
 ·have fa:¬ (i:Int)<y.qA.length:=by omega
  have:i=y.qA.length:=by omega
  subst this;rw[List.take_length]at e7 da;simp only[GC]at m5;simp[BF,-J,-yb,-y9,y0,e_c,e5,m5,fa];exact hk _ _ ⟨rfl,by simp[e0],by simp[e4],by simp[e5],M4,M5,by simpa using e7,da⟩
theorem bt_drp (hx:x.wA.length<=100)(hy:y.wA.length<=100){L:List aF}(hL:L.length<=500)(s:LC)(h:KO n x y L s)(e_c:(s.env 17).v=.int .i64 0)(k:Ex->LC->Option RV)
  (hk:∀s',KO n x y (L++CM n y.wA x.wA) s'->k (.exit 6) s'=some rv):HJ MC ZC CF s k=some rv:=by
 refine zE x.wA.length (fun i s=>(s.env 17).v=.int .i64 i/\KO n x y (L++CM n y.wA (x.wA.take i)) s/\(L++CM n y.wA (x.wA.take i)).length<=L.length+i) (fun e s=>e=.exit 6/\KO n x y (L++CM n y.wA x.wA) s) (fun i hi s k h ih hk=>?_) _ _ ⟨e_c,by simpa [CM]using h,by simp[CM]⟩ (fun e s h=>by obtain⟨rfl,h⟩:=h;exact hk _ h);obtain⟨e_c,hI,hn⟩:=h;obtain⟨env,mem,nx,obj,gh⟩:=s;obtain⟨e0,e4,e5,m4,m5,e7,da⟩:=hI;dsimp only at e_c e0 e4 e5 m4 m5 e7;have M4:=m4;have M5:=m5;refine wD ?_;by_cases ba:i<x.wA.length
 ·have fa:(i:Int)<x.wA.length:=by omega
  have hw:=rE (i:=i);obtain⟨q,hq⟩:∃q,x.wA[i]?=some q:=⟨_,yf ba⟩;have g1:(x.wA.map fD)[i]?=some (fD q):=by rw[yk,hq];rfl
  have AG:=ZH (fun m=>if oE y.wA m.id<0 then [fU n m.id]else []) hq;have ec:=G6 y q.id (by omega);simp only[BD,GC,Iv]at ec;simp only[GC]at m4 m5;have g2:(AV.int IntKind.i64 q.id)=(AV.int IntKind.i64 q.id):=rfl;simp only[fD]at g1;have jb:=ih ba;unfold CM at jb e7 hn da;rw[AG]at jb;generalize oe:L++(x.wA.take i).flatMap (fun m=>if oE y.wA m.id<0 then [fU n m.id]else [])=L0 at *
  rw[<- yx,oe]at jb;have ac:(x.wA.map fD).length=x.wA.length:=yc _;generalize ic:x.wA.map fD=ml at *
  have ga:pD 272 (L0.length+1)=true:=by rw[XC];omega
  have fb:=tF L0;have ub:(L0.map qJ).length=L0.length:=yc _;by_cases hc:oE y.wA q.id<0
  ·have nc:¬ 0<=oE y.wA q.id:=by omega
   rw[if_pos hc]at jb;rcases e7 with⟨rfl,e7⟩|⟨h0,e7,kk,a7⟩
   ·have ga:pD 272 1=true:=by rw [XC]; omega
    simp[CF,-J,-yb,-y9,y0,e_c,e0,e4,e5,e7,m4,m5,fa,hw,ac,g1,ec,hc,nc,ga];refine jb _ ⟨by simp,⟨by simp[e0],by simp[e4],by simp[e5],?_,?_,.inr ⟨by simp,?_,235,?_⟩,?_⟩,?_⟩
    ·simp[m4,GC,ic,ID]
    ·simp[m5,GC,ID]
    ·simp;rfl
    ·simp
    ·first|(simp;done)|(simp;omega)
    ·first|(simp;done)|(simp;omega)
   ·simp [CF,-J,-yb,-y9,y0,e_c,e0,e4,e5,e7,a7,tE,m4,m5,fa,hw,ac,ub,g1,ec,hc,nc,ga,fb];refine jb _ ⟨by simp,⟨by simp [e0],by simp [e4],by simp [e5],?_,?_,.inr ⟨by simp,?_,235,?_⟩,?_⟩,?_⟩
    ·simp[m4,GC,ic,ID]
    ·simp[m5,GC,ID]
    ·simp;rfl
    ·simp
    ·first|(simp;done)|(simp;omega)
    ·first|(simp;done)|(simp;omega)
  ·have nc:0<=oE y.wA q.id:=by omega
   rw[if_neg hc,yF]at jb;simp[CF,-J,-yb,-y9,y0,e_c,e0,e4,e5,m4,m5,fa,hw,ac,g1,ec,hc,nc];refine jb _ ⟨by simp,⟨by simp[e0],by simp[e4],by simp[e5],M4,M5,by simpa using e7,da⟩,by omega⟩
 ·have fa:¬ (i:Int)<x.wA.length:=by omega
  have:i=x.wA.length:=by omega
  subst this;rw[List.take_length]at e7 da;simp only[GC]at m4;simp[CF,-J,-yb,-y9,y0,e_c,e4,m4,fa];exact hk _ _ ⟨rfl,by simp[e0],by simp[e4],by simp[e5],M4,M5,by simpa using e7,da⟩
theorem bt_sya (hx:x.wA.length<=100)(hy:y.wA.length<=100){L:List aF}(hL:L.length<=500)(s:LC)(h:KO n x y L s)(e_c:(s.env 23).v=.int .i64 0)(k:Ex->LC->Option RV)
  (hk:∀s',KO n x y (L++uN n x.wA y.wA) s'->k (.exit 10) s'=some rv):HJ MC ZC XF s k=some rv:=by
 refine zE y.wA.length (fun i s=>(s.env 23).v=.int .i64 i/\KO n x y (L++uN n x.wA (y.wA.take i)) s/\(L++uN n x.wA (y.wA.take i)).length<=L.length+i) (fun e s=>e=.exit 10/\KO n x y (L++uN n x.wA y.wA) s) (fun i hi s k h ih hk=>?_) _ _ ⟨e_c,by simpa [uN]using h,by simp[uN]⟩ (fun e s h=>by obtain⟨rfl,h⟩:=h;exact hk _ h);obtain⟨e_c,hI,hn⟩:=h;obtain⟨env,mem,nx,obj,gh⟩:=s;obtain⟨e0,e4,e5,m4,m5,e7,da⟩:=hI;dsimp only at e_c e0 e4 e5 m4 m5 e7;have M4:=m4;have M5:=m5;refine wD ?_;by_cases ba:i<y.wA.length
 ·have fa:(i:Int)<y.wA.length:=by omega
  have hw:=rE (i:=i);obtain⟨q,hq⟩:∃q,y.wA[i]?=some q:=⟨_,yf ba⟩;have g1:(y.wA.map fD)[i]?=some (fD q):=by rw[yk,hq];rfl
  have AG:=ZH (fun m=>if oE x.wA m.id<0 then [IR n m]else []) hq;have ec:=G6 x q.id (by omega);simp only[BD,GC,Iv]at ec;simp only[GC]at m4 m5;have g2:(AV.int IntKind.i64 q.id)=(AV.int IntKind.i64 q.id):=rfl;simp only[fD]at g1;have jb:=ih ba;unfold uN at jb e7 hn da;rw[AG]at jb;generalize oe:L++(y.wA.take i).flatMap (fun m=>if oE x.wA m.id<0 then [IR n m]else [])=L0 at *
  rw[<- yx,oe]at jb;have ac:(y.wA.map fD).length=y.wA.length:=yc _;generalize ic:y.wA.map fD=ml at *
  have ga:pD 272 (L0.length+1)=true:=by rw[XC];omega
  have fb:=tF L0;have ub:(L0.map qJ).length=L0.length:=yc _;by_cases hc:oE x.wA q.id<0
  ·have nc:¬ 0<=oE x.wA q.id:=by omega
   rw[if_pos hc]at jb;rcases e7 with⟨rfl,e7⟩|⟨h0,e7,kk,a7⟩
   ·have ga:pD 272 1=true:=by rw [XC]; omega
    simp[XF,-J,-yb,-y9,y0,e_c,e0,e4,e5,e7,m4,m5,fa,hw,ac,g1,ec,hc,nc,ga];refine jb _ ⟨by simp,⟨by simp[e0],by simp[e4],by simp[e5],?_,?_,.inr ⟨by simp,?_,309,?_⟩,?_⟩,?_⟩
    ·simp[m4,GC,ID]
    ·simp[m5,GC,ic,ID]
    ·simp;rfl
    ·simp
    ·first|(simp;done)|(simp;omega)
    ·first|(simp;done)|(simp;omega)
   ·simp [XF,-J,-yb,-y9,y0,e_c,e0,e4,e5,e7,a7,tE,m4,m5,fa,hw,ac,ub,g1,ec,hc,nc,ga,fb];refine jb _ ⟨by simp,⟨by simp [e0],by simp [e4],by simp [e5],?_,?_,.inr ⟨by simp,?_,309,?_⟩,?_⟩,?_⟩
    ·simp[m4,GC,ID]
    ·simp[m5,GC,ic,ID]
    ·simp;rfl
    ·simp
    ·first|(simp;done)|(simp;omega)
    ·first|(simp;done)|(simp;omega)
  ·have nc:0<=oE x.wA q.id:=by omega
   rw[if_neg hc,yF]at jb;simp[XF,-J,-yb,-y9,y0,e_c,e0,e4,e5,m4,m5,fa,hw,ac,g1,ec,hc,nc];refine jb _ ⟨by simp,⟨by simp[e0],by simp[e4],by simp[e5],M4,M5,by simpa using e7,da⟩,by omega⟩
 ·have fa:¬ (i:Int)<y.wA.length:=by omega
  have:i=y.wA.length:=by omega
  subst this;rw[List.take_length]at e7 da;simp only[GC]at m5;simp[XF,-J,-yb,-y9,y0,e_c,e5,m5,fa];exact hk _ _ ⟨rfl,by simp[e0],by simp[e4],by simp[e5],M4,M5,by simpa using e7,da⟩
theorem bt_chg (hx:x.qA.length<=100)(hy:y.qA.length<=100)(wa:∀m∈x.qA,m.ok){L:List aF}(hL:L.length<=500)(s:LC)(h:KO n x y L s)(e_c:(s.env 11).v=.int .i64 0)(k:Ex->LC->Option RV)
  (hk:∀s',KO n x y (L++XM n x.qA y.qA) s'->k (.exit 2) s'=some rv):HJ MC ZC lF s k=some rv:=by
 refine zE y.qA.length (fun i s=>(s.env 11).v=.int .i64 i/\KO n x y (L++XM n x.qA (y.qA.take i)) s/\(L++XM n x.qA (y.qA.take i)).length<=L.length+i) (fun e s=>e=.exit 2/\KO n x y (L++XM n x.qA y.qA) s) (fun i hi s k h ih hk=>?_) _ _ ⟨e_c,by simpa [XM]using h,by simp[XM]⟩ (fun e s h=>by obtain⟨rfl,h⟩:=h;exact hk _ h);obtain⟨e_c,hI,hn⟩:=h;obtain⟨env,mem,nx,obj,gh⟩:=s;obtain⟨e0,e4,e5,m4,m5,e7,da⟩:=hI;dsimp only at e_c e0 e4 e5 m4 m5 e7;have M4:=m4;have M5:=m5;refine wD ?_;by_cases ba:i<y.qA.length
 ·have fa:(i:Int)<y.qA.length:=by omega
  have hw:=rE (i:=i);obtain⟨q,hq⟩:∃q,y.qA[i]?=some q:=⟨_,yf ba⟩;have g1:(y.qA.map rD)[i]?=some (rD q):=by rw[yk,hq];rfl
  have AG:=ZH (AO n x.qA) hq;have ec:=S6 x q.id (by omega);simp only[BD,GC,Xz]at ec;simp only[GC]at m4 m5;simp only[rD]at g1;have jb:=ih ba;unfold XM at jb e7 hn da;rw[AG]at jb;generalize oe:L++(y.qA.take i).flatMap (AO n x.qA)=L0 at *
  rw[<- yx,oe]at jb;have ac:(y.qA.map rD).length=y.qA.length:=yc _;have uf:(x.qA.map rD).length=x.qA.length:=yc _;have ga:pD 272 (L0.length+1)=true:=by rw[XC];omega
  have fb:=tF L0;have ub:(L0.map qJ).length=L0.length:=yc _;by_cases hc:iE x.qA q.id<0
  ·have hf:(AO n x.qA) q=[]:=by
    unfold AO;split
    ·rw[if_neg (by omega)]
    ·rfl
   rw[hf,yF]at jb;have nc:¬0<=iE x.qA q.id:=by omega
   generalize ic:y.qA.map rD=ml at *
   generalize se:x.qA.map rD=mlx at *
   simp[lF,-J,-yb,-y9,y0,e_c,e0,e4,e5,m4,m5,fa,hw,ac,uf,g1,ec,hc,nc];refine jb _ ⟨by simp,⟨by simp[e0],by simp[e4],by simp[e5],M4,M5,by simpa using e7,da⟩,by omega⟩
  ·have nc:0<=iE x.qA q.id:=by omega
   obtain⟨q',jm,_⟩:=wJ (fun m=>decide (m.id=q.id)) x.qA (fun e=>by unfold iE at nc;omega);have ig:x.qA[(iE x.qA q.id).toNat]?=some q':=jm;have zl:iE x.qA q.id<x.qA.length:=CY _ _;have g3:(x.qA.map rD)[(iE x.qA q.id).toNat]?=some (rD q'):=by rw[yk,ig];rfl
   have z0:0<=iE x.qA q.id:=nc;have dp:max (iE x.qA q.id) 0=iE x.qA q.id:=by omega
   have wi:=Zx q' q (wa q' (yr ig));simp only[BD,rD]at wi;simp only[rD]at g3;by_cases ht:q'.same q=true
   ·have hf:(AO n x.qA) q=[]:=by
     unfold AO;rw[ig];dsimp only;rw[if_neg (by simp[ht])]
    rw[hf,yF]at jb;generalize ic:y.qA.map rD=ml at *
    generalize se:x.qA.map rD=mlx at *
    generalize iE x.qA q.id=z at *
    rw[ht]at wi;simp[lF,-J,-yb,-y9,y0,e_c,e0,e4,e5,m4,m5,fa,hw,ac,uf,g1,g3,z0,zl,dp,ec,hc,nc,wi,ht];refine jb _ ⟨by simp,⟨by simp[e0],by simp[e4],by simp[e5],M4,M5,by simpa using e7,da⟩,by omega⟩
   ·have hf:(AO n x.qA) q=[P7 n q]:=by
     unfold AO;rw[ig];dsimp only;rw[if_pos ⟨nc,by simpa using ht⟩]
    rw[hf]at jb;generalize ic:y.qA.map rD=ml at *
    generalize se:x.qA.map rD=mlx at *
    generalize iE x.qA q.id=z at *
    rw[Bool.eq_false_iff.2 ht]at wi;rcases e7 with⟨rfl,e7⟩|⟨h0,e7,kk,a7⟩
    ·have ga:pD 272 1=true:=by rw [XC]; omega
     simp[lF,-J,-yb,-y9,y0,e_c,e0,e4,e5,e7,m4,m5,fa,hw,ac,uf,g1,g3,ec,hc,nc,z0,zl,dp,wi,ht,ga];refine jb _ ⟨by simp,⟨by simp[e0],by simp[e4],by simp[e5],?_,?_,.inr ⟨by simp,?_,174,?_⟩,?_⟩,?_⟩
     ·simp[m4,GC,se,ID]
     ·simp[m5,GC,ic,ID]
     ·simp;rfl
     ·simp
     ·first|(simp;done)|(simp;omega)
     ·first|(simp;done)|(simp;omega)
    ·simp [lF,-J,-yb,-y9,y0,e_c,e0,e4,e5,e7,a7,tE,m4,m5,fa,hw,ac,uf,ub,g1,g3,ec,hc,nc,z0,zl,dp,wi,ht,ga,fb];refine jb _ ⟨by simp,⟨by simp [e0],by simp [e4],by simp [e5],?_,?_,.inr ⟨by simp,?_,174,?_⟩,?_⟩,?_⟩
     ·simp[m4,GC,se,ID]
     ·simp[m5,GC,ic,ID]
     ·simp;rfl
     ·simp
     ·first|(simp;done)|(simp;omega)
     ·first|(simp;done)|(simp;omega)
 ·have fa:¬ (i:Int)<y.qA.length:=by omega
  have:i=y.qA.length:=by omega
  subst this;rw[List.take_length]at e7 da;simp only[GC]at m5;simp[lF,-J,-yb,-y9,y0,e_c,e5,m5,fa];exact hk _ _ ⟨rfl,by simp[e0],by simp[e4],by simp[e5],M4,M5,by simpa using e7,da⟩
theorem bt_syn (hx:x.wA.length<=100)(hy:y.wA.length<=100){L:List aF}(hL:L.length<=500)(s:LC)(h:KO n x y L s)(e_c:(s.env 20).v=.int .i64 0)(k:Ex->LC->Option RV)
  (hk:∀s',KO n x y (L++iN n x.wA y.wA) s'->k (.exit 8) s'=some rv):HJ MC ZC kF s k=some rv:=by
 refine zE y.wA.length (fun i s=>(s.env 20).v=.int .i64 i/\KO n x y (L++iN n x.wA (y.wA.take i)) s/\(L++iN n x.wA (y.wA.take i)).length<=L.length+i) (fun e s=>e=.exit 8/\KO n x y (L++iN n x.wA y.wA) s) (fun i hi s k h ih hk=>?_) _ _ ⟨e_c,by simpa [iN]using h,by simp[iN]⟩ (fun e s h=>by obtain⟨rfl,h⟩:=h;exact hk _ h);obtain⟨e_c,hI,hn⟩:=h;obtain⟨env,mem,nx,obj,gh⟩:=s;obtain⟨e0,e4,e5,m4,m5,e7,da⟩:=hI;dsimp only at e_c e0 e4 e5 m4 m5 e7;have M4:=m4;have M5:=m5;refine wD ?_;by_cases ba:i<y.wA.length
 ·have fa:(i:Int)<y.wA.length:=by omega
  have hw:=rE (i:=i);obtain⟨q,hq⟩:∃q,y.wA[i]?=some q:=⟨_,yf ba⟩;have g1:(y.wA.map fD)[i]?=some (fD q):=by rw[yk,hq];rfl
  have AG:=ZH (JO n x.wA) hq;have ec:=G6 x q.id (by omega);simp only[BD,GC,Iv]at ec;simp only[GC]at m4 m5;simp only[fD]at g1;have jb:=ih ba;unfold iN at jb e7 hn da;rw[AG]at jb;generalize oe:L++(y.wA.take i).flatMap (JO n x.wA)=L0 at *
  rw[<- yx,oe]at jb;have ac:(y.wA.map fD).length=y.wA.length:=yc _;have uf:(x.wA.map fD).length=x.wA.length:=yc _;have ga:pD 272 (L0.length+1)=true:=by rw[XC];omega
  have fb:=tF L0;have ub:(L0.map qJ).length=L0.length:=yc _;by_cases hc:oE x.wA q.id<0
  ·have hf:(JO n x.wA) q=[]:=by
    unfold JO;split
    ·rw[if_neg (by omega)]
    ·rfl
   rw[hf,yF]at jb;have nc:¬0<=oE x.wA q.id:=by omega
   generalize ic:y.wA.map fD=ml at *
   generalize se:x.wA.map fD=mlx at *
   simp[kF,-J,-yb,-y9,y0,e_c,e0,e4,e5,m4,m5,fa,hw,ac,uf,g1,ec,hc,nc];refine jb _ ⟨by simp,⟨by simp[e0],by simp[e4],by simp[e5],M4,M5,by simpa using e7,da⟩,by omega⟩
  ·have nc:0<=oE x.wA q.id:=by omega
   obtain⟨q',jm,_⟩:=wJ (fun m=>decide (m.id=q.id)) x.wA (fun e=>by unfold oE at nc;omega);have ig:x.wA[(oE x.wA q.id).toNat]?=some q':=jm;have zl:oE x.wA q.id<x.wA.length:=CY _ _;have g3:(x.wA.map fD)[(oE x.wA q.id).toNat]?=some (fD q'):=by rw[yk,ig];rfl
   have z0:0<=oE x.wA q.id:=nc;have dp:max (oE x.wA q.id) 0=oE x.wA q.id:=by omega
   simp only[fD]at g3;by_cases ht:q'.name=q.name
   ·have hf:(JO n x.wA) q=[]:=by
     unfold JO;rw[ig];dsimp only;rw[if_neg (by simp[ht])]
    rw[hf,yF]at jb;generalize ic:y.wA.map fD=ml at *
    generalize se:x.wA.map fD=mlx at *
    generalize oE x.wA q.id=z at *
    skip
    simp[kF,-J,-yb,-y9,y0,e_c,e0,e4,e5,m4,m5,fa,hw,ac,uf,g1,g3,z0,zl,dp,ec,hc,nc,ht];refine jb _ ⟨by simp,⟨by simp[e0],by simp[e4],by simp[e5],M4,M5,by simpa using e7,da⟩,by omega⟩
   ·have hf:(JO n x.wA) q=[IR n q]:=by
     unfold JO;rw[ig];dsimp only;rw[if_pos ⟨nc,by simpa using ht⟩]
    rw[hf]at jb;generalize ic:y.wA.map fD=ml at *
    generalize se:x.wA.map fD=mlx at *
    generalize oE x.wA q.id=z at *
    skip
    rcases e7 with⟨rfl,e7⟩|⟨h0,e7,kk,a7⟩
    ·have ga:pD 272 1=true:=by rw [XC]; omega
     simp[kF,-J,-yb,-y9,y0,e_c,e0,e4,e5,e7,m4,m5,fa,hw,ac,uf,g1,g3,ec,hc,nc,z0,zl,dp,ht,ga];refine jb _ ⟨by simp,⟨by simp[e0],by simp[e4],by simp[e5],?_,?_,.inr ⟨by simp,?_,279,?_⟩,?_⟩,?_⟩
     ·simp[m4,GC,se,ID]
     ·simp[m5,GC,ic,ID]
     ·simp;rfl
     ·simp
     ·first|(simp;done)|(simp;omega)
     ·first|(simp;done)|(simp;omega)
    ·simp [kF,-J,-yb,-y9,y0,e_c,e0,e4,e5,e7,a7,tE,m4,m5,fa,hw,ac,uf,ub,g1,g3,ec,hc,nc,z0,zl,dp,ht,ga,fb];refine jb _ ⟨by simp,⟨by simp [e0],by simp [e4],by simp [e5],?_,?_,.inr ⟨by simp,?_,279,?_⟩,?_⟩,?_⟩
     ·simp[m4,GC,se,ID]
     ·simp[m5,GC,ic,ID]
     ·simp;rfl
     ·simp
     ·first|(simp;done)|(simp;omega)
     ·first|(simp;done)|(simp;omega)
 ·have fa:¬ (i:Int)<y.wA.length:=by omega
  have:i=y.wA.length:=by omega
  subst this;rw[List.take_length]at e7 da;simp only[GC]at m5;simp[kF,-J,-yb,-y9,y0,e_c,e5,m5,fa];exact hk _ _ ⟨rfl,by simp[e0],by simp[e4],by simp[e5],M4,M5,by simpa using e7,da⟩
end
def btS0:C:=.reg [oQ 4 10 1,oQ 5 10 2,oS 6 (.mv (.c (.sl true [])))]
def btS1:C:=.reg [oS 7 (.mv (.c (.sl true [])))]
def Dh:C:=oR [oF 26 1 4,oL 27 26,oF 28 1 5,oL 29 28,oB 30 .neq 27 29] (oD 30 (.reg [oM 31 7,oM 32 0,oF 33 1 5,oL 34 33,oS 35 (.build zza [(0,(1,(.c (.int .i64 6)))),(1,(1,(.t 32))),(3,(1,(.t 34)))]),oS 36 (.IA zza 1 [(0,(.t 35))]),oAp 37 54 25 272 31 36,oM 7 37]) .skip)
def G5:C:=oR [oF 38 2 4,oL 39 38,oF 40 2 5,oL 41 40,oB 42 .neq 39 41,oM 43 42,oFg 44 3 4 43 false,oP 45 44 43 false,oFg 46 3 5 43 false,oP 47 46 43 false,oBg 48 .neq 45 47 43 false,oPo 49 43 48,oM 50 49,oFg 51 4 4 50 false,oP 52 51 50 false,oFg 53 4 5 50 false,oP 54 53 50 false,oBg 55 .neq 52 54 50 false,oPo 56 50 55] (oD 56 (.reg [oM 57 7,oM 58 0,oF 59 2 5,oL 60 59,oF 61 3 5,oL 62 61,oF 63 4 5,oL 64 63,oS 65 (.build zza [(0,(1,(.c (.int .i64 7)))),(1,(1,(.t 58))),(19,(1,(.t 60))),(20,(1,(.t 62))),(21,(1,(.t 64)))]),oS 66 (.IA zza 1 [(0,(.t 65))]),oAp 67 54 25 272 57 66,oM 7 67]) .skip)
def Fh:C:=oR [oF 68 9 4,oL 69 68,oF 70 9 5,oL 71 70,oS 72 (.bin .neq true (.t 69) (.t 71))] (oD 72 (.reg [oM 73 7,oM 74 0,oF 75 9 5,oL 76 75,oS 77 (.build zza [(0,(1,(.c (.int .i64 8)))),(1,(1,(.t 74))),(22,(1,(.t 76)))]),oS 78 (.IA zza 1 [(0,(.t 77))]),oAp 79 54 25 272 73 78,oM 7 79]) .skip)
def K9:C:=oR [oF 80 7 4,oL 81 80,oF 82 7 5,oL 83 82,oB 84 .neq 81 83,oM 85 84,oFg 86 8 4 85 false,oP 87 86 85 false,oFg 88 8 5 85 false,oP 89 88 85 false,oBg 90 .neq 87 89 85 false,oPo 91 85 90] (oD 91 (.reg [oM 92 7,oM 93 0,oF 94 7 5,oL 95 94,oF 96 8 5,oL 97 96,oS 98 (.build zza [(0,(1,(.c (.int .i64 9)))),(1,(1,(.t 93))),(23,(1,(.t 95))),(24,(1,(.t 97)))]),oS 99 (.IA zza 1 [(0,(.t 98))]),oAp 100 54 25 272 92 99,oM 7 100]) .skip)
def btS6:C:=oR [oJ 8 0] (.block 0 (.loop NF))
def btS7:C:=oR [oJ 11 0] (.block 2 (.loop lF))
def btS8:C:=oR [oJ 14 0] (.block 4 (.loop BF))
def btS9:C:=oR [oJ 17 0] (.block 6 (.loop CF))
def Ah:C:=oR [oJ 20 0] (.block 8 (.loop kF))
def Sh:C:=oR [oJ 23 0] (.block 10 (.loop XF))
def btS12:C:=.reg [oM 310 7,oM 6 310]
def btS13:C:=.ret
theorem Gh:KI.code=.seq btS0 (.seq btS1 (.seq Dh (.seq G5 (.seq Fh (.seq K9 (.seq btS6 (.seq btS7 (.seq btS8 (.seq btS9 (.seq Ah (.seq Sh (.seq btS12 btS13)))))))))))):=rfl
section
variable {rv:RV} {n:Int} {x y:BC} {L:List aF} (hL:L.length<=500) (s:LC) (h:KO n x y L s) (k:Ex->LC->Option RV)
include rv n x y L hL s h k
theorem bt_Name
  (hk:∀s',KO n x y (L++if x.name=y.name then []else [AQ n y.name]) s'->k .nrm s'=some rv):Dh.run (sF MC ZC) (jH MC ZC) s k=some rv:=by
 obtain⟨env,mem,nx,obj,gh⟩:=s;obtain⟨e0,e4,e5,m4,m5,e7,da⟩:=h;dsimp only at e0 e4 e5 m4 m5 e7;have M4:=m4;have M5:=m5;simp only[GC]at m4 m5;have ga:pD 272 (L.length+1)=true:=by rw[XC];omega
 have fb:=tF L;have ub:(L.map qJ).length=L.length:=yc _;by_cases hc:x.name=y.name
 ·rw[if_pos hc,yF]at hk;have c0:=hc;simp[Dh,-J,-yb,-y9,y0,e0,e4,e5,m4,m5,c0];exact hk _ ⟨by simp[e0],by simp[e4],by simp[e5],M4,M5,by simpa using e7,da⟩
 ·rw [if_neg hc] at hk;have c0:=hc;rcases e7 with ⟨rfl,e7⟩ | ⟨h0,e7,kk,a7⟩
  ·have ga:pD 272 1=true:=by rw [XC]; omega
   simp[Dh,-J,-yb,-y9,y0,e0,e4,e5,e7,m4,m5,c0,ga];refine hk _ ⟨by simp[e0],by simp[e4],by simp[e5],?_,?_,.inr ⟨by simp,?_,37,?_⟩,?_⟩
   ·simp[m4,GC,ID]
   ·simp[m5,GC,ID]
   ·simp;rfl
   ·simp
   ·first|(simp;done)|(simp;omega)
  ·simp [Dh,-J,-yb,-y9,y0,e0,e4,e5,e7,a7,tE,m4,m5,ub,c0,ga,fb];refine hk _ ⟨by simp [e0],by simp [e4],by simp [e5],?_,?_,.inr ⟨by simp,?_,37,?_⟩,?_⟩
   ·simp[m4,GC,ID]
   ·simp[m5,GC,ID]
   ·simp;rfl
   ·simp
   ·first|(simp;done)|(simp;omega)
theorem bt_Bnds
  (hk:∀s',KO n x y (L++if x.low=y.low/\x.high=y.high/\x.max=y.max then []else [xP n y.low y.high y.max]) s'->k .nrm s'=some rv):G5.run (sF MC ZC) (jH MC ZC) s k=some rv:=by
 obtain⟨env,mem,nx,obj,gh⟩:=s;obtain⟨e0,e4,e5,m4,m5,e7,da⟩:=h;dsimp only at e0 e4 e5 m4 m5 e7;have M4:=m4;have M5:=m5;simp only[GC]at m4 m5;have ga:pD 272 (L.length+1)=true:=by rw[XC];omega
 have fb:=tF L;have ub:(L.map qJ).length=L.length:=yc _;by_cases hc:x.low=y.low/\x.high=y.high/\x.max=y.max
 ·rw[if_pos hc,yF]at hk;obtain⟨c0,c1,c2⟩:=hc;simp[G5,-J,-yb,-y9,y0,e0,e4,e5,m4,m5,c0,c1,c2];exact hk _ ⟨by simp[e0],by simp[e4],by simp[e5],M4,M5,by simpa using e7,da⟩
 ·rw [if_neg hc] at hk;by_cases c0:x.low=y.low
  ·skip
   by_cases c1:x.high=y.high
   ·skip
    have c2:¬x.max=y.max:=fun e=>hc ⟨c0,c1,e⟩
    rcases e7 with⟨rfl,e7⟩|⟨h0,e7,kk,a7⟩
    ·have ga:pD 272 1=true:=by rw [XC]; omega
     simp[G5,-J,-yb,-y9,y0,e0,e4,e5,e7,m4,m5,c0,c1,c2,ga];refine hk _ ⟨by simp[e0],by simp[e4],by simp[e5],?_,?_,.inr ⟨by simp,?_,67,?_⟩,?_⟩
     ·simp[m4,GC,ID]
     ·simp[m5,GC,ID]
     ·simp;rfl
     ·simp
     ·first|(simp;done)|(simp;omega)
    ·simp [G5,-J,-yb,-y9,y0,e0,e4,e5,e7,a7,tE,m4,m5,ub,c0,c1,c2,ga,fb];refine hk _ ⟨by simp [e0],by simp [e4],by simp [e5],?_,?_,.inr ⟨by simp,?_,67,?_⟩,?_⟩
     ·simp[m4,GC,ID]
     ·simp[m5,GC,ID]
     ·simp;rfl
     ·simp
     ·first|(simp;done)|(simp;omega)
   ·skip
    rcases e7 with⟨rfl,e7⟩|⟨h0,e7,kk,a7⟩
    ·have ga:pD 272 1=true:=by rw [XC]; omega
     simp[G5,-J,-yb,-y9,y0,e0,e4,e5,e7,m4,m5,c0,c1,ga];refine hk _ ⟨by simp[e0],by simp[e4],by simp[e5],?_,?_,.inr ⟨by simp,?_,67,?_⟩,?_⟩
     ·simp[m4,GC,ID]
     ·simp[m5,GC,ID]
     ·simp;rfl
     ·simp
     ·first|(simp;done)|(simp;omega)
    ·simp [G5,-J,-yb,-y9,y0,e0,e4,e5,e7,a7,tE,m4,m5,ub,c0,c1,ga,fb];refine hk _ ⟨by simp [e0],by simp [e4],by simp [e5],?_,?_,.inr ⟨by simp,?_,67,?_⟩,?_⟩
     ·simp[m4,GC,ID]
     ·simp[m5,GC,ID]
     ·simp;rfl
     ·simp
     ·first|(simp;done)|(simp;omega)
  ·skip
   rcases e7 with⟨rfl,e7⟩|⟨h0,e7,kk,a7⟩
   ·have ga:pD 272 1=true:=by rw [XC]; omega
    simp[G5,-J,-yb,-y9,y0,e0,e4,e5,e7,m4,m5,c0,ga];refine hk _ ⟨by simp[e0],by simp[e4],by simp[e5],?_,?_,.inr ⟨by simp,?_,67,?_⟩,?_⟩
    ·simp[m4,GC,ID]
    ·simp[m5,GC,ID]
    ·simp;rfl
    ·simp
    ·first|(simp;done)|(simp;omega)
   ·simp [G5,-J,-yb,-y9,y0,e0,e4,e5,e7,a7,tE,m4,m5,ub,c0,ga,fb];refine hk _ ⟨by simp [e0],by simp [e4],by simp [e5],?_,?_,.inr ⟨by simp,?_,67,?_⟩,?_⟩
    ·simp[m4,GC,ID]
    ·simp[m5,GC,ID]
    ·simp;rfl
    ·simp
    ·first|(simp;done)|(simp;omega)
theorem bt_Open
  (hk:∀s',KO n x y (L++if x.opn=y.opn then []else [SQ n y.opn]) s'->k .nrm s'=some rv):Fh.run (sF MC ZC) (jH MC ZC) s k=some rv:=by
 obtain⟨env,mem,nx,obj,gh⟩:=s;obtain⟨e0,e4,e5,m4,m5,e7,da⟩:=h;dsimp only at e0 e4 e5 m4 m5 e7;have M4:=m4;have M5:=m5;simp only[GC]at m4 m5;have ga:pD 272 (L.length+1)=true:=by rw[XC];omega
 have fb:=tF L;have ub:(L.map qJ).length=L.length:=yc _;by_cases hc:x.opn=y.opn
 ·rw[if_pos hc,yF]at hk;have c0:=hc;simp[Fh,-J,-yb,-y9,y0,e0,e4,e5,m4,m5,c0];exact hk _ ⟨by simp[e0],by simp[e4],by simp[e5],M4,M5,by simpa using e7,da⟩
 ·rw [if_neg hc] at hk;cases hb:x.opn <;> cases uq:y.opn <;> rw [hb] at m4 hc <;> rw [uq] at m5 hc hk
  all_goals first|exact absurd rfl hc|skip
  all_goals
   rcases e7 with⟨rfl,e7⟩|⟨h0,e7,kk,a7⟩
   ·have ga:pD 272 1=true:=by rw [XC]; omega
    simp[Fh,-J,-yb,-y9,y0,e0,e4,e5,e7,m4,m5,hc,ga];refine hk _ ⟨by simp[e0],by simp[e4],by simp[e5],?_,?_,.inr ⟨by simp,?_,79,?_⟩,?_⟩
    ·simp[m4,hb,GC,ID]
    ·simp[m5,uq,GC,ID]
    ·simp;rfl
    ·simp
    ·first|(simp;done)|(simp;omega)
   ·simp [Fh,-J,-yb,-y9,y0,e0,e4,e5,e7,a7,tE,m4,m5,ub,hc,ga,fb];refine hk _ ⟨by simp [e0],by simp [e4],by simp [e5],?_,?_,.inr ⟨by simp,?_,79,?_⟩,?_⟩
    ·simp[m4,hb,GC,ID]
    ·simp[m5,uq,GC,ID]
    ·simp;rfl
    ·simp
    ·first|(simp;done)|(simp;omega)
theorem bt_Uses
  (hk:∀s',KO n x y (L++if x.key=y.key/\x.elem=y.elem then []else [cP n y.key y.elem]) s'->k .nrm s'=some rv):K9.run (sF MC ZC) (jH MC ZC) s k=some rv:=by
 obtain⟨env,mem,nx,obj,gh⟩:=s;obtain⟨e0,e4,e5,m4,m5,e7,da⟩:=h;dsimp only at e0 e4 e5 m4 m5 e7;have M4:=m4;have M5:=m5;simp only[GC]at m4 m5;have ga:pD 272 (L.length+1)=true:=by rw[XC];omega
 have fb:=tF L;have ub:(L.map qJ).length=L.length:=yc _;by_cases hc:x.key=y.key/\x.elem=y.elem
 ·rw[if_pos hc,yF]at hk;obtain⟨c0,c1⟩:=hc;simp[K9,-J,-yb,-y9,y0,e0,e4,e5,m4,m5,c0,c1];exact hk _ ⟨by simp[e0],by simp[e4],by simp[e5],M4,M5,by simpa using e7,da⟩
 ·rw [if_neg hc] at hk;by_cases c0:x.key=y.key
  ·skip
   have c1:¬x.elem=y.elem:=fun e=>hc ⟨c0,e⟩
   rcases e7 with⟨rfl,e7⟩|⟨h0,e7,kk,a7⟩
   ·have ga:pD 272 1=true:=by rw [XC]; omega
    simp[K9,-J,-yb,-y9,y0,e0,e4,e5,e7,m4,m5,c0,c1,ga];refine hk _ ⟨by simp[e0],by simp[e4],by simp[e5],?_,?_,.inr ⟨by simp,?_,100,?_⟩,?_⟩
    ·simp[m4,GC,ID]
    ·simp[m5,GC,ID]
    ·simp;rfl
    ·simp
    ·first|(simp;done)|(simp;omega)
   ·simp [K9,-J,-yb,-y9,y0,e0,e4,e5,e7,a7,tE,m4,m5,ub,c0,c1,ga,fb];refine hk _ ⟨by simp [e0],by simp [e4],by simp [e5],?_,?_,.inr ⟨by simp,?_,100,?_⟩,?_⟩
    ·simp[m4,GC,ID]
    ·simp[m5,GC,ID]
    ·simp;rfl
    ·simp
    ·first|(simp;done)|(simp;omega)
  ·skip
   rcases e7 with⟨rfl,e7⟩|⟨h0,e7,kk,a7⟩
   ·have ga:pD 272 1=true:=by rw [XC]; omega
    simp[K9,-J,-yb,-y9,y0,e0,e4,e5,e7,m4,m5,c0,ga];refine hk _ ⟨by simp[e0],by simp[e4],by simp[e5],?_,?_,.inr ⟨by simp,?_,100,?_⟩,?_⟩
    ·simp[m4,GC,ID]
    ·simp[m5,GC,ID]
    ·simp;rfl
    ·simp
    ·first|(simp;done)|(simp;omega)
   ·simp [K9,-J,-yb,-y9,y0,e0,e4,e5,e7,a7,tE,m4,m5,ub,c0,ga,fb];refine hk _ ⟨by simp [e0],by simp [e4],by simp [e5],?_,?_,.inr ⟨by simp,?_,100,?_⟩,?_⟩
    ·simp[m4,GC,ID]
    ·simp[m5,GC,ID]
    ·simp;rfl
    ·simp
    ·first|(simp;done)|(simp;omega)
end
section
variable {rv:RV} {n:Int} {x y:BC} (hx:x.qA.length<=100) (hy:y.qA.length<=100)
include rv n x y hx hy
theorem btl_rem {L:List aF}(hL:L.length<=500)(s:LC)(h:KO n x y L s)(k:Ex->LC->Option RV)
  (hk:∀s',KO n x y (L++tN n y.qA x.qA) s'->k .nrm s'=some rv):btS6.run (sF MC ZC) (jH MC ZC) s k=some rv:=by
 obtain⟨env,mem,nx,obj,gh⟩:=s;obtain⟨e0,e4,e5,m4,m5,e7,da⟩:=h;dsimp only at e0 e4 e5 m4 m5 e7;simp[btS6,-J,-yb,-y9,y0];refine bt_rem (n:=n) (x:=x) (y:=y) (L:=L) hx hy hL _ ⟨by simp[e0],by simp[e4],by simp[e5],m4,m5,by simpa using e7,da⟩ (by simp) _ (fun s' h'=>?_);simp[-J,-yb,-y9,y0];exact hk s' h'
theorem btl_chg (wa:∀m∈x.qA,m.ok){L:List aF}(hL:L.length<=500)(s:LC)(h:KO n x y L s)(k:Ex->LC->Option RV)
  (hk:∀s',KO n x y (L++XM n x.qA y.qA) s'->k .nrm s'=some rv):btS7.run (sF MC ZC) (jH MC ZC) s k=some rv:=by
 obtain⟨env,mem,nx,obj,gh⟩:=s;obtain⟨e0,e4,e5,m4,m5,e7,da⟩:=h;dsimp only at e0 e4 e5 m4 m5 e7;simp[btS7,-J,-yb,-y9,y0];refine bt_chg (n:=n) (x:=x) (y:=y) (L:=L) hx hy wa hL _ ⟨by simp[e0],by simp[e4],by simp[e5],m4,m5,by simpa using e7,da⟩ (by simp) _ (fun s' h'=>?_);simp[-J,-yb,-y9,y0];exact hk s' h'
theorem btl_add {L:List aF}(hL:L.length<=500)(s:LC)(h:KO n x y L s)(k:Ex->LC->Option RV)
  (hk:∀s',KO n x y (L++ZM n x.qA y.qA) s'->k .nrm s'=some rv):btS8.run (sF MC ZC) (jH MC ZC) s k=some rv:=by
 obtain⟨env,mem,nx,obj,gh⟩:=s;obtain⟨e0,e4,e5,m4,m5,e7,da⟩:=h;dsimp only at e0 e4 e5 m4 m5 e7;simp[btS8,-J,-yb,-y9,y0];refine bt_add (n:=n) (x:=x) (y:=y) (L:=L) hx hy hL _ ⟨by simp[e0],by simp[e4],by simp[e5],m4,m5,by simpa using e7,da⟩ (by simp) _ (fun s' h'=>?_);simp[-J,-yb,-y9,y0];exact hk s' h'
end
section
variable {rv:RV} {n:Int} {x y:BC} (hx:x.wA.length<=100) (hy:y.wA.length<=100) {L:List aF} (hL:L.length<=500) (s:LC) (h:KO n x y L s) (k:Ex->LC->Option RV)
include rv n x y hx hy L hL s h k
theorem btl_drp
  (hk:∀s',KO n x y (L++CM n y.wA x.wA) s'->k .nrm s'=some rv):btS9.run (sF MC ZC) (jH MC ZC) s k=some rv:=by
 obtain⟨env,mem,nx,obj,gh⟩:=s;obtain⟨e0,e4,e5,m4,m5,e7,da⟩:=h;dsimp only at e0 e4 e5 m4 m5 e7;simp[btS9,-J,-yb,-y9,y0];refine bt_drp (n:=n) (x:=x) (y:=y) (L:=L) hx hy hL _ ⟨by simp[e0],by simp[e4],by simp[e5],m4,m5,by simpa using e7,da⟩ (by simp) _ (fun s' h'=>?_);simp[-J,-yb,-y9,y0];exact hk s' h'
theorem btl_syn
  (hk:∀s',KO n x y (L++iN n x.wA y.wA) s'->k .nrm s'=some rv):Ah.run (sF MC ZC) (jH MC ZC) s k=some rv:=by
 obtain⟨env,mem,nx,obj,gh⟩:=s;obtain⟨e0,e4,e5,m4,m5,e7,da⟩:=h;dsimp only at e0 e4 e5 m4 m5 e7;simp[Ah,-J,-yb,-y9,y0];refine bt_syn (n:=n) (x:=x) (y:=y) (L:=L) hx hy hL _ ⟨by simp[e0],by simp[e4],by simp[e5],m4,m5,by simpa using e7,da⟩ (by simp) _ (fun s' h'=>?_);simp[-J,-yb,-y9,y0];exact hk s' h'
theorem btl_sya
  (hk:∀s',KO n x y (L++uN n x.wA y.wA) s'->k .nrm s'=some rv):Sh.run (sF MC ZC) (jH MC ZC) s k=some rv:=by
 obtain⟨env,mem,nx,obj,gh⟩:=s;obtain⟨e0,e4,e5,m4,m5,e7,da⟩:=h;dsimp only at e0 e4 e5 m4 m5 e7;simp[Sh,-J,-yb,-y9,y0];refine bt_sya (n:=n) (x:=x) (y:=y) (L:=L) hx hy hL _ ⟨by simp[e0],by simp[e4],by simp[e5],m4,m5,by simpa using e7,da⟩ (by simp) _ (fun s' h'=>?_);simp[-J,-yb,-y9,y0];exact hk s' h'
end
theorem gU {α β:Type}(f:α->List β)(hf:∀x,(f x).length<=1):∀l:List α,(l.flatMap f).length<=l.length
 | []=>by simp
 |x::l=>by
  rw[Y0a,yj,yG];have:=hf x;have:=gU f hf l;omega
theorem lW (n:Int)(q l:List ED):(tN n q l).length<=l.length:=gU _ (fun x=>by split<;>simp) l
theorem uV (n:Int)(q l:List ED):(XM n q l).length<=l.length:=gU _ (fun x=>by unfold AO;split;split<;>simp;simp) l
theorem HU (n:Int)(q l:List ED):(ZM n q l).length<=l.length:=gU _ (fun x=>by split<;>simp) l
theorem pV (n:Int)(q l:List PG):(CM n q l).length<=l.length:=gU _ (fun x=>by split<;>simp) l
theorem nW (n:Int)(q l:List PG):(iN n q l).length<=l.length:=gU _ (fun x=>by unfold JO;split;split<;>simp;simp) l
theorem g9 (n:Int)(q l:List PG):(uN n q l).length<=l.length:=gU _ (fun x=>by split<;>simp) l
theorem eK {β:Type}(c:Prop)[Decidable c](e:β):(if c then []else [e]).length<=1:=by split<;>simp
def SM (L:List aF):AV:=.sl L.isEmpty (L.map qJ)
theorem OutA.val {L:List aF}{v:SC}(h:OutA L v):v.v=SM L:=by
 rcases h with⟨rfl,h⟩|⟨h0,h,_⟩
 ·rw[h];rfl
 ·rw [h,SM];cases L with
  |nil=>exact absurd rfl h0
  |cons=>rfl
theorem H9 (n:Int)(x y:BC)(h1:x.qA.length<=40)(h2:y.qA.length<=40)(h3:x.wA.length<=40)(h4:y.wA.length<=40)(wa:∀m∈x.qA,m.ok):BD 24 [.int .i64 n,.agg (GC x),.agg (GC y)] (SM (AM n x y)):=by
 refine tD (c:=KI) rfl rfl ?_;rw[Gh];have l1:=eK (x.name=y.name) (AQ n y.name);have l2:=eK (x.low=y.low/\x.high=y.high/\x.max=y.max) (xP n y.low y.high y.max);have l3:=eK (x.opn=y.opn) (SQ n y.opn);have l4:=eK (x.key=y.key/\x.elem=y.elem) (cP n y.key y.elem);have l5:=lW n y.qA x.qA;have l6:=uV n x.qA y.qA;have l7:=HU n x.qA y.qA;have l8:=pV n y.wA x.wA;have l9:=nW n x.wA y.wA;simp only[wK];have t1:(GC x).length=10:=rfl;have t2:(GC y).length=10:=rfl;simp[btS0,btS1,-J,-yb,-y9,y0,t1,t2];refine bt_Name (n:=n) (x:=x) (y:=y) (L:=[]) (by simp) _ ⟨by simp,by simp,by simp,by simp,by simp,.inl ⟨rfl,by simp⟩,by simp⟩ _ (fun s h=>?_);rw[Y00]at h;rw[HF,wK];refine bt_Bnds (by omega) s h _ (fun s h=>?_);rw[HF,wK];refine bt_Open (by simp only[yj];omega) s h _ (fun s h=>?_);rw[HF,wK];refine bt_Uses (by simp only[yj];omega) s h _ (fun s h=>?_);rw[HF,wK];refine btl_rem (by omega) (by omega) (by simp only[yj];omega) s h _ (fun s h=>?_);rw[HF,wK];refine btl_chg (by omega) (by omega) wa (by simp only[yj];omega) s h _ (fun s h=>?_);rw[HF,wK];refine btl_add (by omega) (by omega) (by simp only[yj];omega) s h _ (fun s h=>?_);rw[HF,wK];refine btl_drp (by omega) (by omega) (by simp only[yj];omega) s h _ (fun s h=>?_);rw[HF,wK];refine btl_syn (by omega) (by omega) (by simp only[yj];omega) s h _ (fun s h=>?_);rw[HF,wK];refine btl_sya (by omega) (by omega) (by simp only[yj];omega) s h _ (fun s h=>?_);have e7:=h.e7.val;simp only[yx]at e7;have hd:AM n x y=iP n x y++(tN n y.qA x.qA++(XM n x.qA y.qA++(ZM n x.qA y.qA++(CM n y.wA x.wA++(iN n x.wA y.wA++uN n x.wA y.wA))))):=rfl;rw[iP,yx,yx,yx]at hd;rw[<- hd]at e7;generalize AM n x y=D at *
 simp only[SM]at e7 ⊢;have hr:KI.res=[.tmp 6]:=rfl;simp[btS12,btS13,-J,-yb,-y9,y0,e7,hr]
def Qb (L:List aF)(s:LC):Prop:=(L=[]/\s.env 7=⟨.sl true [],.ex⟩)\/(L≠[]/\∃d N,30<=d/\1<N/\N<s.next/\(s.env 7).v=.ref d N 25 0 L.length L.length/\s.mem d N=some (qD (L.map qJ)))
structure pN (n:Int)(x y:BC)(L:List aF)(s:LC):Prop where
 e0:(s.env 0).v=.int .i64 n
 e4:(s.env 4).v=.ptr 4 1 0
 e5:(s.env 5).v=.ptr 5 1 0
 m4:s.mem 4 1=some ((GC x).map (⟨·,.no⟩))
 m5:s.mem 5 1=some ((GC y).map (⟨·,.no⟩))
 e7:Qb L s
 nx:1<s.next
 len:L.length<=1000
theorem Ck (e:aF):(qJ e).all AV.tA=true:=rfl
theorem dJ (L:List aF):KG (qD (L.map qJ)) 25 0 L.length=some (L.map qJ):=by
 have:=AE (tF L) (BH _ L Ck)
 rwa [yc]at this
theorem Qb.of {L:List aF}{s s':LC}(h:Qb L s)(h7:s'.env 7=s.env 7)(hn:s.next<=s'.next)(hm:∀d N,30<=d->N<s.next->s'.mem d N=s.mem d N):Qb L s':=by
 rcases h with⟨h0,h⟩|⟨h0,d,N,h1,h2,h3,h4,h5⟩
 ·exact .inl ⟨h0,h7.trans h⟩
 ·exact .inr ⟨h0,d,N,h1,h2,Y06 h3 hn,by rw[h7];exact h4,(hm d N h1 h3).trans h5⟩
theorem df_rem {rv:RV}{n:Int}{x y:BC}(hx:x.qA.length<=100)(hy:y.qA.length<=100){L:List aF}(hL:L.length<=500)(s:LC)(h:pN n x y L s)(e_l:(s.env 99).v=.sl x.mn (x.qA.map rD))(e_n:(s.env 100).v=.int .i64 x.qA.length)(e_c:(s.env 101).v=.int .i64 0)(k:Ex->LC->Option RV)
  (hk:∀s',pN n x y (L++tN n y.qA x.qA) s'->k (.exit 0) s'=some rv):HJ aE LD ZF s k=some rv:=by
 refine UH x.qA.length (fun i s=>(s.env 99).v=.sl x.mn (x.qA.map rD)/\(s.env 100).v=.int .i64 x.qA.length/\(s.env 101).v=.int .i64 i/\pN n x y (L++tN n y.qA (x.qA.take i)) s/\(L++tN n y.qA (x.qA.take i)).length<=L.length+i) (fun e s=>e=.exit 0/\pN n x y (L++tN n y.qA x.qA) s) (fun i hi s k h ih hk=>?_) _ _ ⟨e_l,e_n,e_c,by simpa [tN]using h,by simp[tN]⟩ (fun e s h=>by obtain⟨rfl,h⟩:=h;exact hk _ h);obtain⟨e_l,e_n,e_c,hI,hn⟩:=h;obtain⟨env,mem,nx,obj,gh⟩:=s;obtain⟨e0,e4,e5,m4,m5,e7,XA,da⟩:=hI;dsimp only at e_l e_n e_c e0 e4 e5 m4 m5 XA;have M4:=m4;have M5:=m5;refine wD ?_;by_cases ba:i<x.qA.length
 ·have fa:(i:Int)<x.qA.length:=by omega
  have hw:=rE (i:=i);obtain⟨q,hq⟩:∃q,x.qA[i]?=some q:=⟨_,yf ba⟩;have g1:(x.qA.map rD)[i]?=some (rD q):=by rw[yk,hq];rfl
  have AG:=ZH (fun m=>if iE y.qA m.id<0 then [xZ n m.id]else []) hq;have ec:=fJ (BS y q.id (by omega));simp only[GR,GC]at ec;simp only[GC]at m4 m5;simp only[rD]at g1;have jb:=ih ba;unfold tN at jb e7 hn da;rw[AG]at jb;generalize oe:L++(x.qA.take i).flatMap (fun m=>if iE y.qA m.id<0 then [xZ n m.id]else [])=L0 at *
  rw[<- yx,oe]at jb;have ac:(x.qA.map rD).length=x.qA.length:=yc _;generalize ic:x.qA.map rD=ml at *
  have ga:pD 272 (L0.length+1)=true:=by rw[XC];omega
  have fb:=tF L0;have ub:(L0.map qJ).length=L0.length:=yc _;by_cases hc:iE y.qA q.id<0
  ·rw [if_pos hc] at jb;rcases e7 with ⟨rfl,e7⟩ | ⟨h0,d,N,d1,d2,d3,e7,d4⟩
   ·have ga:pD 272 1=true:=by rw [XC]; omega
    dsimp only at e7;simp[ZF,-J,-yb,-y9,y0,-eD,-KC,FC,HC,JC,DC,FC,HC,DC,e_l,e_n,e_c,e0,e4,e5,e7,m4,m5,fa,hw,ac,g1,ec,hc,ga];refine jb _ ⟨by simp[e_l],by simp[e_n],by simp,⟨by simp[e0],by simp[e4],by simp[e5],?_,?_,.inr ⟨by simp,116,nx+1+1+1,by omega,by omega,?_,?_,?_⟩,?_,?_⟩,?_⟩
    ·simp[m4,GC,ic]
    ·simp[m5,GC]
    ·simp
    ·simp
    ·simp;rfl
    ·dsimp only;omega
    ·first|(simp;done)|(simp;omega)
    ·first|(simp;done)|(simp;omega)
   ·dsimp only at d3 e7 d4;have n1:¬ N=nx + 1:=by omega
    have n2:¬4=d:=by omega
    have n3:¬5=d:=by omega
    have n4:¬d=0:=by omega
    have sd:=dJ L0;simp[n1,n4,ZF,-J,-yb,-y9,y0,-eD,-KC,FC,HC,JC,DC,FC,HC,DC,e_l,e_n,e_c,e0,e4,e5,e7,d4,m4,m5,fa,hw,ac,g1,ec,hc,ga,fb,ub,sd];refine jb _ ⟨by simp[e_l],by simp[e_n],by simp,⟨by simp[e0],by simp[e4,n2],by simp[e5,n3],?_,?_,.inr ⟨by simp,116,nx+1+1+1,by omega,by omega,?_,?_,?_⟩,?_,?_⟩,?_⟩
    ·simp[m4,GC,ic,n2]
    ·simp[m5,GC,n3]
    ·simp
    ·simp
    ·simp;rfl
    ·dsimp only;omega
    ·first|(simp;done)|(simp;omega)
    ·first|(simp;done)|(simp;omega)
  ·rw [if_neg hc,yF] at jb;simp [ZF,-J,-yb,-y9,y0,-eD,-KC,FC,HC,JC,DC,FC,HC,DC,e_l,e_n,e_c,e0,e4,e5,m4,m5,fa,hw,ac,g1,ec,hc];refine jb _ ⟨by simp [e_l],by simp [e_n],by simp,⟨by simp [e0],by simp [e4],by simp [e5],by simp [M4],by simp [M5],e7.of ?_ ?_ ?_,?_,da⟩,by omega⟩
   ·simp
   ·dsimp only;omega
   ·intro d N h1 h2;have h3:¬ N=nx + 1:=by dsimp only at h2; omega
    simp[h3]
   ·dsimp only;omega
 ·have fa:¬ (i:Int)<x.qA.length:=by omega
  have:i=x.qA.length:=by omega
  subst this;rw[List.take_length]at e7 da;simp[ZF,-J,-yb,-y9,y0,-eD,-KC,FC,HC,JC,DC,e_c,e_n,fa];exact hk _ _ ⟨rfl,by simp[e0],by simp[e4],by simp[e5],M4,M5,e7.of (by simp) (by simp) (fun _ _ _ _=>rfl),by dsimp only;omega,da⟩
section
variable {rv:RV} {n:Int} {x y:BC}
include rv n x y
theorem df_add (hx:x.qA.length<=100)(hy:y.qA.length<=100){L:List aF}(hL:L.length<=500)(s:LC)(h:pN n x y L s)(e_l:(s.env 149).v=.sl y.mn (y.qA.map rD))(e_n:(s.env 150).v=.int .i64 y.qA.length)(e_c:(s.env 151).v=.int .i64 0)(k:Ex->LC->Option RV)
  (hk:∀s',pN n x y (L++ZM n x.qA y.qA) s'->k (.exit 4) s'=some rv):HJ aE LD LF s k=some rv:=by
 refine UH y.qA.length (fun i s=>(s.env 149).v=.sl y.mn (y.qA.map rD)/\(s.env 150).v=.int .i64 y.qA.length/\(s.env 151).v=.int .i64 i/\pN n x y (L++ZM n x.qA (y.qA.take i)) s/\(L++ZM n x.qA (y.qA.take i)).length<=L.length+i) (fun e s=>e=.exit 4/\pN n x y (L++ZM n x.qA y.qA) s) (fun i hi s k h ih hk=>?_) _ _ ⟨e_l,e_n,e_c,by simpa [ZM]using h,by simp[ZM]⟩ (fun e s h=>by obtain⟨rfl,h⟩:=h;exact hk _ h);obtain⟨e_l,e_n,e_c,hI,hn⟩:=h;obtain⟨env,mem,nx,obj,gh⟩:=s;obtain⟨e0,e4,e5,m4,m5,e7,XA,da⟩:=hI;dsimp only at e_l e_n e_c e0 e4 e5 m4 m5 XA;have M4:=m4;have M5:=m5;refine wD ?_;by_cases ba:i<y.qA.length
 ·have fa:(i:Int)<y.qA.length:=by omega
  have hw:=rE (i:=i);obtain⟨q,hq⟩:∃q,y.qA[i]?=some q:=⟨_,yf ba⟩;have g1:(y.qA.map rD)[i]?=some (rD q):=by rw[yk,hq];rfl
  have AG:=ZH (fun m=>if iE x.qA m.id<0 then [lZ n m]else []) hq;have ec:=fJ (BS x q.id (by omega));simp only[GR,GC]at ec;simp only[GC]at m4 m5;simp only[rD]at g1;have jb:=ih ba;unfold ZM at jb e7 hn da;rw[AG]at jb;generalize oe:L++(y.qA.take i).flatMap (fun m=>if iE x.qA m.id<0 then [lZ n m]else [])=L0 at *
  rw[<- yx,oe]at jb;have ac:(y.qA.map rD).length=y.qA.length:=yc _;generalize ic:y.qA.map rD=ml at *
  have ga:pD 272 (L0.length+1)=true:=by rw[XC];omega
  have fb:=tF L0;have ub:(L0.map qJ).length=L0.length:=yc _;by_cases hc:iE x.qA q.id<0
  ·rw [if_pos hc] at jb;rcases e7 with ⟨rfl,e7⟩ | ⟨h0,d,N,d1,d2,d3,e7,d4⟩
   ·have ga:pD 272 1=true:=by rw [XC]; omega
    dsimp only at e7;simp[LF,-J,-yb,-y9,y0,-eD,-KC,FC,HC,JC,DC,FC,HC,DC,e_l,e_n,e_c,e0,e4,e5,e7,m4,m5,fa,hw,ac,g1,ec,hc,ga];refine jb _ ⟨by simp[e_l],by simp[e_n],by simp,⟨by simp[e0],by simp[e4],by simp[e5],?_,?_,.inr ⟨by simp,165,nx+1+1+1,by omega,by omega,?_,?_,?_⟩,?_,?_⟩,?_⟩
    ·simp[m4,GC,ic]
    ·simp[m5,GC,ic]
    ·simp
    ·simp
    ·simp;rfl
    ·dsimp only;omega
    ·first|(simp;done)|(simp;omega)
    ·first|(simp;done)|(simp;omega)
   ·dsimp only at d3 e7 d4;have n1:¬ N=nx + 1:=by omega
    have n2:¬4=d:=by omega
    have n3:¬5=d:=by omega
    have n4:¬d=0:=by omega
    have sd:=dJ L0;simp[n1,n4,LF,-J,-yb,-y9,y0,-eD,-KC,FC,HC,JC,DC,FC,HC,DC,e_l,e_n,e_c,e0,e4,e5,e7,d4,m4,m5,fa,hw,ac,g1,ec,hc,ga,fb,ub,sd];refine jb _ ⟨by simp[e_l],by simp[e_n],by simp,⟨by simp[e0],by simp[e4,n2],by simp[e5,n3],?_,?_,.inr ⟨by simp,165,nx+1+1+1,by omega,by omega,?_,?_,?_⟩,?_,?_⟩,?_⟩
    ·simp[m4,GC,ic,n2]
    ·simp[m5,GC,ic,n3]
    ·simp
    ·simp
    ·simp;rfl
    ·dsimp only;omega
    ·first|(simp;done)|(simp;omega)
    ·first|(simp;done)|(simp;omega)
  ·rw [if_neg hc,yF] at jb;simp [LF,-J,-yb,-y9,y0,-eD,-KC,FC,HC,JC,DC,FC,HC,DC,e_l,e_n,e_c,e0,e4,e5,m4,m5,fa,hw,ac,g1,ec,hc];refine jb _ ⟨by simp [e_l],by simp [e_n],by simp,⟨by simp [e0],by simp [e4],by simp [e5],by simp [M4],by simp [M5],e7.of ?_ ?_ ?_,?_,da⟩,by omega⟩
   ·simp
   ·dsimp only;omega
   ·intro d N h1 h2;have h3:¬ N=nx + 1:=by dsimp only at h2; omega
    simp[h3]
   ·dsimp only;omega
 ·have fa:¬ (i:Int)<y.qA.length:=by omega
  have:i=y.qA.length:=by omega
  subst this;rw[List.take_length]at e7 da;simp[LF,-J,-yb,-y9,y0,-eD,-KC,FC,HC,JC,DC,e_c,e_n,fa];exact hk _ _ ⟨rfl,by simp[e0],by simp[e4],by simp[e5],M4,M5,e7.of (by simp) (by simp) (fun _ _ _ _=>rfl),by dsimp only;omega,da⟩
theorem df_drp (hx:x.wA.length<=100)(hy:y.wA.length<=100){L:List aF}(hL:L.length<=500)(s:LC)(h:pN n x y L s)(e_l:(s.env 168).v=.sl x.sn (x.wA.map fD))(e_n:(s.env 169).v=.int .i64 x.wA.length)(e_c:(s.env 170).v=.int .i64 0)(k:Ex->LC->Option RV)
  (hk:∀s',pN n x y (L++CM n y.wA x.wA) s'->k (.exit 6) s'=some rv):HJ aE LD KF s k=some rv:=by
 refine UH x.wA.length (fun i s=>(s.env 168).v=.sl x.sn (x.wA.map fD)/\(s.env 169).v=.int .i64 x.wA.length/\(s.env 170).v=.int .i64 i/\pN n x y (L++CM n y.wA (x.wA.take i)) s/\(L++CM n y.wA (x.wA.take i)).length<=L.length+i) (fun e s=>e=.exit 6/\pN n x y (L++CM n y.wA x.wA) s) (fun i hi s k h ih hk=>?_) _ _ ⟨e_l,e_n,e_c,by simpa [CM]using h,by simp[CM]⟩ (fun e s h=>by obtain⟨rfl,h⟩:=h;exact hk _ h);obtain⟨e_l,e_n,e_c,hI,hn⟩:=h;obtain⟨env,mem,nx,obj,gh⟩:=s;obtain⟨e0,e4,e5,m4,m5,e7,XA,da⟩:=hI;dsimp only at e_l e_n e_c e0 e4 e5 m4 m5 XA;have M4:=m4;have M5:=m5;refine wD ?_;by_cases ba:i<x.wA.length
 ·have fa:(i:Int)<x.wA.length:=by omega
  have hw:=rE (i:=i);obtain⟨q,hq⟩:∃q,x.wA[i]?=some q:=⟨_,yf ba⟩;have g1:(x.wA.map fD)[i]?=some (fD q):=by rw[yk,hq];rfl
  have AG:=ZH (fun m=>if oE y.wA m.id<0 then [fU n m.id]else []) hq;have ec:=fJ (aV y q.id (by omega));simp only[GR,GC]at ec;simp only[GC]at m4 m5;simp only[fD]at g1;have jb:=ih ba;unfold CM at jb e7 hn da;rw[AG]at jb;generalize oe:L++(x.wA.take i).flatMap (fun m=>if oE y.wA m.id<0 then [fU n m.id]else [])=L0 at *
  rw[<- yx,oe]at jb;have ac:(x.wA.map fD).length=x.wA.length:=yc _;generalize ic:x.wA.map fD=ml at *
  have ga:pD 272 (L0.length+1)=true:=by rw[XC];omega
  have fb:=tF L0;have ub:(L0.map qJ).length=L0.length:=yc _;by_cases hc:oE y.wA q.id<0
  ·rw [if_pos hc] at jb;rcases e7 with ⟨rfl,e7⟩ | ⟨h0,d,N,d1,d2,d3,e7,d4⟩
   ·have ga:pD 272 1=true:=by rw [XC]; omega
    dsimp only at e7;simp[KF,-J,-yb,-y9,y0,-eD,-KC,FC,HC,JC,DC,FC,HC,DC,e_l,e_n,e_c,e0,e4,e5,e7,m4,m5,fa,hw,ac,g1,ec,hc,ga];refine jb _ ⟨by simp[e_l],by simp[e_n],by simp,⟨by simp[e0],by simp[e4],by simp[e5],?_,?_,.inr ⟨by simp,185,nx+1+1+1,by omega,by omega,?_,?_,?_⟩,?_,?_⟩,?_⟩
    ·simp[m4,GC,ic]
    ·simp[m5,GC,ic]
    ·simp
    ·simp
    ·simp;rfl
    ·dsimp only;omega
    ·first|(simp;done)|(simp;omega)
    ·first|(simp;done)|(simp;omega)
   ·dsimp only at d3 e7 d4;have n1:¬ N=nx + 1:=by omega
    have n2:¬4=d:=by omega
    have n3:¬5=d:=by omega
    have n4:¬d=0:=by omega
    have sd:=dJ L0;simp[n1,n4,KF,-J,-yb,-y9,y0,-eD,-KC,FC,HC,JC,DC,FC,HC,DC,e_l,e_n,e_c,e0,e4,e5,e7,d4,m4,m5,fa,hw,ac,g1,ec,hc,ga,fb,ub,sd];refine jb _ ⟨by simp[e_l],by simp[e_n],by simp,⟨by simp[e0],by simp[e4,n2],by simp[e5,n3],?_,?_,.inr ⟨by simp,185,nx+1+1+1,by omega,by omega,?_,?_,?_⟩,?_,?_⟩,?_⟩
    ·simp[m4,GC,ic,n2]
    ·simp[m5,GC,ic,n3]
    ·simp
    ·simp
    ·simp;rfl
    ·dsimp only;omega
    ·first|(simp;done)|(simp;omega)
    ·first|(simp;done)|(simp;omega)
  ·rw [if_neg hc,yF] at jb;simp [KF,-J,-yb,-y9,y0,-eD,-KC,FC,HC,JC,DC,FC,HC,DC,e_l,e_n,e_c,e0,e4,e5,m4,m5,fa,hw,ac,g1,ec,hc];refine jb _ ⟨by simp [e_l],by simp [e_n],by simp,⟨by simp [e0],by simp [e4],by simp [e5],by simp [M4],by simp [M5],e7.of ?_ ?_ ?_,?_,da⟩,by omega⟩
   ·simp
   ·dsimp only;omega
   ·intro d N h1 h2;have h3:¬ N=nx + 1:=by dsimp only at h2; omega
    simp[h3]
   ·dsimp only;omega
 ·have fa:¬ (i:Int)<x.wA.length:=by omega
  have:i=x.wA.length:=by omega
  subst this;rw[List.take_length]at e7 da;simp[KF,-J,-yb,-y9,y0,-eD,-KC,FC,HC,JC,DC,e_c,e_n,fa];exact hk _ _ ⟨rfl,by simp[e0],by simp[e4],by simp[e5],M4,M5,e7.of (by simp) (by simp) (fun _ _ _ _=>rfl),by dsimp only;omega,da⟩
theorem df_sya (hx:x.wA.length<=100)(hy:y.wA.length<=100){L:List aF}(hL:L.length<=500)(s:LC)(h:pN n x y L s)(e_l:(s.env 219).v=.sl y.sn (y.wA.map fD))(e_n:(s.env 220).v=.int .i64 y.wA.length)(e_c:(s.env 221).v=.int .i64 0)(k:Ex->LC->Option RV)
  (hk:∀s',pN n x y (L++uN n x.wA y.wA) s'->k (.exit 10) s'=some rv):HJ aE LD JF s k=some rv:=by
 refine UH y.wA.length (fun i s=>(s.env 219).v=.sl y.sn (y.wA.map fD)/\(s.env 220).v=.int .i64 y.wA.length/\(s.env 221).v=.int .i64 i/\pN n x y (L++uN n x.wA (y.wA.take i)) s/\(L++uN n x.wA (y.wA.take i)).length<=L.length+i) (fun e s=>e=.exit 10/\pN n x y (L++uN n x.wA y.wA) s) (fun i hi s k h ih hk=>?_) _ _ ⟨e_l,e_n,e_c,by simpa [uN]using h,by simp[uN]⟩ (fun e s h=>by obtain⟨rfl,h⟩:=h;exact hk _ h);obtain⟨e_l,e_n,e_c,hI,hn⟩:=h;obtain⟨env,mem,nx,obj,gh⟩:=s;obtain⟨e0,e4,e5,m4,m5,e7,XA,da⟩:=hI;dsimp only at e_l e_n e_c e0 e4 e5 m4 m5 XA;have M4:=m4;have M5:=m5;refine wD ?_;by_cases ba:i<y.wA.length
 ·have fa:(i:Int)<y.wA.length:=by omega
  have hw:=rE (i:=i);obtain⟨q,hq⟩:∃q,y.wA[i]?=some q:=⟨_,yf ba⟩;have g1:(y.wA.map fD)[i]?=some (fD q):=by rw[yk,hq];rfl
  have AG:=ZH (fun m=>if oE x.wA m.id<0 then [IR n m]else []) hq;have ec:=fJ (aV x q.id (by omega));simp only[GR,GC]at ec;simp only[GC]at m4 m5;simp only[fD]at g1;have jb:=ih ba;unfold uN at jb e7 hn da;rw[AG]at jb;generalize oe:L++(y.wA.take i).flatMap (fun m=>if oE x.wA m.id<0 then [IR n m]else [])=L0 at *
  rw[<- yx,oe]at jb;have ac:(y.wA.map fD).length=y.wA.length:=yc _;generalize ic:y.wA.map fD=ml at *
  have ga:pD 272 (L0.length+1)=true:=by rw[XC];omega
  have fb:=tF L0;have ub:(L0.map qJ).length=L0.length:=yc _;by_cases hc:oE x.wA q.id<0
  ·rw [if_pos hc] at jb;rcases e7 with ⟨rfl,e7⟩ | ⟨h0,d,N,d1,d2,d3,e7,d4⟩
   ·have ga:pD 272 1=true:=by rw [XC]; omega
    dsimp only at e7;simp[JF,-J,-yb,-y9,y0,-eD,-KC,FC,HC,JC,DC,FC,HC,DC,e_l,e_n,e_c,e0,e4,e5,e7,m4,m5,fa,hw,ac,g1,ec,hc,ga];refine jb _ ⟨by simp[e_l],by simp[e_n],by simp,⟨by simp[e0],by simp[e4],by simp[e5],?_,?_,.inr ⟨by simp,235,nx+1+1+1,by omega,by omega,?_,?_,?_⟩,?_,?_⟩,?_⟩
    ·simp[m4,GC,ic]
    ·simp[m5,GC,ic]
    ·simp
    ·simp
    ·simp;rfl
    ·dsimp only;omega
    ·first|(simp;done)|(simp;omega)
    ·first|(simp;done)|(simp;omega)
   ·dsimp only at d3 e7 d4;have n1:¬ N=nx + 1:=by omega
    have n2:¬4=d:=by omega
    have n3:¬5=d:=by omega
    have n4:¬d=0:=by omega
    have sd:=dJ L0;simp[n1,n4,JF,-J,-yb,-y9,y0,-eD,-KC,FC,HC,JC,DC,FC,HC,DC,e_l,e_n,e_c,e0,e4,e5,e7,d4,m4,m5,fa,hw,ac,g1,ec,hc,ga,fb,ub,sd];refine jb _ ⟨by simp[e_l],by simp[e_n],by simp,⟨by simp[e0],by simp[e4,n2],by simp[e5,n3],?_,?_,.inr ⟨by simp,235,nx+1+1+1,by omega,by omega,?_,?_,?_⟩,?_,?_⟩,?_⟩
    ·simp[m4,GC,ic,n2]
    ·simp[m5,GC,ic,n3]
    ·simp
    ·simp
    ·simp;rfl
    ·dsimp only;omega
    ·first|(simp;done)|(simp;omega)
    ·first|(simp;done)|(simp;omega)
  ·rw [if_neg hc,yF] at jb;simp [JF,-J,-yb,-y9,y0,-eD,-KC,FC,HC,JC,DC,FC,HC,DC,e_l,e_n,e_c,e0,e4,e5,m4,m5,fa,hw,ac,g1,ec,hc];refine jb _ ⟨by simp [e_l],by simp [e_n],by simp,⟨by simp [e0],by simp [e4],by simp [e5],by simp [M4],by simp [M5],e7.of ?_ ?_ ?_,?_,da⟩,by omega⟩
   ·simp
   ·dsimp only;omega
   ·intro d N h1 h2;have h3:¬ N=nx + 1:=by dsimp only at h2; omega
    simp[h3]
   ·dsimp only;omega
 ·have fa:¬ (i:Int)<y.wA.length:=by omega
  have:i=y.wA.length:=by omega
  subst this;rw[List.take_length]at e7 da;simp[JF,-J,-yb,-y9,y0,-eD,-KC,FC,HC,JC,DC,e_c,e_n,fa];exact hk _ _ ⟨rfl,by simp[e0],by simp[e4],by simp[e5],M4,M5,e7.of (by simp) (by simp) (fun _ _ _ _=>rfl),by dsimp only;omega,da⟩
theorem df_chg (hx:x.qA.length<=100)(hy:y.qA.length<=100)(wa:∀m∈x.qA,m.ok){L:List aF}(hL:L.length<=500)(s:LC)(h:pN n x y L s)(e_l:(s.env 119).v=.sl y.mn (y.qA.map rD))(e_n:(s.env 120).v=.int .i64 y.qA.length)(e_c:(s.env 121).v=.int .i64 0)(k:Ex->LC->Option RV)
  (hk:∀s',pN n x y (L++XM n x.qA y.qA) s'->k (.exit 2) s'=some rv):HJ aE LD gF s k=some rv:=by
 refine UH y.qA.length (fun i s=>(s.env 119).v=.sl y.mn (y.qA.map rD)/\(s.env 120).v=.int .i64 y.qA.length/\(s.env 121).v=.int .i64 i/\pN n x y (L++XM n x.qA (y.qA.take i)) s/\(L++XM n x.qA (y.qA.take i)).length<=L.length+i) (fun e s=>e=.exit 2/\pN n x y (L++XM n x.qA y.qA) s) (fun i hi s k h ih hk=>?_) _ _ ⟨e_l,e_n,e_c,by simpa [XM]using h,by simp[XM]⟩ (fun e s h=>by obtain⟨rfl,h⟩:=h;exact hk _ h);obtain⟨e_l,e_n,e_c,hI,hn⟩:=h;obtain⟨env,mem,nx,obj,gh⟩:=s;obtain⟨e0,e4,e5,m4,m5,e7,XA,da⟩:=hI;dsimp only at e_l e_n e_c e0 e4 e5 m4 m5 XA;have M4:=m4;have M5:=m5;refine wD ?_;by_cases ba:i<y.qA.length
 ·have fa:(i:Int)<y.qA.length:=by omega
  have hw:=rE (i:=i);obtain⟨q,hq⟩:∃q,y.qA[i]?=some q:=⟨_,yf ba⟩;have g1:(y.qA.map rD)[i]?=some (rD q):=by rw[yk,hq];rfl
  have AG:=ZH (AO n x.qA) hq;have ec:=fJ (BS x q.id (by omega));simp only[GR,GC]at ec;simp only[GC]at m4 m5;simp only[rD]at g1;have jb:=ih ba;unfold XM at jb e7 hn da;rw[AG]at jb;generalize oe:L++(y.qA.take i).flatMap (AO n x.qA)=L0 at *
  rw[<- yx,oe]at jb;have ac:(y.qA.map rD).length=y.qA.length:=yc _;have ga:pD 272 (L0.length+1)=true:=by rw[XC];omega
  have fb:=tF L0;have ub:(L0.map qJ).length=L0.length:=yc _;have uf:(x.qA.map rD).length=x.qA.length:=yc _;by_cases hc:iE x.qA q.id<0
  ·have hf:(AO n x.qA) q=[]:=by
    unfold AO;split
    ·rw[if_neg (by omega)]
    ·rfl
   rw[hf,yF]at jb;have nc:¬0<=iE x.qA q.id:=by omega
   generalize ic:y.qA.map rD=ml at *
   generalize se:x.qA.map rD=mlx at *
   simp[gF,-J,-yb,-y9,y0,-eD,-KC,FC,HC,JC,DC,FC,HC,DC,e_l,e_n,e_c,e0,e4,e5,m4,m5,fa,hw,ac,uf,nc, g1,ec,hc];refine jb _ ⟨by simp[e_l],by simp[e_n],by simp,⟨by simp[e0],by simp[e4],by simp[e5],by simp[M4],by simp[M5],e7.of ?_ ?_ ?_,?_,da⟩,by omega⟩
   ·simp
   ·dsimp only;omega
   ·intro d N h1 h2;have h3:¬ N=nx + 1:=by dsimp only at h2; omega
    simp[h3]
   ·dsimp only;omega
  ·have nc:0<=iE x.qA q.id:=by omega
   obtain⟨q',jm,_⟩:=wJ (fun m=>decide (m.id=q.id)) x.qA (fun e=>by unfold iE at nc;omega);have ig:x.qA[(iE x.qA q.id).toNat]?=some q':=jm;have zl:iE x.qA q.id<x.qA.length:=CY _ _;have g3:(x.qA.map rD)[(iE x.qA q.id).toNat]?=some (rD q'):=by rw[yk,ig];rfl
   have z0:0<=iE x.qA q.id:=nc;have wi:=fJ (Qk q' q (wa q' (yr ig)));simp only[GR,rD]at wi;simp only[rD]at g3;by_cases ht:q'.same q=true
   ·have hf:(AO n x.qA) q=[]:=by
     unfold AO;rw[ig];dsimp only;rw[if_neg (by simp[ht])]
    rw[hf,yF]at jb;generalize ic:y.qA.map rD=ml at *
    generalize se:x.qA.map rD=mlx at *
    generalize iE x.qA q.id=z at *
    rw[ht]at wi;simp[gF,-J,-yb,-y9,y0,-eD,-KC,FC,HC,JC,DC,FC,HC,DC,e_l,e_n,e_c,e0,e4,e5,m4,m5,fa,hw,ac,uf,g3,z0,zl,wi,ht,nc, g1,ec,hc];refine jb _ ⟨by simp[e_l],by simp[e_n],by simp,⟨by simp[e0],by simp[e4],by simp[e5],by simp[M4],by simp[M5],e7.of ?_ ?_ ?_,?_,da⟩,by omega⟩
    ·simp
    ·dsimp only;omega
    ·intro d N h1 h2;have h3:¬ N=nx + 1:=by dsimp only at h2; omega
     simp[h3]
    ·dsimp only;omega
   ·have hf:(AO n x.qA) q=[P7 n q]:=by
     unfold AO;rw[ig];dsimp only;rw[if_pos ⟨nc,by simpa using ht⟩]
    rw[hf]at jb;generalize ic:y.qA.map rD=ml at *
    generalize se:x.qA.map rD=mlx at *
    generalize iE x.qA q.id=z at *
    rw[Bool.eq_false_iff.2 ht]at wi;rcases e7 with⟨rfl,e7⟩|⟨h0,d,N,d1,d2,d3,e7,d4⟩
    ·have ga:pD 272 1=true:=by rw [XC]; omega
     dsimp only at e7;simp[gF,-J,-yb,-y9,y0,-eD,-KC,FC,HC,JC,DC,FC,HC,DC,e_l,e_n,e_c,e0,e4,e5,e7,m4,m5,fa,hw,ac,uf,g3,z0,zl,wi,ht,nc, g1,ec,hc,ga];refine jb _ ⟨by simp[e_l],by simp[e_n],by simp,⟨by simp[e0],by simp[e4],by simp[e5],?_,?_,.inr ⟨by simp,146,nx+1+1+1+1,by omega,by omega,?_,?_,?_⟩,?_,?_⟩,?_⟩
     ·simp[m4,GC,ic,se]
     ·simp[m5,GC,ic,se]
     ·simp
     ·simp
     ·simp;rfl
     ·dsimp only;omega
     ·first|(simp;done)|(simp;omega)
     ·first|(simp;done)|(simp;omega)
    ·dsimp only at d3 e7 d4;have n1:¬ N=nx + 1:=by omega
     have n2:¬4=d:=by omega
     have n3:¬5=d:=by omega
     have n4:¬d=0:=by omega
     have sd:=dJ L0;simp[n1,n4,gF,-J,-yb,-y9,y0,-eD,-KC,FC,HC,JC,DC,FC,HC,DC,e_l,e_n,e_c,e0,e4,e5,e7,d4,m4,m5,fa,hw,ac,uf,g3,z0,zl,wi,ht,nc, g1,ec,hc,ga,fb,ub,sd];refine jb _ ⟨by simp[e_l],by simp[e_n],by simp,⟨by simp[e0],by simp[e4,n2],by simp[e5,n3],?_,?_,.inr ⟨by simp,146,nx+1+1+1+1,by omega,by omega,?_,?_,?_⟩,?_,?_⟩,?_⟩
     ·simp[m4,GC,ic,se,n2]
     ·simp[m5,GC,ic,se,n3]
     ·simp
     ·simp
     ·simp;rfl
     ·dsimp only;omega
     ·first|(simp;done)|(simp;omega)
     ·first|(simp;done)|(simp;omega)
 ·have fa:¬ (i:Int)<y.qA.length:=by omega
  have:i=y.qA.length:=by omega
  subst this;rw[List.take_length]at e7 da;simp[gF,-J,-yb,-y9,y0,-eD,-KC,FC,HC,JC,DC,e_c,e_n,fa];exact hk _ _ ⟨rfl,by simp[e0],by simp[e4],by simp[e5],M4,M5,e7.of (by simp) (by simp) (fun _ _ _ _=>rfl),by dsimp only;omega,da⟩
theorem df_syn (hx:x.wA.length<=100)(hy:y.wA.length<=100){L:List aF}(hL:L.length<=500)(s:LC)(h:pN n x y L s)(e_l:(s.env 188).v=.sl y.sn (y.wA.map fD))(e_n:(s.env 189).v=.int .i64 y.wA.length)(e_c:(s.env 190).v=.int .i64 0)(k:Ex->LC->Option RV)
  (hk:∀s',pN n x y (L++iN n x.wA y.wA) s'->k (.exit 8) s'=some rv):HJ aE LD fF s k=some rv:=by
 refine UH y.wA.length (fun i s=>(s.env 188).v=.sl y.sn (y.wA.map fD)/\(s.env 189).v=.int .i64 y.wA.length/\(s.env 190).v=.int .i64 i/\pN n x y (L++iN n x.wA (y.wA.take i)) s/\(L++iN n x.wA (y.wA.take i)).length<=L.length+i) (fun e s=>e=.exit 8/\pN n x y (L++iN n x.wA y.wA) s) (fun i hi s k h ih hk=>?_) _ _ ⟨e_l,e_n,e_c,by simpa [iN]using h,by simp[iN]⟩ (fun e s h=>by obtain⟨rfl,h⟩:=h;exact hk _ h);obtain⟨e_l,e_n,e_c,hI,hn⟩:=h;obtain⟨env,mem,nx,obj,gh⟩:=s;obtain⟨e0,e4,e5,m4,m5,e7,XA,da⟩:=hI;dsimp only at e_l e_n e_c e0 e4 e5 m4 m5 XA;have M4:=m4;have M5:=m5;refine wD ?_;by_cases ba:i<y.wA.length
 ·have fa:(i:Int)<y.wA.length:=by omega
  have hw:=rE (i:=i);obtain⟨q,hq⟩:∃q,y.wA[i]?=some q:=⟨_,yf ba⟩;have g1:(y.wA.map fD)[i]?=some (fD q):=by rw[yk,hq];rfl
  have AG:=ZH (JO n x.wA) hq;have ec:=fJ (aV x q.id (by omega));simp only[GR,GC]at ec;simp only[GC]at m4 m5;simp only[fD]at g1;have jb:=ih ba;unfold iN at jb e7 hn da;rw[AG]at jb;generalize oe:L++(y.wA.take i).flatMap (JO n x.wA)=L0 at *
  rw[<- yx,oe]at jb;have ac:(y.wA.map fD).length=y.wA.length:=yc _;have ga:pD 272 (L0.length+1)=true:=by rw[XC];omega
  have fb:=tF L0;have ub:(L0.map qJ).length=L0.length:=yc _;have uf:(x.wA.map fD).length=x.wA.length:=yc _;by_cases hc:oE x.wA q.id<0
  ·have hf:(JO n x.wA) q=[]:=by
    unfold JO;split
    ·rw[if_neg (by omega)]
    ·rfl
   rw[hf,yF]at jb;have nc:¬0<=oE x.wA q.id:=by omega
   generalize ic:y.wA.map fD=ml at *
   generalize se:x.wA.map fD=mlx at *
   simp[fF,-J,-yb,-y9,y0,-eD,-KC,FC,HC,JC,DC,FC,HC,DC,e_l,e_n,e_c,e0,e4,e5,m4,m5,fa,hw,ac,uf,nc, g1,ec,hc];refine jb _ ⟨by simp[e_l],by simp[e_n],by simp,⟨by simp[e0],by simp[e4],by simp[e5],by simp[M4],by simp[M5],e7.of ?_ ?_ ?_,?_,da⟩,by omega⟩
   ·simp
   ·dsimp only;omega
   ·intro d N h1 h2;have h3:¬ N=nx + 1:=by dsimp only at h2; omega
    simp[h3]
   ·dsimp only;omega
  ·have nc:0<=oE x.wA q.id:=by omega
   obtain⟨q',jm,_⟩:=wJ (fun m=>decide (m.id=q.id)) x.wA (fun e=>by unfold oE at nc;omega);have ig:x.wA[(oE x.wA q.id).toNat]?=some q':=jm;have zl:oE x.wA q.id<x.wA.length:=CY _ _;have g3:(x.wA.map fD)[(oE x.wA q.id).toNat]?=some (fD q'):=by rw[yk,ig];rfl
   have z0:0<=oE x.wA q.id:=nc;simp only[fD]at g3;by_cases ht:q'.name=q.name
   ·have hf:(JO n x.wA) q=[]:=by
     unfold JO;rw[ig];dsimp only;rw[if_neg (by simp[ht])]
    rw[hf,yF]at jb;generalize ic:y.wA.map fD=ml at *
    generalize se:x.wA.map fD=mlx at *
    generalize oE x.wA q.id=z at *
    simp[fF,-J,-yb,-y9,y0,-eD,-KC,FC,HC,JC,DC,FC,HC,DC,e_l,e_n,e_c,e0,e4,e5,m4,m5,fa,hw,ac,uf,g3,z0,zl,ht,nc, g1,ec,hc];refine jb _ ⟨by simp[e_l],by simp[e_n],by simp,⟨by simp[e0],by simp[e4],by simp[e5],by simp[M4],by simp[M5],e7.of ?_ ?_ ?_,?_,da⟩,by omega⟩
    ·simp
    ·dsimp only;omega
    ·intro d N h1 h2;have h3:¬ N=nx + 1:=by dsimp only at h2; omega
     simp[h3]
    ·dsimp only;omega
   ·have hf:(JO n x.wA) q=[IR n q]:=by
     unfold JO;rw[ig];dsimp only;rw[if_pos ⟨nc,by simpa using ht⟩]
    rw[hf]at jb;generalize ic:y.wA.map fD=ml at *
    generalize se:x.wA.map fD=mlx at *
    generalize oE x.wA q.id=z at *
    rcases e7 with⟨rfl,e7⟩|⟨h0,d,N,d1,d2,d3,e7,d4⟩
    ·have ga:pD 272 1=true:=by rw [XC]; omega
     dsimp only at e7;simp[fF,-J,-yb,-y9,y0,-eD,-KC,FC,HC,JC,DC,FC,HC,DC,e_l,e_n,e_c,e0,e4,e5,e7,m4,m5,fa,hw,ac,uf,g3,z0,zl,ht,nc, g1,ec,hc,ga];refine jb _ ⟨by simp[e_l],by simp[e_n],by simp,⟨by simp[e0],by simp[e4],by simp[e5],?_,?_,.inr ⟨by simp,216,nx+1+1+1+1,by omega,by omega,?_,?_,?_⟩,?_,?_⟩,?_⟩
     ·simp[m4,GC,ic,se]
     ·simp[m5,GC,ic,se]
     ·simp
     ·simp
     ·simp;rfl
     ·dsimp only;omega
     ·first|(simp;done)|(simp;omega)
     ·first|(simp;done)|(simp;omega)
    ·dsimp only at d3 e7 d4;have n1:¬ N=nx + 1:=by omega
     have n2:¬4=d:=by omega
     have n3:¬5=d:=by omega
     have n4:¬d=0:=by omega
     have sd:=dJ L0;simp[n1,n4,fF,-J,-yb,-y9,y0,-eD,-KC,FC,HC,JC,DC,FC,HC,DC,e_l,e_n,e_c,e0,e4,e5,e7,d4,m4,m5,fa,hw,ac,uf,g3,z0,zl,ht,nc, g1,ec,hc,ga,fb,ub,sd];refine jb _ ⟨by simp[e_l],by simp[e_n],by simp,⟨by simp[e0],by simp[e4,n2],by simp[e5,n3],?_,?_,.inr ⟨by simp,216,nx+1+1+1+1,by omega,by omega,?_,?_,?_⟩,?_,?_⟩,?_⟩
     ·simp[m4,GC,ic,se,n2]
     ·simp[m5,GC,ic,se,n3]
     ·simp
     ·simp
     ·simp;rfl
     ·dsimp only;omega
     ·first|(simp;done)|(simp;omega)
     ·first|(simp;done)|(simp;omega)
 ·have fa:¬ (i:Int)<y.wA.length:=by omega
  have:i=y.wA.length:=by omega
  subst this;rw[List.take_length]at e7 da;simp[fF,-J,-yb,-y9,y0,-eD,-KC,FC,HC,JC,DC,e_c,e_n,fa];exact hk _ _ ⟨rfl,by simp[e0],by simp[e4],by simp[e5],M4,M5,e7.of (by simp) (by simp) (fun _ _ _ _=>rfl),by dsimp only;omega,da⟩
end
def dfS0:C:=.reg [oQ 4 10 1,oQ 5 10 2,oS 6 (.mv (.c (.sl true [])))]
def dfS1:C:=.reg [oS 7 (.mv (.c (.sl true [])))]
def Oj:C:=oR [oF 23 1 4,oL 24 23,oF 25 1 5,oL 26 25,oB 27 .neq 24 26] (oD 27 (.reg [oM 28 7,oM 29 0,oF 30 1 5,oL 31 30,oS 32 (.build zza [(0,(1,(.c (.int .i64 6)))),(1,(1,(.t 29))),(3,(1,(.t 31)))]),oS 33 (.IA zza 1 [(0,(.t 32))]),oS 34 (.RA .any 54 25 272 (.t 28) (.t 33)),oM 7 34]) .skip)
def J5:C:=oR [oF 35 2 4,oL 36 35,oF 37 2 5,oL 38 37,oB 39 .neq 36 38,oM 40 39,oFg 41 3 4 40 false,oP 42 41 40 false,oFg 43 3 5 40 false,oP 44 43 40 false,oBg 45 .neq 42 44 40 false,oPo 46 40 45,oM 47 46,oFg 48 4 4 47 false,oP 49 48 47 false,oFg 50 4 5 47 false,oP 51 50 47 false,oBg 52 .neq 49 51 47 false,oPo 53 47 52] (oD 53 (.reg [oM 54 7,oM 55 0,oF 56 2 5,oL 57 56,oF 58 3 5,oL 59 58,oF 60 4 5,oL 61 60,oS 62 (.build zza [(0,(1,(.c (.int .i64 7)))),(1,(1,(.t 55))),(19,(1,(.t 57))),(20,(1,(.t 59))),(21,(1,(.t 61)))]),oS 63 (.IA zza 1 [(0,(.t 62))]),oS 64 (.RA .any 54 25 272 (.t 54) (.t 63)),oM 7 64]) .skip)
def Pj:C:=oR [oF 65 9 4,oL 66 65,oF 67 9 5,oL 68 67,oS 69 (.bin .neq true (.t 66) (.t 68))] (oD 69 (.reg [oM 70 7,oM 71 0,oF 72 9 5,oL 73 72,oS 74 (.build zza [(0,(1,(.c (.int .i64 8)))),(1,(1,(.t 71))),(22,(1,(.t 73)))]),oS 75 (.IA zza 1 [(0,(.t 74))]),oS 76 (.RA .any 54 25 272 (.t 70) (.t 75)),oM 7 76]) .skip)
def M9:C:=oR [oF 77 7 4,oL 78 77,oF 79 7 5,oL 80 79,oB 81 .neq 78 80,oM 82 81,oFg 83 8 4 82 false,oP 84 83 82 false,oFg 85 8 5 82 false,oP 86 85 82 false,oBg 87 .neq 84 86 82 false,oPo 88 82 87] (oD 88 (.reg [oM 89 7,oM 90 0,oF 91 7 5,oL 92 91,oF 93 8 5,oL 94 93,oS 95 (.build zza [(0,(1,(.c (.int .i64 9)))),(1,(1,(.t 90))),(23,(1,(.t 92))),(24,(1,(.t 94)))]),oS 96 (.IA zza 1 [(0,(.t 95))]),oS 97 (.RA .any 54 25 272 (.t 89) (.t 96)),oM 7 97]) .skip)
def dfS6:C:=oR [oF 98 6 4,oL 99 98,oH 100 99,oJ 101 0] (.block 0 (.loop ZF))
def dfS7:C:=oR [oF 118 6 5,oL 119 118,oH 120 119,oJ 121 0] (.block 2 (.loop gF))
def dfS8:C:=oR [oF 148 6 5,oL 149 148,oH 150 149,oJ 151 0] (.block 4 (.loop LF))
def dfS9:C:=oR [oF 167 5 4,oL 168 167,oH 169 168,oJ 170 0] (.block 6 (.loop KF))
def Rj:C:=oR [oF 187 5 5,oL 188 187,oH 189 188,oJ 190 0] (.block 8 (.loop fF))
def Tj:C:=oR [oF 218 5 5,oL 219 218,oH 220 219,oJ 221 0] (.block 10 (.loop JF))
def Fu:C:=oR [oM 237 7,oH 238 237,oJ 239 0] (.block 12 (.loop cH))
def Uj:C:=.reg [oM 255 7,oM 6 255]
def Ij:C:=.ret
theorem Aj:JH.code=.seq dfS0 (.seq dfS1 (.seq Oj (.seq J5 (.seq Pj (.seq M9 (.seq dfS6 (.seq dfS7 (.seq dfS8 (.seq dfS9 (.seq Rj (.seq Tj (.seq Fu (.seq Uj Ij))))))))))))):=rfl
section
variable {rv:RV} {n:Int} {x y:BC} {L:List aF} (hL:L.length<=500) (s:LC) (h:pN n x y L s) (k:Ex->LC->Option RV)
include rv n x y L hL s h k
theorem df_Name
  (hk:∀s',pN n x y (L++if x.name=y.name then []else [AQ n y.name]) s'->k .nrm s'=some rv):Oj.run (sF aE LD) (jH aE LD) s k=some rv:=by
 obtain⟨env,mem,nx,obj,gh⟩:=s;obtain⟨e0,e4,e5,m4,m5,e7,XA,da⟩:=h;dsimp only at e0 e4 e5 m4 m5 XA;have M4:=m4;have M5:=m5;simp only[GC]at m4 m5;have ga:pD 272 (L.length+1)=true:=by rw[XC];omega
 have fb:=tF L;have ub:(L.map qJ).length=L.length:=yc _;by_cases hc:x.name=y.name
 ·rw[if_pos hc,yF]at hk;have c0:=hc;simp[Oj,-J,-yb,-y9,y0,-eD,-KC,FC,HC,JC,DC,FC,HC,e0,e4,e5,m4,m5,c0];exact hk _ ⟨by simp[e0],by simp[e4],by simp[e5],M4,M5,e7.of (by simp) (by simp) (fun _ _ _ _=>rfl),by dsimp only;omega,da⟩
 ·rw [if_neg hc] at hk;have c0:=hc;rcases e7 with ⟨rfl,e7⟩ | ⟨h0,d,N,d1,d2,d3,e7,d4⟩
  ·have ga:pD 272 1=true:=by rw [XC]; omega
   dsimp only at e7;simp[Oj,-J,-yb,-y9,y0,-eD,-KC,FC,HC,JC,DC,FC,HC,e0,e4,e5,e7,m4,m5,c0,ga];refine hk _ ⟨by simp[e0],by simp[e4],by simp[e5],?_,?_,.inr ⟨by simp,34,nx+1,by omega,by omega,?_,?_,?_⟩,?_,?_⟩
   ·simp[m4,GC]
   ·simp[m5,GC]
   ·simp
   ·simp
   ·simp;rfl
   ·dsimp only;omega
   ·first|(simp;done)|(simp;omega)
  ·dsimp only at d3 e7 d4;have n2:¬ 4=d:=by omega
   have n3:¬5=d:=by omega
   have n4:¬d=0:=by omega
   have sd:=dJ L;simp[Oj,-J,-yb,-y9,y0,-eD,-KC,FC,HC,JC,DC,FC,HC,n4,e0,e4,e5,e7,d4,m4,m5,ub,sd,c0,ga,fb];refine hk _ ⟨by simp[e0],by simp[e4,n2],by simp[e5,n3],?_,?_,.inr ⟨by simp,34,nx+1,by omega,by omega,?_,?_,?_⟩,?_,?_⟩
   ·simp[m4,GC,n2]
   ·simp[m5,GC,n3]
   ·simp
   ·simp
   ·simp;rfl
   ·dsimp only;omega
   ·first|(simp;done)|(simp;omega)
theorem df_Bnds
  (hk:∀s',pN n x y (L++if x.low=y.low/\x.high=y.high/\x.max=y.max then []else [xP n y.low y.high y.max]) s'->k .nrm s'=some rv):J5.run (sF aE LD) (jH aE LD) s k=some rv:=by
 obtain⟨env,mem,nx,obj,gh⟩:=s;obtain⟨e0,e4,e5,m4,m5,e7,XA,da⟩:=h;dsimp only at e0 e4 e5 m4 m5 XA;have M4:=m4;have M5:=m5;simp only[GC]at m4 m5;have ga:pD 272 (L.length+1)=true:=by rw[XC];omega
 have fb:=tF L;have ub:(L.map qJ).length=L.length:=yc _;by_cases hc:x.low=y.low/\x.high=y.high/\x.max=y.max
 ·rw[if_pos hc,yF]at hk;obtain⟨c0,c1,c2⟩:=hc;simp[J5,-J,-yb,-y9,y0,-eD,-KC,FC,HC,JC,DC,FC,HC,e0,e4,e5,m4,m5,c0,c1,c2];exact hk _ ⟨by simp[e0],by simp[e4],by simp[e5],M4,M5,e7.of (by simp) (by simp) (fun _ _ _ _=>rfl),by dsimp only;omega,da⟩
 ·rw [if_neg hc] at hk;by_cases c0:x.low=y.low
  ·skip
   by_cases c1:x.high=y.high
   ·skip
    have c2:¬x.max=y.max:=fun e=>hc ⟨c0,c1,e⟩
    rcases e7 with⟨rfl,e7⟩|⟨h0,d,N,d1,d2,d3,e7,d4⟩
    ·have ga:pD 272 1=true:=by rw [XC]; omega
     dsimp only at e7;simp[J5,-J,-yb,-y9,y0,-eD,-KC,FC,HC,JC,DC,FC,HC,e0,e4,e5,e7,m4,m5,c0,c1,c2,ga];refine hk _ ⟨by simp[e0],by simp[e4],by simp[e5],?_,?_,.inr ⟨by simp,64,nx+1,by omega,by omega,?_,?_,?_⟩,?_,?_⟩
     ·simp[m4,GC]
     ·simp[m5,GC]
     ·simp
     ·simp
     ·simp;rfl
     ·dsimp only;omega
     ·first|(simp;done)|(simp;omega)
    ·dsimp only at d3 e7 d4;have n2:¬ 4=d:=by omega
     have n3:¬5=d:=by omega
     have n4:¬d=0:=by omega
     have sd:=dJ L;simp[J5,-J,-yb,-y9,y0,-eD,-KC,FC,HC,JC,DC,FC,HC,n4,e0,e4,e5,e7,d4,m4,m5,ub,sd,c0,c1,c2,ga,fb];refine hk _ ⟨by simp[e0],by simp[e4,n2],by simp[e5,n3],?_,?_,.inr ⟨by simp,64,nx+1,by omega,by omega,?_,?_,?_⟩,?_,?_⟩
     ·simp[m4,GC,n2]
     ·simp[m5,GC,n3]
     ·simp
     ·simp
     ·simp;rfl
     ·dsimp only;omega
     ·first|(simp;done)|(simp;omega)
   ·skip
    rcases e7 with⟨rfl,e7⟩|⟨h0,d,N,d1,d2,d3,e7,d4⟩
    ·have ga:pD 272 1=true:=by rw [XC]; omega
     dsimp only at e7;simp[J5,-J,-yb,-y9,y0,-eD,-KC,FC,HC,JC,DC,FC,HC,e0,e4,e5,e7,m4,m5,c0,c1,ga];refine hk _ ⟨by simp[e0],by simp[e4],by simp[e5],?_,?_,.inr ⟨by simp,64,nx+1,by omega,by omega,?_,?_,?_⟩,?_,?_⟩
     ·simp[m4,GC]
     ·simp[m5,GC]
     ·simp
     ·simp
     ·simp;rfl
     ·dsimp only;omega
     ·first|(simp;done)|(simp;omega)
    ·dsimp only at d3 e7 d4;have n2:¬ 4=d:=by omega
     have n3:¬5=d:=by omega
     have n4:¬d=0:=by omega
     have sd:=dJ L;simp[J5,-J,-yb,-y9,y0,-eD,-KC,FC,HC,JC,DC,FC,HC,n4,e0,e4,e5,e7,d4,m4,m5,ub,sd,c0,c1,ga,fb];refine hk _ ⟨by simp[e0],by simp[e4,n2],by simp[e5,n3],?_,?_,.inr ⟨by simp,64,nx+1,by omega,by omega,?_,?_,?_⟩,?_,?_⟩
     ·simp[m4,GC,n2]
     ·simp[m5,GC,n3]
     ·simp
     ·simp
     ·simp;rfl
     ·dsimp only;omega
     ·first|(simp;done)|(simp;omega)
  ·skip
   rcases e7 with⟨rfl,e7⟩|⟨h0,d,N,d1,d2,d3,e7,d4⟩
   ·have ga:pD 272 1=true:=by rw [XC]; omega
    dsimp only at e7;simp[J5,-J,-yb,-y9,y0,-eD,-KC,FC,HC,JC,DC,FC,HC,e0,e4,e5,e7,m4,m5,c0,ga];refine hk _ ⟨by simp[e0],by simp[e4],by simp[e5],?_,?_,.inr ⟨by simp,64,nx+1,by omega,by omega,?_,?_,?_⟩,?_,?_⟩
    ·simp[m4,GC]
    ·simp[m5,GC]
    ·simp
    ·simp
    ·simp;rfl
    ·dsimp only;omega
    ·first|(simp;done)|(simp;omega)
   ·dsimp only at d3 e7 d4;have n2:¬ 4=d:=by omega
    have n3:¬5=d:=by omega
    have n4:¬d=0:=by omega
    have sd:=dJ L;simp[J5,-J,-yb,-y9,y0,-eD,-KC,FC,HC,JC,DC,FC,HC,n4,e0,e4,e5,e7,d4,m4,m5,ub,sd,c0,ga,fb];refine hk _ ⟨by simp[e0],by simp[e4,n2],by simp[e5,n3],?_,?_,.inr ⟨by simp,64,nx+1,by omega,by omega,?_,?_,?_⟩,?_,?_⟩
    ·simp[m4,GC,n2]
    ·simp[m5,GC,n3]
    ·simp
    ·simp
    ·simp;rfl
    ·dsimp only;omega
    ·first|(simp;done)|(simp;omega)
theorem df_Open
  (hk:∀s',pN n x y (L++if x.opn=y.opn then []else [SQ n y.opn]) s'->k .nrm s'=some rv):Pj.run (sF aE LD) (jH aE LD) s k=some rv:=by
 obtain⟨env,mem,nx,obj,gh⟩:=s;obtain⟨e0,e4,e5,m4,m5,e7,XA,da⟩:=h;dsimp only at e0 e4 e5 m4 m5 XA;have M4:=m4;have M5:=m5;simp only[GC]at m4 m5;have ga:pD 272 (L.length+1)=true:=by rw[XC];omega
 have fb:=tF L;have ub:(L.map qJ).length=L.length:=yc _;by_cases hc:x.opn=y.opn
 ·rw[if_pos hc,yF]at hk;have c0:=hc;simp[Pj,-J,-yb,-y9,y0,-eD,-KC,FC,HC,JC,DC,FC,HC,e0,e4,e5,m4,m5,c0];exact hk _ ⟨by simp[e0],by simp[e4],by simp[e5],M4,M5,e7.of (by simp) (by simp) (fun _ _ _ _=>rfl),by dsimp only;omega,da⟩
 ·rw [if_neg hc] at hk;cases hb:x.opn <;> cases uq:y.opn <;> rw [hb] at m4 hc <;> rw [uq] at m5 hc hk
  all_goals first|exact absurd rfl hc|skip
  all_goals
   rcases e7 with⟨rfl,e7⟩|⟨h0,d,N,d1,d2,d3,e7,d4⟩
   ·have ga:pD 272 1=true:=by rw [XC]; omega
    dsimp only at e7;simp[Pj,-J,-yb,-y9,y0,-eD,-KC,FC,HC,JC,DC,FC,HC,e0,e4,e5,e7,m4,m5,hc,ga];refine hk _ ⟨by simp[e0],by simp[e4],by simp[e5],?_,?_,.inr ⟨by simp,76,nx+1,by omega,by omega,?_,?_,?_⟩,?_,?_⟩
    ·simp[m4,hb,GC]
    ·simp[m5,uq,GC]
    ·simp
    ·simp
    ·simp;rfl
    ·dsimp only;omega
    ·first|(simp;done)|(simp;omega)
   ·dsimp only at d3 e7 d4;have n2:¬ 4=d:=by omega
    have n3:¬5=d:=by omega
    have n4:¬d=0:=by omega
    have sd:=dJ L;simp[Pj,-J,-yb,-y9,y0,-eD,-KC,FC,HC,JC,DC,FC,HC,n4,e0,e4,e5,e7,d4,m4,m5,ub,sd,hc,ga,fb];refine hk _ ⟨by simp[e0],by simp[e4,n2],by simp[e5,n3],?_,?_,.inr ⟨by simp,76,nx+1,by omega,by omega,?_,?_,?_⟩,?_,?_⟩
    ·simp[m4,hb,GC,n2]
    ·simp[m5,uq,GC,n3]
    ·simp
    ·simp
    ·simp;rfl
    ·dsimp only;omega
    ·first|(simp;done)|(simp;omega)
theorem df_Uses
  (hk:∀s',pN n x y (L++if x.key=y.key/\x.elem=y.elem then []else [cP n y.key y.elem]) s'->k .nrm s'=some rv):M9.run (sF aE LD) (jH aE LD) s k=some rv:=by
 obtain⟨env,mem,nx,obj,gh⟩:=s;obtain⟨e0,e4,e5,m4,m5,e7,XA,da⟩:=h;dsimp only at e0 e4 e5 m4 m5 XA;have M4:=m4;have M5:=m5;simp only[GC]at m4 m5;have ga:pD 272 (L.length+1)=true:=by rw[XC];omega
 have fb:=tF L;have ub:(L.map qJ).length=L.length:=yc _;by_cases hc:x.key=y.key/\x.elem=y.elem
 ·rw[if_pos hc,yF]at hk;obtain⟨c0,c1⟩:=hc;simp[M9,-J,-yb,-y9,y0,-eD,-KC,FC,HC,JC,DC,FC,HC,e0,e4,e5,m4,m5,c0,c1];exact hk _ ⟨by simp[e0],by simp[e4],by simp[e5],M4,M5,e7.of (by simp) (by simp) (fun _ _ _ _=>rfl),by dsimp only;omega,da⟩
 ·rw [if_neg hc] at hk;by_cases c0:x.key=y.key
  ·skip
   have c1:¬x.elem=y.elem:=fun e=>hc ⟨c0,e⟩
   rcases e7 with⟨rfl,e7⟩|⟨h0,d,N,d1,d2,d3,e7,d4⟩
   ·have ga:pD 272 1=true:=by rw [XC]; omega
    dsimp only at e7;simp[M9,-J,-yb,-y9,y0,-eD,-KC,FC,HC,JC,DC,FC,HC,e0,e4,e5,e7,m4,m5,c0,c1,ga];refine hk _ ⟨by simp[e0],by simp[e4],by simp[e5],?_,?_,.inr ⟨by simp,97,nx+1,by omega,by omega,?_,?_,?_⟩,?_,?_⟩
    ·simp[m4,GC]
    ·simp[m5,GC]
    ·simp
    ·simp
    ·simp;rfl
    ·dsimp only;omega
    ·first|(simp;done)|(simp;omega)
   ·dsimp only at d3 e7 d4;have n2:¬ 4=d:=by omega
    have n3:¬5=d:=by omega
    have n4:¬d=0:=by omega
    have sd:=dJ L;simp[M9,-J,-yb,-y9,y0,-eD,-KC,FC,HC,JC,DC,FC,HC,n4,e0,e4,e5,e7,d4,m4,m5,ub,sd,c0,c1,ga,fb];refine hk _ ⟨by simp[e0],by simp[e4,n2],by simp[e5,n3],?_,?_,.inr ⟨by simp,97,nx+1,by omega,by omega,?_,?_,?_⟩,?_,?_⟩
    ·simp[m4,GC,n2]
    ·simp[m5,GC,n3]
    ·simp
    ·simp
    ·simp;rfl
    ·dsimp only;omega
    ·first|(simp;done)|(simp;omega)
  ·skip
   rcases e7 with⟨rfl,e7⟩|⟨h0,d,N,d1,d2,d3,e7,d4⟩
   ·have ga:pD 272 1=true:=by rw [XC]; omega
    dsimp only at e7;simp[M9,-J,-yb,-y9,y0,-eD,-KC,FC,HC,JC,DC,FC,HC,e0,e4,e5,e7,m4,m5,c0,ga];refine hk _ ⟨by simp[e0],by simp[e4],by simp[e5],?_,?_,.inr ⟨by simp,97,nx+1,by omega,by omega,?_,?_,?_⟩,?_,?_⟩
    ·simp[m4,GC]
    ·simp[m5,GC]
    ·simp
    ·simp
    ·simp;rfl
    ·dsimp only;omega
    ·first|(simp;done)|(simp;omega)
   ·dsimp only at d3 e7 d4;have n2:¬ 4=d:=by omega
    have n3:¬5=d:=by omega
    have n4:¬d=0:=by omega
    have sd:=dJ L;simp[M9,-J,-yb,-y9,y0,-eD,-KC,FC,HC,JC,DC,FC,HC,n4,e0,e4,e5,e7,d4,m4,m5,ub,sd,c0,ga,fb];refine hk _ ⟨by simp[e0],by simp[e4,n2],by simp[e5,n3],?_,?_,.inr ⟨by simp,97,nx+1,by omega,by omega,?_,?_,?_⟩,?_,?_⟩
    ·simp[m4,GC,n2]
    ·simp[m5,GC,n3]
    ·simp
    ·simp
    ·simp;rfl
    ·dsimp only;omega
    ·first|(simp;done)|(simp;omega)
end
section
variable {rv:RV} {n:Int} {x y:BC} (hx:x.qA.length<=100) (hy:y.qA.length<=100)
include rv n x y hx hy
theorem dfl_rem {L:List aF}(hL:L.length<=500)(s:LC)(h:pN n x y L s)(k:Ex->LC->Option RV)
  (hk:∀s',pN n x y (L++tN n y.qA x.qA) s'->k .nrm s'=some rv):dfS6.run (sF aE LD) (jH aE LD) s k=some rv:=by
 obtain⟨env,mem,nx,obj,gh⟩:=s;obtain⟨e0,e4,e5,m4,m5,e7,XA,da⟩:=h;dsimp only at e0 e4 e5 m4 m5 XA;have M4:=m4;have M5:=m5;simp only[GC]at m4 m5;simp[dfS6,-J,-yb,-y9,y0,-eD,-KC,FC,HC,JC,DC,FC,HC,e4,e5,m4,m5];refine df_rem (n:=n) (x:=x) (y:=y) (L:=L) hx hy hL _ ⟨by simp[e0],by simp[e4],by simp[e5],M4,M5,by exact e7.of (by simp) (by simp) (fun _ _ _ _=>rfl),by dsimp only;omega,da⟩ (by simp) (by simp) (by simp) _ (fun s' h'=>?_);simp[-J,-yb,-y9,y0];exact hk s' h'
theorem dfl_chg (wa:∀m∈x.qA,m.ok){L:List aF}(hL:L.length<=500)(s:LC)(h:pN n x y L s)(k:Ex->LC->Option RV)
  (hk:∀s',pN n x y (L++XM n x.qA y.qA) s'->k .nrm s'=some rv):dfS7.run (sF aE LD) (jH aE LD) s k=some rv:=by
 obtain⟨env,mem,nx,obj,gh⟩:=s;obtain⟨e0,e4,e5,m4,m5,e7,XA,da⟩:=h;dsimp only at e0 e4 e5 m4 m5 XA;have M4:=m4;have M5:=m5;simp only[GC]at m4 m5;simp[dfS7,-J,-yb,-y9,y0,-eD,-KC,FC,HC,JC,DC,FC,HC,e4,e5,m4,m5];refine df_chg (n:=n) (x:=x) (y:=y) (L:=L) hx hy wa hL _ ⟨by simp[e0],by simp[e4],by simp[e5],M4,M5,by exact e7.of (by simp) (by simp) (fun _ _ _ _=>rfl),by dsimp only;omega,da⟩ (by simp) (by simp) (by simp) _ (fun s' h'=>?_);simp[-J,-yb,-y9,y0];exact hk s' h'
theorem dfl_add {L:List aF}(hL:L.length<=500)(s:LC)(h:pN n x y L s)(k:Ex->LC->Option RV)
  (hk:∀s',pN n x y (L++ZM n x.qA y.qA) s'->k .nrm s'=some rv):dfS8.run (sF aE LD) (jH aE LD) s k=some rv:=by
 obtain⟨env,mem,nx,obj,gh⟩:=s;obtain⟨e0,e4,e5,m4,m5,e7,XA,da⟩:=h;dsimp only at e0 e4 e5 m4 m5 XA;have M4:=m4;have M5:=m5;simp only[GC]at m4 m5;simp[dfS8,-J,-yb,-y9,y0,-eD,-KC,FC,HC,JC,DC,FC,HC,e4,e5,m4,m5];refine df_add (n:=n) (x:=x) (y:=y) (L:=L) hx hy hL _ ⟨by simp[e0],by simp[e4],by simp[e5],M4,M5,by exact e7.of (by simp) (by simp) (fun _ _ _ _=>rfl),by dsimp only;omega,da⟩ (by simp) (by simp) (by simp) _ (fun s' h'=>?_);simp[-J,-yb,-y9,y0];exact hk s' h'
end
section
variable {rv:RV} {n:Int} {x y:BC} (hx:x.wA.length<=100) (hy:y.wA.length<=100) {L:List aF} (hL:L.length<=500) (s:LC) (h:pN n x y L s) (k:Ex->LC->Option RV)
include rv n x y hx hy L hL s h k
theorem dfl_drp
  (hk:∀s',pN n x y (L++CM n y.wA x.wA) s'->k .nrm s'=some rv):dfS9.run (sF aE LD) (jH aE LD) s k=some rv:=by
 obtain⟨env,mem,nx,obj,gh⟩:=s;obtain⟨e0,e4,e5,m4,m5,e7,XA,da⟩:=h;dsimp only at e0 e4 e5 m4 m5 XA;have M4:=m4;have M5:=m5;simp only[GC]at m4 m5;simp[dfS9,-J,-yb,-y9,y0,-eD,-KC,FC,HC,JC,DC,FC,HC,e4,e5,m4,m5];refine df_drp (n:=n) (x:=x) (y:=y) (L:=L) hx hy hL _ ⟨by simp[e0],by simp[e4],by simp[e5],M4,M5,by exact e7.of (by simp) (by simp) (fun _ _ _ _=>rfl),by dsimp only;omega,da⟩ (by simp) (by simp) (by simp) _ (fun s' h'=>?_);simp[-J,-yb,-y9,y0];exact hk s' h'
theorem dfl_syn
  (hk:∀s',pN n x y (L++iN n x.wA y.wA) s'->k .nrm s'=some rv):Rj.run (sF aE LD) (jH aE LD) s k=some rv:=by
 obtain⟨env,mem,nx,obj,gh⟩:=s;obtain⟨e0,e4,e5,m4,m5,e7,XA,da⟩:=h;dsimp only at e0 e4 e5 m4 m5 XA;have M4:=m4;have M5:=m5;simp only[GC]at m4 m5;simp[Rj,-J,-yb,-y9,y0,-eD,-KC,FC,HC,JC,DC,FC,HC,e4,e5,m4,m5];refine df_syn (n:=n) (x:=x) (y:=y) (L:=L) hx hy hL _ ⟨by simp[e0],by simp[e4],by simp[e5],M4,M5,by exact e7.of (by simp) (by simp) (fun _ _ _ _=>rfl),by dsimp only;omega,da⟩ (by simp) (by simp) (by simp) _ (fun s' h'=>?_);simp[-J,-yb,-y9,y0];exact hk s' h'
theorem dfl_sya
  (hk:∀s',pN n x y (L++uN n x.wA y.wA) s'->k .nrm s'=some rv):Tj.run (sF aE LD) (jH aE LD) s k=some rv:=by
 obtain⟨env,mem,nx,obj,gh⟩:=s;obtain⟨e0,e4,e5,m4,m5,e7,XA,da⟩:=h;dsimp only at e0 e4 e5 m4 m5 XA;have M4:=m4;have M5:=m5;simp only[GC]at m4 m5;simp[Tj,-J,-yb,-y9,y0,-eD,-KC,FC,HC,JC,DC,FC,HC,e4,e5,m4,m5];refine df_sya (n:=n) (x:=x) (y:=y) (L:=L) hx hy hL _ ⟨by simp[e0],by simp[e4],by simp[e5],M4,M5,by exact e7.of (by simp) (by simp) (fun _ _ _ _=>rfl),by dsimp only;omega,da⟩ (by simp) (by simp) (by simp) _ (fun s' h'=>?_);simp[-J,-yb,-y9,y0];exact hk s' h'
end
section
variable {sz:Nat} {l:List (List AV)} (h:kD sz l=true) {k:Nat} {c:List AV} (hk:l[k]?=some c) {o z:Nat} (ho:o + z<=sz)
include sz l h k c hk o z ho
theorem AU:((qD l).drop (k*sz+o)).take z=((c.drop o).take z).map (⟨·,.no⟩)/\k*sz+o+z<=(qD l).length:=by
 have ba:=(yn.1 hk).1;have hc:=rQ h hk;have hd:l.drop k=c::l.drop (k+1):=by rw[yv ba,(yn.1 hk).2]
 refine⟨?_,?_⟩
 ·rw[<- List.drop_drop,wR h (by omega),hd,QO,List.drop_append_of_le_length (by simp;omega),List.take_append_of_le_length (by simp;omega),yW,Y01]
 ·rw[BJ h];have:(k+1)*sz<=l.length*sz:=Y0e _ ba;rw[yL]at this;omega
theorem IS:eD true z (k*sz+o) (qD l)=some ⟨.agg ((c.drop o).take z),.no⟩:=by
 obtain⟨h1,h2⟩:=AU h hk ho;simp only[eD,if_true];rw[if_pos h2,h1];simp[Function.comp_def]
theorem eR (a:An):KC true z (k*sz+o) (qD l) (.agg ((c.drop o).take z)) a=some (qD l):=by
 obtain⟨h1,h2⟩:=AU h hk ho;have hc:=rQ h hk;simp only[KC,if_true];rw[if_pos ⟨by rw[yz,yJ];omega,h2⟩,<- h1];congr 1;have e1:(qD l).drop (k*sz+o+z)=((qD l).drop (k*sz+o)).drop z:=by rw[List.drop_drop]
 rw[e1,yx,Y0c,Y0c]
end
theorem zZ (e:aF):((qJ e).drop 9).take 8=WE e.mem.dflt:=by
 rw[EF];rfl
section
variable {rv:RV} {n:Int} {x y:BC} {D:List aF} (je:∀ e∈D,e.mem.dflt.lay) (s:LC) (h:pN n x y D s)
include rv n x y D je s h
theorem Sj (e_n:(s.env 238).v=.int .i64 D.length)(e_c:(s.env 239).v=.int .i64 0)(k:Ex->LC->Option RV)
  (hk:∀s',pN n x y D s'->k (.exit 12) s'=some rv):HJ aE LD cH s k=some rv:=by
 refine UH D.length (fun i s=>(s.env 238).v=.int .i64 D.length/\(s.env 239).v=.int .i64 i/\pN n x y D s) (fun e s=>e=.exit 12/\pN n x y D s) (fun i hi s k h ih hk=>?_) _ _ ⟨e_n,e_c,h⟩ (fun e s h=>by obtain⟨rfl,h⟩:=h;exact hk _ h);obtain⟨e_n,e_c,hI⟩:=h;obtain⟨env,mem,nx,obj,gh⟩:=s;obtain⟨e0,e4,e5,m4,m5,e7,XA,da⟩:=hI;dsimp only at e_n e_c e0 e4 e5 m4 m5 XA;refine wD ?_;by_cases ba:i<D.length
 ·have fa:(i:Int)<D.length:=by omega
  have hw:=rE (i:=i);obtain⟨q,hq⟩:∃q,D[i]?=some q:=⟨_,yf ba⟩;have g1:(D.map qJ)[i]?=some (qJ q):=by rw[yk,hq];rfl
  rcases e7 with⟨rfl,e7⟩|⟨h0,d,N,d1,d2,d3,e7,d4⟩
  ·simp at ba
  ·dsimp only at d3 e7 d4;have xh:=IS (tF D) g1 (o:=9) (z:=8) (by omega);have rg:=eR (tF D) g1 (o:=9) (z:=8) (by omega) .no;rw [zZ] at xh rg;have hc:=jZ _ q.mem.dflt (Nat.lt_succ_self _) (je q (yr hq));have pe:=uQ q.mem.dflt;have jg:=jT d4;simp only [GR] at hc;generalize ja:qD (D.map qJ)=row at *
   simp[cH,-J,-yb,-y9,y0,-eD,-KC,FC,HC,JC,DC,e_n,e_c,e7,d4,ba,fa,hw,xh,pe,hc,rg,jg];refine ih ba _ ⟨by simp[e_n],by simp,⟨by simp[e0],by simp[e4],by simp[e5],m4,m5,.inr ⟨h0,d,N,d1,d2,by dsimp only;omega,by simp[e7],by rw[ja];exact d4⟩,by dsimp only;omega,da⟩⟩
 ·have fa:¬ (i:Int)<D.length:=by omega
  simp[cH,-J,-yb,-y9,y0,-eD,-KC,FC,HC,JC,DC,e_c,e_n,fa];exact hk _ _ ⟨rfl,by simp[e0],by simp[e4],by simp[e5],m4,m5,by exact e7.of (by simp) (by simp) (fun _ _ _ _=>rfl),by dsimp only;omega,da⟩
theorem dfl_fin (k:Ex->LC->Option RV)
  (hk:∀s',pN n x y D s'->k .nrm s'=some rv):Fu.run (sF aE LD) (jH aE LD) s k=some rv:=by
 obtain⟨env,mem,nx,obj,gh⟩:=s;obtain⟨e0,e4,e5,m4,m5,e7,XA,da⟩:=h;dsimp only at e0 e4 e5 m4 m5 XA;have e7':=e7;have ub:(D.map qJ).length=D.length:=yc _;rcases e7 with⟨rfl,e7⟩|⟨h0,d,N,d1,d2,d3,e7,d4⟩
 ·dsimp only at e7;simp[Fu,-J,-yb,-y9,y0,-eD,-KC,FC,HC,JC,DC,e7];refine Sj (n:=n) (x:=x) (y:=y) (D:=[]) je _ ⟨by simp[e0],by simp[e4],by simp[e5],m4,m5,by exact e7'.of (by simp[e7]) (by simp) (fun _ _ _ _=>rfl),by dsimp only;omega,da⟩ (by simp) (by simp) _ (fun s' h'=>?_);simp[-J,-yb,-y9,y0];exact hk s' h'
 ·dsimp only at d3 e7 d4;simp[Fu,-J,-yb,-y9,y0,-eD,-KC,FC,HC,JC,DC,e7];refine Sj (n:=n) (x:=x) (y:=y) (D:=D) je _ ⟨by simp[e0],by simp[e4],by simp[e5],m4,m5,by exact e7'.of (by simp) (by simp) (fun _ _ _ _=>rfl),by dsimp only;omega,da⟩ (by simp) (by simp) _ (fun s' h'=>?_);simp[-J,-yb,-y9,y0];exact hk s' h'
end
theorem Fj {n:Int}{x y:BC}(h:∀m∈y.qA,m.dflt.lay):∀e∈AM n x y,e.mem.dflt.lay:=by
 have hz:Vl.zero.lay:=by simp[Vl.zero,Vl.lay,Vl.lays]
 intro e he;simp only[AM,iP,yu]at he;rcases he with((he|he|he|he)|he|he|he|he|he|he)
 ·split at he
  ·simp at he
  ·simp at he;subst he;exact hz
 ·split at he
  ·simp at he
  ·simp at he;subst he;exact hz
 ·split at he
  ·simp at he
  ·simp at he;subst he;exact hz
 ·split at he
  ·simp at he
  ·simp at he;subst he;exact hz
 ·simp only [tN,yR] at he;obtain ⟨m,_,he⟩:=he;split at he
  ·simp at he;subst he;exact hz
  ·simp at he
 ·simp only [XM,yR] at he;obtain ⟨m,hm,he⟩:=he;unfold AO at he;split at he
  ·split at he
   ·simp at he;subst he;exact h m hm
   ·simp at he
  ·simp at he
 ·simp only [ZM,yR] at he;obtain ⟨m,hm,he⟩:=he;split at he
  ·simp at he;subst he;exact h m hm
  ·simp at he
 ·simp only [CM,yR] at he;obtain ⟨m,_,he⟩:=he;split at he
  ·simp at he;subst he;exact hz
  ·simp at he
 ·simp only [iN,yR] at he;obtain ⟨m,hm,he⟩:=he;unfold JO at he;split at he
  ·split at he
   ·simp at he;subst he;exact hz
   ·simp at he
  ·simp at he
 ·simp only [uN,yR] at he;obtain ⟨m,hm,he⟩:=he;split at he
  ·simp at he;subst he;exact hz
  ·simp at he
theorem Mp (n:Int)(x y:BC)(h1:x.qA.length<=40)(h2:y.qA.length<=40)(h3:x.wA.length<=40)(h4:y.wA.length<=40)(wa:∀m∈x.qA,m.ok)(je:∀m∈y.qA,m.dflt.lay):GR 22 [.int .i64 n,.agg (GC x),.agg (GC y)] (SM (AM n x y)):=by
 refine GJ JH rfl rfl ?_;rw[Aj];have l1:=eK (x.name=y.name) (AQ n y.name);have l2:=eK (x.low=y.low/\x.high=y.high/\x.max=y.max) (xP n y.low y.high y.max);have l3:=eK (x.opn=y.opn) (SQ n y.opn);have l4:=eK (x.key=y.key/\x.elem=y.elem) (cP n y.key y.elem);have l5:=lW n y.qA x.qA;have l6:=uV n x.qA y.qA;have l7:=HU n x.qA y.qA;have l8:=pV n y.wA x.wA;have l9:=nW n x.wA y.wA;have t1:(GC x).length=10:=rfl;have t2:(GC y).length=10:=rfl;simp only[wK];simp[dfS0,dfS1,-J,-yb,-y9,y0,t1,t2];refine df_Name (n:=n) (x:=x) (y:=y) (L:=[]) (by simp) _ ⟨by simp,by simp,by simp,by simp,by simp,.inl ⟨rfl,by simp⟩,by simp,by simp⟩ _ (fun s h=>?_);rw[Y00]at h;rw[HF,wK];refine df_Bnds (by omega) s h _ (fun s h=>?_);rw[HF,wK];refine df_Open (by simp only[yj];omega) s h _ (fun s h=>?_);rw[HF,wK];refine df_Uses (by simp only[yj];omega) s h _ (fun s h=>?_);rw[HF,wK];refine dfl_rem (by omega) (by omega) (by simp only[yj];omega) s h _ (fun s h=>?_);rw[HF,wK];refine dfl_chg (by omega) (by omega) wa (by simp only[yj];omega) s h _ (fun s h=>?_);rw[HF,wK];refine dfl_add (by omega) (by omega) (by simp only[yj];omega) s h _ (fun s h=>?_);rw[HF,wK];refine dfl_drp (by omega) (by omega) (by simp only[yj];omega) s h _ (fun s h=>?_);rw[HF,wK];refine dfl_syn (by omega) (by omega) (by simp only[yj];omega) s h _ (fun s h=>?_);rw[HF,wK];refine dfl_sya (by omega) (by omega) (by simp only[yj];omega) s h _ (fun s h=>?_);rw[HF,wK];have hd:AM n x y=iP n x y++(tN n y.qA x.qA++(XM n x.qA y.qA++(ZM n x.qA y.qA++(CM n y.wA x.wA++(iN n x.wA y.wA++uN n x.wA y.wA))))):=rfl;rw[iP,yx,yx,yx]at hd;simp only[yx]at h;rw[<- hd]at h;have hly:=Fj (n:=n) (x:=x) je;generalize AM n x y=D at *
 refine dfl_fin hly s h _ (fun s h=>?_);have hr:JH.res=[.tmp 6]:=rfl;obtain⟨env,mem,nx,obj,gh⟩:=s;rcases h.e7 with⟨rfl,e7⟩|⟨h0,d,N,d1,d2,d3,e7,d4⟩
 ·dsimp only at e7;simp[Uj,Ij,-J,-yb,-y9,y0,-eD,-KC,FC,HC,JC,DC,e7,hr,SM]
 ·dsimp only at d3 e7 d4;have sd:=dJ D;have he:D.isEmpty=false:=by cases D with | nil=>exact absurd rfl h0 | cons=>rfl
  simp[Uj,Ij,-J,-yb,-y9,y0,-eD,-KC,FC,HC,JC,DC,e7,d4,hr,sd,SM,he]
section
section
variable {z:Nat}
theorem Ru:∀{B:List (List SC)},(∀b∈B,b.length=z)->∀{i:Nat}{b:List SC},B[i]?=some b->∀{j:Nat},j<z->B.flatten[i*z+j]?=b[j]?
 | [],_,i,b,h,_,_=>by cases h
 |c::B,hB,i,b,h,j,hj=>by
  have hc:=hB c (yo ..);cases i with
  |zero =>
   have:c=b:=by simpa using h
   subst this;rw[yA,Nat.zero_mul,yy,yT (by omega)]
  |succ i =>
   have h':B[i]?=some b:=by simpa using h
   rw[yA,yP (by rw[hc,yL];omega),hc,show(i+1)*z+j-z=i*z+j from by rw[yL];omega];exact Ru (fun b hb=>hB b (yp _ hb)) h' hj
theorem eS:∀{B:List (List SC)},(∀b∈B,b.length=z)->∀{i:Nat}{b:List SC},B[i]?=some b->(B.flatten.drop (i*z)).take z=b/\i*z+z<=B.flatten.length
 | [],_,i,b,h=>by cases h
 |c::B,hB,i,b,h=>by
  have hc:=hB c (yo ..);cases i with
  |zero =>
   have:c=b:=by simpa using h
   subst this;rw[yA,Nat.zero_mul,Y05,List.take_append_of_le_length (by omega),Y0b (by omega)];exact⟨rfl,by rw[yj];omega⟩
  |succ i =>
   have h':B[i]?=some b:=by simpa using h
   obtain⟨h1,h2⟩:=eS (fun b hb=>hB b (yp _ hb)) h';rw[yA,List.drop_append,List.drop_of_length_le (by rw[hc,yL];omega),Y00,hc,show(i+1)*z-z=i*z from by rw[yL];omega];exact⟨h1,by rw[yj,yL];omega⟩
theorem F5:∀{B:List (List SC)},(∀b∈B,b.length=z)->∀{i:Nat}{b:List SC},B[i]?=some b->∀{j:Nat},j<z->∀x:SC,B.flatten.set (i*z+j) x=(B.set i (b.set j x)).flatten
 | [],_,i,b,h,_,_,_=>by cases h
 |c::B,hB,i,b,h,j,hj,x=>by
  have hc:=hB c (yo ..);cases i with
  |zero =>
   have:c=b:=by simpa using h
   subst this;rw[yA,Nat.zero_mul,yy,List.set_append_left _ _ (by omega),List.set_cons_zero,yA]
  |succ i =>
   have h':B[i]?=some b:=by simpa using h
   rw[yA,List.set_append_right _ _ (by rw[hc,yL];omega),hc,show(i+1)*z+j-z=i*z+j from by rw[yL];omega,F5 (fun b hb=>hB b (yp _ hb)) h' hj x,List.set_cons_succ,yA]
end
def QE (t:BC)(w:SC×SC):List SC:=[⟨.int .i64 t.kind,.no⟩,⟨.str t.name,.no⟩,⟨.int .i64 t.low,.no⟩,⟨.int .i64 t.high,.no⟩,⟨.int .i64 t.max,.no⟩,w.1,w.2,⟨.int .i64 t.key,.no⟩,⟨.int .i64 t.elem,.no⟩,⟨.bool t.opn,.no⟩]
def Cw (L:List BC)(W:List (SC×SC)):List (List SC):=List.zipWith QE L W
def lD (L:List BC)(W:List (SC×SC)):List SC:=(Cw L W).flatten
theorem lT (L:List BC)(W:List (SC×SC)):∀b∈Cw L W,b.length=10:=fun b hb=>by
 obtain⟨i,hi,rfl⟩:=List.mem_iff_getElem.1 hb;simp[Cw,QE]
section
variable {L:List BC} {W:List (SC × SC)} {i:Nat} {t:BC} {w:SC × SC} (h1:L[i]?=some t) (h2:W[i]?=some w)
include L W i t w h1 h2
theorem Z6:(Cw L W)[i]?=some (QE t w):=by
 unfold Cw;rw[List.getElem?_zipWith,h1,h2]
theorem NG {j:Nat}(hj:j<10):(lD L W)[i*10+j]?=(QE t w)[j]?:=Ru (lT L W) (Z6 h1 h2) hj
theorem UO:eD true 10 (i*10) (lD L W)=some ⟨.agg ((QE t w).map (·.v)),.no⟩:=by
 obtain⟨g1,g2⟩:=eS (lT L W) (Z6 h1 h2);simp only[eD,if_true];rw[show(lD L W)=(Cw L W).flatten from rfl,if_pos g2,g1]
end
section
variable {L:List BC} {W:List (SC × SC)} {i:Nat} {t t':BC} {w w':SC × SC} (h1:L[i]?=some t) (h2:W[i]?=some w) {j:Nat} (hj:j<10)
include L W i t t' w w' h1 h2 j hj
theorem d5 {x:SC}(hx:(QE t w).set j x=QE t' w'):(lD L W).set (i*10+j) x=lD (L.set i t') (W.set i w'):=by
 unfold lD;rw[F5 (lT L W) (Z6 h1 h2) hj,hx];congr 1;refine List.ext_getElem? fun k=>?_
 rw[List.getElem?_set];unfold Cw;rw[List.length_zipWith,List.getElem?_zipWith,List.getElem?_zipWith,List.getElem?_set,List.getElem?_set];have xh:=(yn.1 h1).1;have ik:=(yn.1 h2).1;split
 ·rename_i e;subst e;simp[xh,ik];omega
 ·rfl
theorem tG {x:AV}{a:An}(hl:x.leaf=true)(hx:(QE t w).set j ⟨x,a⟩=QE t' w'):KC false 1 (i*10+j) (lD L W) x a=some (lD (L.set i t') (W.set i w')):=by
 have ba:i*10+j<(lD L W).length:=by
  have:=(eS (lT L W) (Z6 h1 h2)).2;unfold lD;omega
 simp only[KC,yM,if_false];rw[if_pos ⟨hl,ba⟩,d5 h1 h2 hj hx]
end
def IV (t:BC):SC×SC:=(⟨.sl t.sn (t.wA.map fD),.no⟩,⟨.sl t.mn (t.qA.map rD),.no⟩)
theorem Rf (L:List BC):lD L (L.map IV)=qD (L.map GC):=by
 induction L with
 |nil=>rfl
 |cons t L ih =>
  rw[ym,ym,QO,<- ih];rfl
def KS:List Nat:=[26,34,68,89,148,169]
def MG (mem:Nat->Nat->Option (List SC))(nx:Nat)(x:SC)(z:Nat)(l:List (List AV)):Prop :=
 (l=[]/\∃b,x=⟨.sl b [],.ex⟩)\/∃t n,x=⟨.ref t n z 0 l.length l.length,.no⟩/\t∈KS/\n<nx/\mem t n=some (qD l)
def wN (x:SC):List (Nat×Nat):=match x.v with
 |.ref t n _ _ _ _=>[(t,n)]
 |_=>[]
def DL (w:SC×SC):List (Nat×Nat):=wN w.1++wN w.2
structure aZ (L:List BC)(W:List (SC×SC))(N0 nx:Nat)(V0:AV)(mem:Nat->Nat->Option (List SC)):Prop where
 len:W.length=L.length
 v0:(L=[]/\∃b,V0=.sl b [])\/(L≠[]/\V0=.ref 9 N0 10 0 L.length L.length/\mem 9 N0=some (lD L W)/\N0<nx)
 cell:∀(i:Nat)(t:BC)(w:SC×SC),L[i]?=some t->W[i]?=some w->MG mem nx w.1 2 (t.wA.map fD)/\MG mem nx w.2 13 (t.qA.map rD)
 nd:(W.flatMap DL).Nodup
def Q6:AV->Bool
 |.ptr t _ _|.ref t _ _ _ _ _|.mp t _=>!KS.contains t
 |.agg _|.fA _|.fn ..=>false
 |_=>true
def okV1:AV->Bool
 |.agg cs=>cs.all Q6
 |v=>Q6 v
def okV:AV->Bool
 |.agg cs=>cs.all Q6
 |.fA vs=>vs.all okV1
 |.fn _ vs=>vs.all Q6
 |v=>Q6 v
theorem wX {t n:Nat}(ht:t∈KS){v:AV}(h:Q6 v=true):v.rA t n=v:=by
 have hn:∀t',(!KS.contains t')=true->¬(t'=t/\n=n):=fun t' h' e=>by
  rw[e.1]at h';simp[List.contains_iff_mem,ht]at h'
 cases v<;>simp only[Q6]at h<;>simp only[AV.rA]
 all_goals rw[if_neg]
 all_goals intro e;exact hn _ h ⟨e.1,rfl⟩
theorem nU {t n:Nat}(ht:t∈KS):∀{l:List AV},l.all Q6=true->l.map (AV.rA t n)=l
 | [],_=>rfl
 |v::r,h=>by
  rw[List.all_cons,yg]at h;rw[ym,wX ht h.1,nU ht h.2]
theorem Wd {t n:Nat}(ht:t∈KS){v:AV}(h:okV1 v=true):v.OA t n=v:=by
 cases v<;>simp only[okV1]at h<;>simp only[AV.OA]
 all_goals first|exact wX ht h|(rw[nU ht h])
theorem E0 {t n:Nat}(ht:t∈KS):∀{l:List AV},l.all okV1=true->l.map (AV.OA t n)=l
 | [],_=>rfl
 |v::r,h=>by
  rw[List.all_cons,yg]at h;rw[ym,Wd ht h.1,E0 ht h.2]
theorem I8 {t n:Nat}(ht:t∈KS){v:AV}(h:okV v=true):v.kill t n=v:=by
 cases v<;>simp only[okV]at h<;>simp only[AV.kill]
 all_goals first|exact wX ht h|(rw[nU ht h])|(rw[E0 ht h])
structure RQ (N0:Nat)(s0 s:LC):Prop where
 gh:∀j,okV (s0.gh j).v=true->s.gh j=s0.gh j
 mem:∀t n r,n<s0.next->t ∉ KS->¬(t=9/\n=N0)->s0.mem t n=some r->(∀x∈r,okV x.v=true)->s.mem t n=some r
 next:s0.next<=s.next
theorem RQ.set {N0:Nat}{s0:LC}{env:Nat->SC}{mem:Nat->Nat->Option (List SC)}{nx nx':Nat}{obj:Nat->Nat->Option AV}{gh:Nat->SC}(h:RQ N0 s0 ⟨env,mem,nx,obj,gh⟩){t n:Nat}{r:List SC}(hn:s0.next<=n\/t∈KS\/(t=9/\n=N0))(hx:nx<=nx'){env':Nat->SC}:RQ N0 s0 ⟨env',DN mem t n r,nx',obj,gh⟩ :=
 ⟨h.gh,fun t' n' r' hl hk h9 he hr=>by
  show DN mem t n r t' n'=_;rw[CC,if_neg (fun e=>by
   rw[e.1]at hk h9;rw[e.2]at hl h9;rcases hn with hn|hn|hn
   ·omega
   ·exact hk hn
   ·exact h9 hn)]
  exact h.mem t' n' r' hl hk h9 he hr,yH h.next hx⟩
theorem RQ.env {N0:Nat}{s0:LC}{env:Nat->SC}{mem:Nat->Nat->Option (List SC)}{nx nx':Nat}{obj:Nat->Nat->Option AV}{gh:Nat->SC}(h:RQ N0 s0 ⟨env,mem,nx,obj,gh⟩)(hx:nx<=nx'){env':Nat->SC}:RQ N0 s0 ⟨env',mem,nx',obj,gh⟩ :=
 ⟨h.gh,h.mem,yH h.next hx⟩
theorem RQ.kill {N0:Nat}{s0:LC}{env:Nat->SC}{mem:Nat->Nat->Option (List SC)}{nx nx':Nat}{obj:Nat->Nat->Option AV}{gh:Nat->SC}(h:RQ N0 s0 ⟨env,mem,nx,obj,gh⟩){t n:Nat}(ht:t∈KS)(hx:nx<=nx'){env':Nat->SC}:RQ N0 s0 ⟨env',FV t n mem,nx',obj,DV t n gh⟩ :=
 ⟨fun j hl=>by
  show(gh j).kill t n=_;have e:gh j=s0.gh j:=h.gh j hl;rw[e];show(⟨(s0.gh j).v.kill t n,(s0.gh j).a⟩:SC)=s0.gh j;rw[I8 ht hl],fun t' n' r' hl hk h9 he hr=>by
  show FV t n mem t' n'=_;rw[UD,if_neg (fun e:t'=t/\n'=n=>hk (e.1▸ht))];have hm:mem t' n'=some r':=h.mem t' n' r' hl hk h9 he hr;rw[hm];have:r'.map (SC.kill t n)=r'.map id:=yE fun x hx=>by
   show(⟨x.v.kill t n,x.a⟩:SC)=x;rw[I8 ht (hr x hx)]
  rw[List.map_id]at this;exact congrArg some this,yH h.next hx⟩
theorem RQ.trans {N0:Nat}{s0 s1 s2:LC}(h1:RQ N0 s0 s1)(h2:RQ N0 s1 s2):RQ N0 s0 s2 :=
 ⟨fun j h=>by rw[h2.gh j (by rw[h1.gh j h];exact h),h1.gh j h],fun t n r hl hk h9 hm hr=>h2.mem t n r (Y06 hl h1.next) hk h9 (h1.mem t n r hl hk h9 hm hr) hr,yH h1.next h2.next⟩
end
theorem Bs (m:ED):((rD m).drop 5).take 8=WE m.dflt:=by
 rw[EF];rfl
theorem Px {W:List (SC×SC)}{i:Nat}{w w':SC×SC}(hW:W[i]?=some w)(le:(W.flatMap DL).Nodup)(h1:(DL w').Nodup)(h2:∀p∈DL w',p∈DL w\/∀v∈W,p ∉ DL v):((W.set i w').flatMap DL).Nodup:=by
 have hi:=(yn.1 hW).1;have hsp:W=W.take i++w::W.drop (i+1):=by
  have:=(yn.1 hW).2;rw[<- this,<- yv hi,Y0c]
 have hse:W.set i w'=W.take i++w'::W.drop (i+1):=by
  rw[List.set_eq_take_append_cons_drop,if_pos hi]
 rw[hsp,List.flatMap_append,Y0a]at le;rw[hse,List.flatMap_append,Y0a];obtain⟨a1,a2,a3⟩:=yS.1 le;obtain⟨b1,b2,b3⟩:=yS.1 a2;refine yS.2 ⟨a1,yS.2 ⟨h1,b2,fun p hp q hq e=>?_⟩,fun p hp q hq e=>?_⟩
 ·subst e;rcases h2 p hp with h | h
  ·exact b3 p h p hq rfl
  ·obtain⟨v,hv,hpv⟩:=yR.1 hq;exact h v (List.mem_of_mem_drop hv) hpv
 ·subst e;rcases yu.1 hq with hq | hq
  ·rcases h2 p hq with h | h
   ·exact a3 p hp p (yu.2 (.inl h)) rfl
   ·obtain⟨v,hv,hpv⟩:=yR.1 hp;exact h v (Y0i hv) hpv
  ·exact a3 p hp p (yu.2 (.inr hq)) rfl
theorem cp_in {rv:RV}{L:List BC}{W:List (SC×SC)}{N0 i:Nat}{t:BC}{w:SC×SC}{v2 v3 v4 v13 v14:AV}(hL:L[i]?=some t)(hW:W[i]?=some w)(hn:t.qA.length<=100000)(je:∀m∈t.qA,m.dflt.lay)(s0:LC)(m9:s0.mem 9 N0=some (lD L W))(hc:MG s0.mem s0.next w.2 13 (t.qA.map rD))
  (e2:(s0.env 2).v=v2) (e3:(s0.env 3).v=v3) (e4:(s0.env 4).v=v4) (e13:(s0.env 13).v=v13) (e14:(s0.env 14).v=v14) (e5:(s0.env 5).v=.ptr 9 N0 (i*10)) (e41:(s0.env 41).v=.int .i64 t.qA.length) (e42:(s0.env 42).v=.int .i64 0) (k:Ex->LC->Option RV)
  (hk:∀s',(s'.env 2).v=v2->(s'.env 3).v=v3->(s'.env 4).v=v4->(s'.env 13).v=v13->(s'.env 14).v=v14->s'.mem=s0.mem->s'.gh=s0.gh->s0.next<=s'.next->k (.exit 2) s'=some rv):HJ aE LD TI s0 k=some rv:=by
 refine UH t.qA.length (fun r s=>(s.env 2).v=v2/\(s.env 3).v=v3/\(s.env 4).v=v4/\(s.env 13).v=v13/\(s.env 14).v=v14/\s.mem=s0.mem/\s.gh=s0.gh/\s0.next<=s.next/\(s.env 5).v=.ptr 9 N0 (i*10)/\(s.env 41).v=.int .i64 t.qA.length/\(s.env 42).v=.int .i64 r)
  (fun e s=>e=.exit 2/\(s.env 2).v=v2/\(s.env 3).v=v3/\(s.env 4).v=v4/\(s.env 13).v=v13/\(s.env 14).v=v14/\s.mem=s0.mem/\s.gh=s0.gh/\s0.next<=s.next) (fun r hr s k h ih hk=>?_) _ _ ⟨e2,e3,e4,e13,e14,rfl,rfl,yl _,e5,e41,e42⟩ (fun e s h=>by obtain⟨rfl,h1,h2,h3,h4,h5,h6,h7,h8⟩:=h;exact hk _ h1 h2 h3 h4 h5 h6 h7 h8)
 clear e2 e3 e4 e13 e14 e5 e41 e42;obtain⟨env,mem,nx,obj,gh⟩:=s;obtain⟨e2,e3,e4,e13,e14,hm,hg,hx,e5,e41,e42⟩:=h;dsimp only at e2 e3 e4 e13 e14 hm hg hx e5 e41 e42;subst hm;refine wD ?_;by_cases ba:r<t.qA.length
 ·have fa:(r:Int)<t.qA.length:=by omega
  have hw:=rE (i:=r);obtain⟨m,hmr⟩:∃m,t.qA[r]?=some m:=⟨_,yf ba⟩;have g1:(t.qA.map rD)[r]?=some (rD m):=by rw[yk,hmr];rfl
  rcases hc with⟨h0,_⟩|⟨tn,nn,hwx,htn,wg,pd⟩
  ·rw[List.map_eq_nil_iff.1 h0]at ba;exact absurd ba (Nat.not_lt_zero _)
  have hR:=NG hL hW (j:=6) (by omega);simp only[QE,Y0o,Y0d,hwx,yc]at hR;have xh:=IS (dG t.qA) g1 (o:=5) (z:=8) (by omega);have rg:=eR (dG t.qA) g1 (o:=5) (z:=8) (by omega) .no;rw[Bs]at xh rg;have ge:=jZ _ m.dflt (Nat.lt_succ_self _) (je m (yr hmr));have pe:=uQ m.dflt;have jg:=jT pd;simp only[GR]at ge;generalize ja:qD (t.qA.map rD)=row at *
  generalize lc:lD L W=R at *
  simp[TI,-J,-yb,-y9,y0,-eD,-KC,FC,HC,JC,DC,e5,e41,e42,ba,fa,hw,m9,hR,FC,pd,xh,pe,ge,rg,jg];exact ih ba _ ⟨by simp[e2],by simp[e3],by simp[e4],by simp[e13],by simp[e14],rfl,hg,by dsimp only;omega,by simp[e5],by simp[e41],by simp⟩
 ·have fa:¬ (r:Int)<t.qA.length:=by omega
  simp[TI,-J,-yb,-y9,y0,-eD,-KC,FC,HC,JC,DC,e41,e42,fa];exact hk _ _ ⟨rfl,by simp[e2],by simp[e3],by simp[e4],by simp[e13],by simp[e14],rfl,hg,by dsimp only;omega⟩
structure CpI (L:List BC)(N0 M2:Nat)(W:List (SC×SC))(i:Nat)(s0 s:LC):Prop where
 e2:(s.env 2).v=.ptr 2 M2 0
 e3:(s.env 3).v=.ptr 3 N0 0
 e13:(s.env 13).v=.int .i64 L.length
 e14:(s.env 14).v=.int .i64 i
 m2:s.mem 2 M2=some [⟨.sl true [],.ex⟩]
 m3:s.mem 3 N0=some [⟨.ref 9 N0 10 0 L.length L.length,.no⟩]
 m9:s.mem 9 N0=some (lD L W)
 len:W.length=L.length
 done:∀(j:Nat)(t:BC)(w:SC×SC),j<i->L[j]?=some t->W[j]?=some w->MG s.mem s.next w.1 2 (t.wA.map fD)/\MG s.mem s.next w.2 13 (t.qA.map rD)
 rest:∀(j:Nat)(t:BC)(w:SC×SC),i<=j->L[j]?=some t->W[j]?=some w->w=IV t
 nd:(W.flatMap DL).Nodup
 fr:∀v∈W,∀p∈DL v,p.2<s.next
 gh:s.gh=s0.gh
 old:∀t n,n<s0.next->s.mem t n=s0.mem t n
 nx:s0.next<=M2/\s0.next<=N0/\M2<s.next/\N0<s.next
def Fv (t:BC):Prop:=(t.sn=true->t.wA=[])/\(t.mn=true->t.qA=[])/\t.wA.length<=1000/\t.qA.length<=1000/\∀m∈t.qA,m.dflt.lay
theorem MG.up {mem na:Nat->Nat->Option (List SC)}{nx nx':Nat}{x:SC}{z:Nat}{l:List (List AV)}(h:MG mem nx x z l)(hm:∀t n,t∈KS->n<nx->na t n=mem t n)(hx:nx<=nx'):MG na nx' x z l:=by
 rcases h with h|⟨t,n,h1,h2,h3,h4⟩
 ·exact .inl h
 ·exact .inr ⟨t,n,h1,h2,by omega,by rw[hm t n h2 h3];exact h4⟩
theorem HG (l:List PG):ND (l.map fD)=true:=BH _ _ fun _=>rfl
theorem GG (l:List ED):ND (l.map rD)=true:=BH _ _ fun _=>rfl
theorem J7 (l:List BC):ND (l.map GC)=true:=BH _ _ fun _=>rfl
theorem sI {α:Type}{l:List α}{i:Nat}{x:α}(h:l[i]?=some x):l.set i x=l:=by
 obtain⟨hi,rfl⟩:=yn.1 h;exact List.set_getElem_self hi
theorem cp_out {rv:RV}{L:List BC}{N0 M2:Nat}(hl:L.length<=1000)(je:∀t∈L,Fv t)(s0 s:LC)(W:List (SC×SC))(h:CpI L N0 M2 W 0 s0 s)(k:Ex->LC->Option RV)
  (hk:∀s' W,CpI L N0 M2 W L.length s0 s'->k (.exit 0) s'=some rv):HJ aE LD xH s k=some rv:=by
 refine UH L.length (fun i s=>∃W,CpI L N0 M2 W i s0 s) (fun e s=>e=.exit 0/\∃W,CpI L N0 M2 W L.length s0 s) (fun i hi s k h ih hk=>?_) _ _ ⟨W,h⟩ (fun e s h=>by obtain⟨rfl,W,h⟩:=h;exact hk _ W h);obtain⟨W,h⟩:=h;obtain⟨env,mem,nx,obj,gh⟩:=s;obtain⟨e2,e3,e13,e14,m2,m3,m9,len,done,rest,nd,fr,hg,old,hn1,hn2,hn3,hn4⟩:=h;dsimp only at e2 e3 e13 e14 m2 m3 m9 done fr hg old hn3 hn4;refine wD ?_;by_cases ba:i<L.length
 ·have fa:(i:Int)<L.length:=by omega
  have hw:=rE (i:=i);obtain⟨t,ht⟩:∃t,L[i]?=some t:=⟨_,yf ba⟩;have hWi:W[i]?=some (IV t):=by
   obtain⟨w,hw⟩:∃w,W[i]?=some w:=⟨_,yf (by omega)⟩;rw[hw,rest i t w (yl _) ht hw]
  obtain⟨k1,k2,k3,k4,k5⟩:=je t (yr ht);have c1:=clo_sy t.sn (t.wA.map fD) (AH _) (fun h=>by rw[k1 h];rfl) (HG _) (by simp;omega);have c2:=clo_me t.mn (t.qA.map rD) (dG _) (fun h=>by rw[k2 h];rfl) (GG _) (by simp;omega);have hR5:=NG ht hWi (j:=5) (by omega);simp only[QE,IV,Y0o,Y0d]at hR5;have wt:L.set i t=L:=sI ht;have t1:(t.wA.map fD).all (fun c=>c.all AV.tA)=true:=HG _;have t2:(t.qA.map rD).all (fun c=>c.all AV.tA)=true:=GG _;have w1:=AH t.wA;have w2:=dG t.qA;have b1:t.wA≠[]->t.sn=false:=fun h=>by cases hk:t.sn with|false=>rfl|true=>exact absurd (k1 hk) h
  have b2:t.qA≠[]->t.mn=false:=fun h=>by cases hk:t.mn with|false=>rfl|true=>exact absurd (k2 hk) h
  have z1:(t.wA.map fD).length=t.wA.length:=yc _;have z2:(t.qA.map rD).length=t.qA.length:=yc _
  -- what the two lists come to
  obtain⟨x5,hx5⟩:∃x5:SC,x5=if t.wA=[]then⟨.sl t.sn [],.ex⟩else⟨.ref 26 (nx+3) 2 0 t.wA.length t.wA.length,.no⟩:=⟨_,rfl⟩
  obtain⟨x6,hx6⟩:∃x6:SC,x6=if t.qA=[]then⟨.sl t.mn [],.ex⟩else⟨.ref 34 (nx+4) 13 0 t.qA.length t.qA.length,.no⟩:=⟨_,rfl⟩
  have hW5:(W.set i (x5,(IV t).2))[i]?=some (x5,(IV t).2):=Y0n (by omega);have hst5:KC false 1 (i*10+5) (lD L W) x5.v x5.a=some (lD L (W.set i (x5,(IV t).2))):=by
   have:=tG ht hWi (j:=5) (t':=t) (w':=(x5,(IV t).2)) (x:=x5.v) (a:=x5.a) (by omega) (by rw[hx5];split<;>rfl) (by rfl);rw[wt]at this;exact this
  have hst6:KC false 1 (i*10+6) (lD L (W.set i (x5,(IV t).2))) x6.v x6.a=some (lD L (W.set i (x5,x6))):=by
   have:=tG ht hW5 (j:=6) (t':=t) (w':=(x5,x6)) (x:=x6.v) (a:=x6.a) (by omega) (by rw[hx6];split<;>rfl) (by rfl);rw[wt,List.set_set]at this;exact this
  have hR6:=NG ht hW5 (j:=6) (by omega);simp only[QE,IV,Y0o,Y0d]at hR6;have hW6:(W.set i (x5,x6))[i]?=some (x5,x6):=Y0n (by omega);have hR6':=NG ht hW6 (j:=6) (by omega);simp only[QE,Y0o,Y0d]at hR6';simp only[IV]at hst5 hst6 hR6;have h26:MG mem nx x5 2 (t.wA.map fD)\/x5=⟨.ref 26 (nx+3) 2 0 t.wA.length t.wA.length,.no⟩:=by
   rw[hx5];split
   ·rename_i h;exact .inl (.inl ⟨by rw[h];rfl,_,rfl⟩)
   ·exact .inr rfl
  have rb:∀p∈DL (x5,x6),nx+3<=p.2/\p.2<=nx+4:=fun p hp=>by
   rw[hx5,hx6]at hp;by_cases g1:t.wA=[]<;>by_cases g2:t.qA=[]<;>simp[DL,wN,g1,g2]at hp
   ·subst hp;exact⟨Nat.le_succ _,yl _⟩
   ·subst hp;exact⟨yl _,Nat.le_succ _⟩
   ·rcases hp with rfl | rfl
    ·exact⟨yl _,Nat.le_succ _⟩
    ·exact⟨Nat.le_succ _,yl _⟩
  -- the state behind the round
  have JJ:∀(env':Nat->SC)(na:Nat->Nat->Option (List SC))(nx':Nat)(tb:Nat->Nat->Option AV),nx+5<=nx'->(∀t n,n<nx->¬(t=9/\n=N0)->na t n=mem t n)->na 9 N0=some (lD L (W.set i (x5,x6)))->(t.wA≠[]->na 26 (nx+3)=some (qD (t.wA.map fD)))->(t.qA≠[]->na 34 (nx+4)=some (qD (t.qA.map rD))) →
    (env' 2).v=.ptr 2 M2 0->(env' 3).v=.ptr 3 N0 0->(env' 13).v=.int .i64 L.length->(env' 14).v=.int .i64 ((i+1:Nat):Int)->CpI L N0 M2 (W.set i (x5,x6)) (i+1) s0 ⟨env',na,nx',tb,gh⟩:=fun env' na nx' tb bw ic h9 h26 h34 a2 a3 a13 a14=>by
   have hup:∀t n,t∈KS->n<nx->na t n=mem t n:=fun t n ht hn=>ic t n hn fun e=>by
    rw[e.1]at ht;exact absurd ht (by decide)
   refine⟨a2,a3,a13,a14,?_,?_,h9,by rw[List.length_set];exact len,?_,?_,?_,?_,hg,?_,hn1,hn2,by dsimp only;omega,by dsimp only;omega⟩
   ·rw[<- m2];exact ic 2 M2 hn3 (fun e=>absurd e.1 (by decide))
   ·rw[<- m3];exact ic 3 N0 hn4 (fun e=>absurd e.1 (by decide))
   ·intro j u w hj hu jr;by_cases au:j=i
    ·subst au;rw [hW6] at jr;injection jr with jr;subst jr;rw [ht] at hu;injection hu with hu;subst hu;dsimp only;constructor
     ·rw [hx5];split
      ·rename_i h;exact .inl ⟨by rw[h];rfl,_,rfl⟩
      ·rename_i h;exact .inr ⟨26,nx+3,by rw[z1],by decide,by omega,h26 h⟩
     ·rw [hx6];split
      ·rename_i h;exact .inl ⟨by rw[h];rfl,_,rfl⟩
      ·rename_i h;exact .inr ⟨34,nx+4,by rw[z2],by decide,by omega,h34 h⟩
    ·rw[List.getElem?_set_ne (fun e=>au e.symm)]at jr;obtain⟨g1,g2⟩:=done j u w (by omega) hu jr;exact⟨g1.up hup (by dsimp only;omega),g2.up hup (by dsimp only;omega)⟩
   ·intro j u w hj hu jr;rw[List.getElem?_set_ne (by omega)]at jr;exact rest j u w (by omega) hu jr
   ·refine Px hWi nd ?_ fun p hp=>.inr fun v hv hpv=>?_
    ·rw[hx5,hx6];by_cases g1:t.wA=[]<;>by_cases g2:t.qA=[]<;>simp[DL,wN,g1,g2]
    ·have h1:=fr v hv p hpv;have h2:=(rb p hp).1;omega
   ·intro v hv p hp;rcases List.mem_or_eq_of_mem_set hv with hv | rfl
    ·have:=fr v hv p hp;dsimp only;omega
    ·have h2:=(rb p hp).2;dsimp only;omega
   ·intro t n hn;exact(ic t n (by omega) (fun e=>by rw[e.2]at hn;omega)).trans (old t n hn)
  have hcell6:∀(na:Nat->Nat->Option (List SC))(nx':Nat),nx+5<=nx'->(t.qA≠[]->na 34 (nx+4)=some (qD (t.qA.map rD)))->MG na nx' x6 13 (t.qA.map rD):=fun na nx' bw h34=>by
   rw[hx6];split
   ·rename_i h;exact .inl ⟨by rw[h];rfl,_,rfl⟩
   ·rename_i h;exact .inr ⟨34,nx+4,by rw[z2],by decide,by omega,h34 h⟩
  have jb:=ih ba;have q:=@cp_in rv L (W.set i (x5,x6)) N0 i t (x5,x6);have y1:(t.wA.map fD=[])=(t.wA=[]):=by simp
  have y2:(t.qA.map rD=[])=(t.qA=[]):=by simp
  generalize hss:t.wA.map fD=ss at *
  generalize bg:t.qA.map rD=ms at *
  generalize hT0:lD L W=R0 at *
  generalize hT1:lD L (W.set i (x5,⟨.sl t.mn ms,.no⟩))=R1 at *
  generalize hT2:lD L (W.set i (x5,x6))=R2 at *
  by_cases h1:t.wA=[]<;>by_cases h2:t.qA=[]
  all_goals
   simp only[h1,h2,if_true,if_false]at hx5 hx6;subst hx5;subst hx6
   try rw[b1 h1]at c1 hR5
   try rw[b2 h2]at c2 hR6
   simp[xH,-J,-yb,-y9,y0,-eD,-KC,FC,HC,JC,DC,e3,e13,e14,ba,fa,m3,m9,hR5,hst5,hR6,hst6,hR6',c1,c2,w1,w2,y1,y2,z1,z2,h1,h2,FC,t1,t2,-ye];refine q (v2:=.ptr 2 M2 0) (v3:=.ptr 3 N0 0) (v4:=.int .i64 i) (v13:=.int .i64 L.length) (v14:=.int .i64 i) ht hW6 (by omega) k5 _ (by simp[CC]) (hcell6 _ _ (by dsimp only;omega) (fun h=>by first|exact absurd h2 h|simp[CC])) (by simp[e2]) (by simp[e3]) (by simp) (by simp[e13]) (by simp[e14]) (by simp) (by simp[h2]) (by simp) _ (fun s' a2 a3 a4 a13 a14 am ag an=>?_);obtain⟨env',na,nx',tb,lj⟩:=s';dsimp only at a2 a3 a4 a13 a14 am ag an;subst am;subst ag;simp[-J,-yb,-y9,y0,-eD,-KC,FC,HC,JC,DC,a14,hw];refine jb _ ⟨_,JJ _ _ _ _ (by omega) (fun t n h1 h2=>?_) (by simp[CC]) (fun h=>?_) (fun h=>?_) (by simp[a2]) (by simp[a3]) (by simp[a13]) (by simp)⟩
   ·have e1:¬ n=nx + 3:=by omega
    have e2:¬n=nx+4:=by omega
    simp[CC,h2,e1,e2]
   ·first|exact absurd h1 h|simp[CC]
   ·first|exact absurd h2 h|simp[CC]
 ·have fa:¬ (i:Int)<L.length:=by omega
  have:i=L.length:=by omega
  subst this;simp[xH,-J,-yb,-y9,y0,-eD,-KC,FC,HC,JC,DC,e13,e14];exact hk _ _ ⟨rfl,W,⟨by simp[e2],by simp[e3],by simp[e13],by simp[e14],m2,m3,m9,len,fun j t w h1 h2 h3=>by obtain⟨g1,g2⟩:=done j t w h1 h2 h3;exact⟨g1.up (fun _ _ _ _=>rfl) (by dsimp only;omega),g2.up (fun _ _ _ _=>rfl) (by dsimp only;omega)⟩,rest,nd,fun v hv p hp=>by have:=fr v hv p hp;dsimp only;omega,hg,old,hn1,hn2,by dsimp only;omega,by dsimp only;omega⟩⟩
theorem s7 {lp:LpT}{b:C}{k:Ex->LC->Option RV}{j:Nat}{s:LC}:aN lp b k (.exit j) s=k (.exit j) s:=(rfl)
theorem Mh {r:RV}(s:LC)(sc:CT)(a:An)(hl:sc.types.length<=1000)(oz:sc.nl=true->sc.types=[])(je:∀t∈sc.types,Fv t)(k:SC->LC->Option RV)
  (hk:∀(s':LC)(W:List (SC×SC))(N0:Nat)(V0:AV),aZ sc.types W N0 s'.next V0 s'.mem->(∀v∈W,∀p∈DL v,p.2<s'.next)->s'.gh=s.gh->(∀t n,n<s.next->s'.mem t n=s.mem t n)->s.next<=N0->s.next<=s'.next->k ⟨.agg [V0],.no⟩ s'=some r):Rq aE LD 25 [⟨.agg (xK sc),a⟩] s k=some r:=by
 obtain⟨env,mem,nx,obj,gh⟩:=s;dsimp only at hk;have c1:=clo_ty sc.nl (sc.types.map GC) (Ku _) (fun h=>by rw[oz h];rfl) (J7 _) (by simp;omega);have t1:(sc.types.map GC).all (fun c=>c.all AV.tA)=true:=J7 _;have w1:=Ku sc.types;have y1:(sc.types.map GC=[])=(sc.types=[]):=by simp
 have z1:(sc.types.map GC).length=sc.types.length:=yc _;refine wM HH rfl rfl ?_;by_cases h1:sc.types=[]
 ·rw [h1] at c1;simp only [yQ] at c1;simp [HH,-J,-yb,-y9,y0,-eD,-KC,FC,HC,JC,DC,xK,h1,c1];refine wD ?_;simp [xH,-J,-yb,-y9,y0,-eD,-KC,FC,HC,JC,DC,HC,DC,NH,qK,SK,s7];refine hk _ [] (nx + 1) _ ⟨by rw [h1]; rfl,.inl ⟨h1,_,rfl⟩,fun i t w h _=>(by rw [h1] at h; cases h),(by simp)⟩ (fun v hv=>(by cases hv)) ?gh (fun t n hn=>?old) (by omega) ?nx
  case gh=>rfl
  case nx=>dsimp only;omega
  have e1:¬n=nx:=by omega
  have e2:¬n=nx+1:=by omega
  simp[CC,e1,e2]
 ·have hnf:sc.nl=false:=by cases h:sc.nl with | false=>rfl | true=>exact absurd (oz h) h1
  rw[hnf]at c1;have q:=@cp_out r sc.types (nx+1) nx hl je ⟨env,mem,nx,obj,gh⟩;have himm:=Rf sc.types;have pe:∀v∈sc.types.map IV,DL v=[]:=fun v hv=>by
   obtain⟨t,_,rfl⟩:=yD.1 hv;rfl
  have le:(sc.types.map IV).flatMap DL=[]:=List.flatMap_eq_nil_iff.2 pe;generalize hL:sc.types.map GC=ts at *
  simp[HH,-J,-yb,-y9,y0,-eD,-KC,FC,HC,JC,DC,xK,hL,hnf,h1,c1,w1,t1,y1,z1,-ye];refine q _ (sc.types.map IV) ⟨by simp,by simp,by simp,by simp,by simp[CC],by simp[CC],by simp[CC,himm],by simp,fun j t w hj=>absurd hj (Nat.not_lt_zero _),fun j t w _ h1 h2=>?rest,by rw[le];exact List.nodup_nil,fun v hv p hp=>(by rw[pe v hv]at hp;cases hp),?gh2,fun t n hn=>?old2,?nx2⟩ _ (fun s' W h'=>?main)
  case gh2=>rfl
  case nx2=>dsimp only;omega
  case rest =>
   rw[yk,h1]at h2;injection h2 with h2;exact h2.symm
  case old2 =>
   have e1:¬n=nx:=fun e=>by rw[e]at hn;exact absurd hn (Nat.lt_irrefl _)
   have e2:¬n=nx+1:=fun e=>by rw[e]at hn;dsimp only at hn;omega
   simp[CC,e1,e2]
  case main =>
   obtain⟨env',na,nx',tb,lj⟩:=s';obtain⟨e2,e3,e13,e14,m2,m3,m9,len,done,rest,nd,fr,hg,old,hn1,hn2,hn3,hn4⟩:=h';dsimp only at e2 e3 e13 e14 m2 m3 m9 done fr hg old hn3 hn4;simp[-J,-yb,-y9,y0,-eD,-KC,FC,HC,JC,DC,e2,e3,m2,m3,HC,DC,NH,qK,SK];have ua:∀t n,t∈KS->¬(t=2/\n=nx):=fun t n ht e=>by
    rw[e.1]at ht;exact absurd ht (by decide)
   refine hk _ W (nx+1) _ ⟨len,.inr ⟨h1,rfl,by simp[CC,m9],by dsimp only;omega⟩,fun i t w g1 g2=>?_,nd⟩ (fun v hv p hp=>by have:=fr v hv p hp;dsimp only;omega) hg (fun t n hn=>?_) (by omega) (by dsimp only at hn1 ⊢;omega)
   ·obtain⟨c5,c6⟩:=done i t w (yn.1 g1).1 g1 g2;exact⟨c5.up (fun t n ht _=>by simp only[CC];rw[if_neg (ua t n ht)]) (by dsimp only;omega),c6.up (fun t n ht _=>by simp only[CC];rw[if_neg (ua t n ht)]) (by dsimp only;omega)⟩
   ·have e1:¬ n=nx:=by omega
    have:=old t n hn;simp[CC,e1,this]
theorem P1 {sz:Nat}{l:List (List AV)}(h:kD sz l=true){k:Nat}{c:List AV}(hk:l[k]?=some c){j:Nat}{x:AV}(hj:j<sz)(hx:c[j]?=some x):(qD l)[k*sz+j]?=some ⟨x,.no⟩:=by
 obtain⟨h1,h2⟩:=AU h hk (o:=j) (z:=1) (by omega);have:(((qD l).drop (k*sz+j)).take 1)[0]?=(((c.drop j).take 1).map (fun v=>(⟨v,.no⟩:SC)))[0]?:=by rw[h1]
 rw[yK,if_pos (by omega),yI,yV,yk,yK,if_pos (by omega),yI,yV,hx]at this;exact this
def mOut (P:List ED)(s:LC):Prop:=(P=[]/\(s.env 7).v=.sl true [])\/∃N,P≠[]/\(s.env 7).v=.ref 41 N 13 0 P.length P.length/\s.mem 41 N=some (qD (P.map rD))/\N<s.next
theorem mOut.of {P:List ED}{s s':LC}(h:mOut P s)(h7:(s'.env 7).v=(s.env 7).v)(hm:s'.mem=s.mem)(hn:s.next<=s'.next):mOut P s':=by
 rcases h with⟨h1,h2⟩|⟨N,h1,h2,h3,h4⟩
 ·exact .inl ⟨h1,h7.trans h2⟩
 ·exact .inr ⟨N,h1,h7.trans h2,by rw[hm];exact h3,Y06 h4 hn⟩
theorem mJ (nt:Nat)(e g:Nat->SC):zY nt (R9 nt e g)=g:=funext fun t=>by
 rw[T1,uH,if_neg (by omega)];congr 1;omega
structure aR (s0 s:LC):Prop where
 gh:s.gh=s0.gh
 mem:s.mem=s0.mem
 next:s0.next<=s.next
structure Plm (k:Nat)(N0 n3 n5:Nat)(z:Int)(l:List ED)(s:LC):Prop where
 m5:∃a,s.mem 5 n5=some [⟨.ptr 9 N0 (k*10),a⟩]
 m9:∃R tn nn,s.mem 9 N0=some R/\(l≠[]->R[k*10+6]?=some ⟨.ref tn nn 13 0 l.length l.length,.no⟩/\s.mem tn nn=some (qD (l.map rD)))
 m3:∃R,s.mem 3 n3=some R/\R[4]?=some ⟨.int .i64 z,.no⟩
theorem Plm.of {k N0 n3 n5:Nat}{z:Int}{l:List ED}{s s':LC}(h:Plm k N0 n3 n5 z l s)(hm:s'.mem=s.mem):Plm k N0 n3 n5 z l s':=⟨by rw[hm];exact h.m5,by rw[hm];exact h.m9,by rw[hm];exact h.m3⟩
theorem plm1 {r:RV}{kk N0 n3 n5:Nat}{z:Int}{l:List ED}{i:Nat}{x:ED}{a0 a1 a2:An}(hx:l[i]?=some x)(s:LC)(h:Plm kk N0 n3 n5 z l s)(k:SC->LC->Option RV)
  (hk:∀s',aR s s'->k ⟨.bool (decide (z<x.id)),.no⟩ s'=some r):Rq aE LD 61 [⟨.int .i64 i,a0⟩,⟨.ptr 5 n5 0,a1⟩,⟨.ptr 3 n3 0,a2⟩] s k=some r:=by
 obtain⟨⟨a5,m5⟩,⟨R,tn,nn,m9,hl⟩,⟨R3,m3,h3⟩⟩:=h;have ba:=(yn.1 hx).1;obtain⟨h9,mm⟩:=hl (fun e=>by rw[e]at ba;exact absurd ba (Nat.not_lt_zero _));have g1:(l.map rD)[i]?=some (rD x):=by rw[yk,hx];rfl
 have hc:=P1 (dG l) g1 (j:=0) (x:=.int .i64 x.id) (by omega) rfl;rw[yV]at hc;generalize qD (l.map rD)=row at *
 refine wM lH rfl rfl ?_;simp[lH,-J,-yb,-y9,y0,-eD,-KC,FC,HC,JC,DC,FC,HC,m5,m9,h9,mm,m3,h3,ba,hc,SK,NH,qK];exact hk _ ⟨rfl,rfl,by dsimp only;omega⟩
theorem plm_h {r:RV}{kk N0 n3 n5:Nat}{z:Int}{l:List ED}{a0 a1:An}{n:Int}(hn:n=l.length)(hl:l.length<=100000)(s0:LC)(h:Plm kk N0 n3 n5 z l s0)(k:SC->LC->Option RV)
  (hk:∀s' a,aR s0 s'->k ⟨.int .i64 (qL ED.id z l:Nat),a⟩ s'=some r):Rq aE LD 60 [⟨.int .i64 n,a0⟩,⟨.fn 61 [.ptr 5 n5 0,.ptr 3 n3 0],a1⟩] s0 k=some r:=by
 subst hn;refine wM bH rfl rfl ?_;simp[bH,-J,-yb,-y9,y0];refine UH l.length (fun i s=>(s.env 0).v=.int .i64 l.length/\(s.env 1).v=.fn 61 [.ptr 5 n5 0,.ptr 3 n3 0]/\(s.env 6).v=.int .i64 l.length/\(s.env 7).v=.int .i64 i/\aR s0 s/\∀j y,j<i->l[j]?=some y->y.id<=z)
  (fun e s=>(e=.exit 0/\(s.env 0).v=.int .i64 l.length/\aR s0 s/\qL ED.id z l=l.length)\/(e=.ret/\(s.env 4).v=.int .i64 (qL ED.id z l:Nat)/\aR s0 s)) (fun i hi s kont h2 ih hk=>?_) _ _ ?_ (fun e s h2=>?_)
 ·obtain ⟨e0,e1,e6,e7,⟨sg,sm,sn⟩,gd⟩:=h2;have hP:=h.of sm;refine wD ?_;by_cases ba:i<l.length
  ·have fa:(i:Int)<l.length:=by omega
   have hw:=rE (i:=i);obtain⟨x,hx⟩:∃x,l[i]?=some x:=⟨_,yf ba⟩;have jb:=ih ba;obtain⟨env,mem,nx,obj,gh⟩:=s;dsimp only at e0 e1 e6 e7 sg sm sn;simp[CH,-J,-yb,-y9,y0,e1,e6,e7,fa];refine plm1 (kk:=kk) (N0:=N0) (z:=z) hx _ ?hp _ (fun s' hs=>?main)
   case hp=>exact hP.of rfl
   obtain⟨env',na,nx',tb,lj⟩:=s';obtain⟨h1,h2,h3⟩:=hs;dsimp only at h1 h2 h3;subst h1;subst h2;by_cases hz:z<x.id
   ·have pp:qL ED.id z l=i:=MY gd (.inr ⟨x,hx,hz⟩) (by omega);rw[pp]at hk;simp[-J,-yb,-y9,y0,hz];exact hk _ _ (.inr ⟨rfl,by simp,by simp[mJ,sg],sm,by dsimp only;omega⟩)
   ·simp [-J,-yb,-y9,y0,hz,e7,hw];refine jb _ ⟨by simp [e0],by simp [e1],by simp [e6],by simp,⟨by simp [mJ,sg],sm,by dsimp only; omega⟩,fun j y hj hy=>?_⟩;by_cases au:j=i
    ·subst au;rw[hx]at hy;injection hy with hy;subst hy;omega
    ·exact gd j y (by omega) hy
  ·have fa:¬ (i:Int)<l.length:=by omega
   have wh:i=l.length:=by omega
   subst wh;have pp:qL ED.id z l=l.length:=MY gd (.inl rfl) (yl _);simp[CH,-J,-yb,-y9,y0,e6,e7];exact hk _ _ (.inl ⟨rfl,by simp[e0],⟨sg,sm,by dsimp only;omega⟩,pp⟩)
 ·exact⟨by simp,by simp,by simp,by simp,⟨rfl,rfl,by dsimp only[LC.lB];omega⟩,fun j y hj=>absurd hj (Nat.not_lt_zero _)⟩
 ·rcases h2 with ⟨rfl,e0,⟨sg,sm,sn⟩,hp⟩ | ⟨rfl,e4,⟨sg,sm,sn⟩⟩
  ·rw[hp]at hk;simp[-J,-yb,-y9,y0,e0,SK,NH,qK];exact hk _ _ ⟨sg,sm,by dsimp only;omega⟩
  ·simp [-J,-yb,-y9,y0,SK,NH,qK];have lu:s.env 4=⟨.int .i64 (qL ED.id z l:Nat),(s.env 4).a⟩:=by rw [<- e4]
   rw[lu];exact hk _ _ ⟨sg,sm,sn⟩
structure Pls (k:Nat)(N0 n3 n5:Nat)(z:Int)(l:List PG)(s:LC):Prop where
 m5:∃a,s.mem 5 n5=some [⟨.ptr 9 N0 (k*10),a⟩]
 m9:∃R tn nn,s.mem 9 N0=some R/\(l≠[]->R[k*10+5]?=some ⟨.ref tn nn 2 0 l.length l.length,.no⟩/\s.mem tn nn=some (qD (l.map fD)))
 m3:∃R,s.mem 3 n3=some R/\R[17]?=some ⟨.int .i64 z,.no⟩
theorem Pls.of {k N0 n3 n5:Nat}{z:Int}{l:List PG}{s s':LC}(h:Pls k N0 n3 n5 z l s)(hm:s'.mem=s.mem):Pls k N0 n3 n5 z l s':=⟨by rw[hm];exact h.m5,by rw[hm];exact h.m9,by rw[hm];exact h.m3⟩
theorem pls1 {r:RV}{kk N0 n3 n5:Nat}{z:Int}{l:List PG}{i:Nat}{x:PG}{a0 a1 a2:An}(hx:l[i]?=some x)(s:LC)(h:Pls kk N0 n3 n5 z l s)(k:SC->LC->Option RV)
  (hk:∀s',aR s s'->k ⟨.bool (decide (z<x.id)),.no⟩ s'=some r):Rq aE LD 64 [⟨.int .i64 i,a0⟩,⟨.ptr 5 n5 0,a1⟩,⟨.ptr 3 n3 0,a2⟩] s k=some r:=by
 obtain⟨⟨a5,m5⟩,⟨R,tn,nn,m9,hl⟩,⟨R3,m3,h3⟩⟩:=h;have ba:=(yn.1 hx).1;obtain⟨h9,mm⟩:=hl (fun e=>by rw[e]at ba;exact absurd ba (Nat.not_lt_zero _));have g1:(l.map fD)[i]?=some (fD x):=by rw[yk,hx];rfl
 have hc:=P1 (AH l) g1 (j:=0) (x:=.int .i64 x.id) (by omega) rfl;rw[yV]at hc;generalize qD (l.map fD)=row at *
 refine wM zH rfl rfl ?_;simp[zH,-J,-yb,-y9,y0,-eD,-KC,FC,HC,JC,DC,FC,HC,m5,m9,h9,mm,m3,h3,ba,hc,SK,NH,qK];exact hk _ ⟨rfl,rfl,by dsimp only;omega⟩
theorem pls_h {r:RV}{kk N0 n3 n5:Nat}{z:Int}{l:List PG}{a0 a1:An}{n:Int}(hn:n=l.length)(hl:l.length<=100000)(s0:LC)(h:Pls kk N0 n3 n5 z l s0)(k:SC->LC->Option RV)
  (hk:∀s' a,aR s0 s'->k ⟨.int .i64 (qL PG.id z l:Nat),a⟩ s'=some r):Rq aE LD 60 [⟨.int .i64 n,a0⟩,⟨.fn 64 [.ptr 5 n5 0,.ptr 3 n3 0],a1⟩] s0 k=some r:=by
 subst hn;refine wM bH rfl rfl ?_;simp[bH,-J,-yb,-y9,y0];refine UH l.length (fun i s=>(s.env 0).v=.int .i64 l.length/\(s.env 1).v=.fn 64 [.ptr 5 n5 0,.ptr 3 n3 0]/\(s.env 6).v=.int .i64 l.length/\(s.env 7).v=.int .i64 i/\aR s0 s/\∀j y,j<i->l[j]?=some y->y.id<=z)
  (fun e s=>(e=.exit 0/\(s.env 0).v=.int .i64 l.length/\aR s0 s/\qL PG.id z l=l.length)\/(e=.ret/\(s.env 4).v=.int .i64 (qL PG.id z l:Nat)/\aR s0 s)) (fun i hi s kont h2 ih hk=>?_) _ _ ?_ (fun e s h2=>?_)
 ·obtain ⟨e0,e1,e6,e7,⟨sg,sm,sn⟩,gd⟩:=h2;have hP:=h.of sm;refine wD ?_;by_cases ba:i<l.length
  ·have fa:(i:Int)<l.length:=by omega
   have hw:=rE (i:=i);obtain⟨x,hx⟩:∃x,l[i]?=some x:=⟨_,yf ba⟩;have jb:=ih ba;obtain⟨env,mem,nx,obj,gh⟩:=s;dsimp only at e0 e1 e6 e7 sg sm sn;simp[CH,-J,-yb,-y9,y0,e1,e6,e7,fa];refine pls1 (kk:=kk) (N0:=N0) (z:=z) hx _ ?hp _ (fun s' hs=>?main)
   case hp=>exact hP.of rfl
   obtain⟨env',na,nx',tb,lj⟩:=s';obtain⟨h1,h2,h3⟩:=hs;dsimp only at h1 h2 h3;subst h1;subst h2;by_cases hz:z<x.id
   ·have pp:qL PG.id z l=i:=MY gd (.inr ⟨x,hx,hz⟩) (by omega);rw[pp]at hk;simp[-J,-yb,-y9,y0,hz];exact hk _ _ (.inr ⟨rfl,by simp,by simp[mJ,sg],sm,by dsimp only;omega⟩)
   ·simp [-J,-yb,-y9,y0,hz,e7,hw];refine jb _ ⟨by simp [e0],by simp [e1],by simp [e6],by simp,⟨by simp [mJ,sg],sm,by dsimp only; omega⟩,fun j y hj hy=>?_⟩;by_cases au:j=i
    ·subst au;rw[hx]at hy;injection hy with hy;subst hy;omega
    ·exact gd j y (by omega) hy
  ·have fa:¬ (i:Int)<l.length:=by omega
   have wh:i=l.length:=by omega
   subst wh;have pp:qL PG.id z l=l.length:=MY gd (.inl rfl) (yl _);simp[CH,-J,-yb,-y9,y0,e6,e7];exact hk _ _ (.inl ⟨rfl,by simp[e0],⟨sg,sm,by dsimp only;omega⟩,pp⟩)
 ·exact⟨by simp,by simp,by simp,by simp,⟨rfl,rfl,by dsimp only[LC.lB];omega⟩,fun j y hj=>absurd hj (Nat.not_lt_zero _)⟩
 ·rcases h2 with ⟨rfl,e0,⟨sg,sm,sn⟩,hp⟩ | ⟨rfl,e4,⟨sg,sm,sn⟩⟩
  ·rw[hp]at hk;simp[-J,-yb,-y9,y0,e0,SK,NH,qK];exact hk _ _ ⟨sg,sm,by dsimp only;omega⟩
  ·simp [-J,-yb,-y9,y0,SK,NH,qK];have lu:s.env 4=⟨.int .i64 (qL PG.id z l:Nat),(s.env 4).a⟩:=by rw [<- e4]
   rw[lu];exact hk _ _ ⟨sg,sm,sn⟩
def apS0:C:=.reg [oZ 4 false]
def Pg:C:=.reg [oM 6 1,oC 7 .eql 6 5,oM 8 7,oMg 9 1 8 false,oCi 10 .eql 9 6 8 false,oPo 11 8 10,oM 5 11]
def CL:C:=oR [oM 12 0] (.block 0 (.seq (oR [oC 14 .eql 12 1,oM 13 14] (oD 13 .skip (oR [oC 15 .eql 12 2,oM 13 15] (oD 13 .skip (.reg [oC 16 .eql 12 3,oM 13 16]))))) (oD 13 (oR [oM 17 5,oM 4 17] .ret) (.seq (oR [oC 19 .eql 12 4,oM 18 19] (oD 18 .skip (.reg [oC 20 .eql 12 5,oM 18 20]))) (oD 18 (oR [oM 21 1,oC 22 .eql 21 4,oM 4 22] .ret) (oR [oC 24 .eql 12 6,oM 23 24] (oD 23 (oR [oM 25 5,oM 26 25,oMg 27 1 26 false,oCi 28 .eql 27 4 26 false,oPo 29 26 28,oM 4 29] .ret) (oR [oC 31 .eql 12 7,oM 30 31] (oD 30 (oR [oM 32 1,oC 33 .eql 32 2,oM 34 33,oMg 35 1 34 false,oCi 36 .eql 35 3 34 false,oPo 37 34 36,oM 38 37,oMg 39 1 38 false,oCi 40 .eql 39 7 38 false,oPo 41 38 40,oM 42 41,oMg 43 1 42 false,oCi 44 .eql 43 8 42 false,oPo 45 42 44,oM 4 45] .ret) (oR [oC 47 .eql 12 8,oM 46 47] (oD 46 (oR [oM 48 1,oC 49 .eql 48 4,oM 50 49,oMg 51 1 50 false,oCi 52 .eql 51 6 50 false,oPo 53 50 52,oM 4 53] .ret) (oR [oC 55 .eql 12 9,oM 54 55] (oD 54 (oR [oM 56 1,oC 57 .geq 56 7,oM 58 57,oMg 59 1 58 true,oCi 60 .leq 59 9 58 true,oPa 61 58 60,oM 4 61] .ret) .skip)))))))))))))
def apS3:C:=.reg [oZ 4 false]
def apS4:C:=.ret
theorem Sg:GD.code=.seq apS0 (.seq Pg (.seq CL (.seq apS3 apS4))):=rfl
theorem Ub (a k:Int)(h:¬(a=1\/a=2\/a=3\/a=4\/a=5\/a=6\/a=7\/a=8\/a=9)):QG a k=false:=by
 cases hb:QG a k with
 |false=>rfl
 |true=>exact absurd (c7 a k hb) h
section
variable {r:RV}
include r
theorem Ag {v0:AV}{z:Int}(s:LC)(e0:(s.env 0).v=v0)(e1:(s.env 1).v=.int .i64 z)(k:Ex->LC->Option RV)
  (hk:∀s',(s'.env 0).v=v0->(s'.env 1).v=.int .i64 z->(s'.env 5).v=.bool (iH z)->k .nrm s'=some r):Pg.run (sF MC ZC) (jH MC ZC) s k=some r:=by
 by_cases k5:z=5
 ·simp[Pg,-J,-yb,-y9,y0,e1,k5];refine hk _ (by simp[e0]) (by simp[e1]) (by simp[iH,k5])
 ·by_cases k6:z=6
  ·subst k6;simp[Pg,-J,-yb,-y9,y0,e1];refine hk _ (by simp[e0]) (by simp[e1]) (by simp[iH])
  ·simp[Pg,-J,-yb,-y9,y0,e1,k5,k6];refine hk _ (by simp[e0]) (by simp[e1]) (by simp[iH,k5,k6])
theorem apS2_1 {z:Int}(s:LC)(e0:(s.env 0).v=.int .i64 1)(e1:(s.env 1).v=.int .i64 z)(e5:(s.env 5).v=.bool (iH z))(k:Ex->LC->Option RV)
  (hk:∀s',(s'.env 4).v=.bool (QG 1 z)->k .ret s'=some r):CL.run (sF MC ZC) (jH MC ZC) s k=some r:=by
 simp[CL,-J,-yb,-y9,y0,e0,e1,e5,e0];refine hk _ ?_;simp[QG,e0]
theorem apS2_2 {z:Int}(s:LC)(e0:(s.env 0).v=.int .i64 2)(e1:(s.env 1).v=.int .i64 z)(e5:(s.env 5).v=.bool (iH z))(k:Ex->LC->Option RV)
  (hk:∀s',(s'.env 4).v=.bool (QG 2 z)->k .ret s'=some r):CL.run (sF MC ZC) (jH MC ZC) s k=some r:=by
 simp[CL,-J,-yb,-y9,y0,e0,e1,e5,e0];refine hk _ ?_;simp[QG,e0]
theorem apS2_3 {z:Int}(s:LC)(e0:(s.env 0).v=.int .i64 3)(e1:(s.env 1).v=.int .i64 z)(e5:(s.env 5).v=.bool (iH z))(k:Ex->LC->Option RV)
  (hk:∀s',(s'.env 4).v=.bool (QG 3 z)->k .ret s'=some r):CL.run (sF MC ZC) (jH MC ZC) s k=some r:=by
 simp[CL,-J,-yb,-y9,y0,e0,e1,e5,e0];refine hk _ ?_;simp[QG,e0]
theorem apS2_4 {z:Int}(s:LC)(e0:(s.env 0).v=.int .i64 4)(e1:(s.env 1).v=.int .i64 z)(e5:(s.env 5).v=.bool (iH z))(k:Ex->LC->Option RV)
  (hk:∀s',(s'.env 4).v=.bool (QG 4 z)->k .ret s'=some r):CL.run (sF MC ZC) (jH MC ZC) s k=some r:=by
 simp[CL,-J,-yb,-y9,y0,e0,e1,e5,e0];refine hk _ ?_;simp[QG,e0]
theorem apS2_5 {z:Int}(s:LC)(e0:(s.env 0).v=.int .i64 5)(e1:(s.env 1).v=.int .i64 z)(e5:(s.env 5).v=.bool (iH z))(k:Ex->LC->Option RV)
  (hk:∀s',(s'.env 4).v=.bool (QG 5 z)->k .ret s'=some r):CL.run (sF MC ZC) (jH MC ZC) s k=some r:=by
 simp[CL,-J,-yb,-y9,y0,e0,e1,e5,e0];refine hk _ ?_;simp[QG,e0]
theorem apS2_6 {z:Int}(s:LC)(e0:(s.env 0).v=.int .i64 6)(e1:(s.env 1).v=.int .i64 z)(e5:(s.env 5).v=.bool (iH z))(k:Ex->LC->Option RV)
  (hk:∀s',(s'.env 4).v=.bool (QG 6 z)->k .ret s'=some r):CL.run (sF MC ZC) (jH MC ZC) s k=some r:=by
 by_cases hc:iH z=true
 ·simp[CL,-J,-yb,-y9,y0,e0,e1,e5,hc];refine hk _ ?_;simp[QG,hc]
 ·simp[CL,-J,-yb,-y9,y0,e0,e1,e5,hc];refine hk _ ?_;simp[QG,hc]
theorem apS2_7 {z:Int}(s:LC)(e0:(s.env 0).v=.int .i64 7)(e1:(s.env 1).v=.int .i64 z)(e5:(s.env 5).v=.bool (iH z))(k:Ex->LC->Option RV)
  (hk:∀s',(s'.env 4).v=.bool (QG 7 z)->k .ret s'=some r):CL.run (sF MC ZC) (jH MC ZC) s k=some r:=by
 by_cases k2:z=2
 ·simp[CL,-J,-yb,-y9,y0,e0,e1,e5,k2];refine hk _ ?_;simp[QG,k2]
 ·by_cases k3:z=3
  ·simp[CL,-J,-yb,-y9,y0,e0,e1,e5,k2,k3];refine hk _ ?_;simp[QG,k2,k3]
  ·by_cases k7:z=7
   ·simp[CL,-J,-yb,-y9,y0,e0,e1,e5,k2,k3,k7];refine hk _ ?_;simp[QG,k2,k3,k7]
   ·simp[CL,-J,-yb,-y9,y0,e0,e1,e5,k2,k3,k7];refine hk _ ?_;simp[QG,k2,k3,k7]
theorem apS2_8 {z:Int}(s:LC)(e0:(s.env 0).v=.int .i64 8)(e1:(s.env 1).v=.int .i64 z)(e5:(s.env 5).v=.bool (iH z))(k:Ex->LC->Option RV)
  (hk:∀s',(s'.env 4).v=.bool (QG 8 z)->k .ret s'=some r):CL.run (sF MC ZC) (jH MC ZC) s k=some r:=by
 by_cases k4:z=4
 ·simp[CL,-J,-yb,-y9,y0,e0,e1,e5,k4];refine hk _ ?_;simp[QG,k4]
 ·simp[CL,-J,-yb,-y9,y0,e0,e1,e5,k4];refine hk _ ?_;simp[QG,k4]
theorem apS2_9 {z:Int}(s:LC)(e0:(s.env 0).v=.int .i64 9)(e1:(s.env 1).v=.int .i64 z)(e5:(s.env 5).v=.bool (iH z))(k:Ex->LC->Option RV)
  (hk:∀s',(s'.env 4).v=.bool (QG 9 z)->k .ret s'=some r):CL.run (sF MC ZC) (jH MC ZC) s k=some r:=by
 have hq:QG 9 z=(decide (7<=z)&&decide (z<=9)):=by
  rw[Bool.eq_iff_iff];simp[QG];omega
 by_cases h7:7<=z
 ·simp[CL,-J,-yb,-y9,y0,e0,e1,e5,h7];refine hk _ ?_;simp[hq,h7]
 ·simp[CL,-J,-yb,-y9,y0,e0,e1,e5,h7];refine hk _ ?_;simp[hq,h7]
theorem Tb {a z:Int}(ha:¬(a=1\/a=2\/a=3\/a=4\/a=5\/a=6\/a=7\/a=8\/a=9))(s:LC)(e0:(s.env 0).v=.int .i64 a)(e1:(s.env 1).v=.int .i64 z)(e5:(s.env 5).v=.bool (iH z))(k:Ex->LC->Option RV)
  (hk:∀s',k .nrm s'=some r):CL.run (sF MC ZC) (jH MC ZC) s k=some r:=by
 simp only[not_or]at ha;obtain⟨a1,a2,a3,a4,a5,a6,a7,a8,a9⟩:=ha;simp[CL,-J,-yb,-y9,y0,e0,a1,a2,a3,a4,a5,a6,a7,a8,a9];exact hk _
end
theorem eapp_ev (a z:Int):BD 59 [.int .i64 a,.int .i64 z] (.bool (QG a z)):=by
 refine tD (c:=GD) rfl rfl ?_;rw[Sg];simp[apS0,-J,-yb,-y9,y0];refine Ag (v0:=.int .i64 a) (z:=z) _ (by simp) (by simp) _ (fun s' e0 e1 e5=>?_);simp only[HF];by_cases a1:a=1
 ·subst a1;simp[-J,-yb,-y9,y0];refine apS2_1 s' e0 e1 e5 _ (fun s2 e4=>?_);simp[-J,-yb,-y9,y0,GD,e4]
 ·skip
  by_cases a2:a=2
  ·subst a2;simp[-J,-yb,-y9,y0];refine apS2_2 s' e0 e1 e5 _ (fun s2 e4=>?_);simp[-J,-yb,-y9,y0,GD,e4]
  ·skip
   by_cases a3:a=3
   ·subst a3;simp[-J,-yb,-y9,y0];refine apS2_3 s' e0 e1 e5 _ (fun s2 e4=>?_);simp[-J,-yb,-y9,y0,GD,e4]
   ·skip
    by_cases a4:a=4
    ·subst a4;simp[-J,-yb,-y9,y0];refine apS2_4 s' e0 e1 e5 _ (fun s2 e4=>?_);simp[-J,-yb,-y9,y0,GD,e4]
    ·skip
     by_cases a5:a=5
     ·subst a5;simp[-J,-yb,-y9,y0];refine apS2_5 s' e0 e1 e5 _ (fun s2 e4=>?_);simp[-J,-yb,-y9,y0,GD,e4]
     ·skip
      by_cases a6:a=6
      ·subst a6;simp[-J,-yb,-y9,y0];refine apS2_6 s' e0 e1 e5 _ (fun s2 e4=>?_);simp[-J,-yb,-y9,y0,GD,e4]
      ·skip
       by_cases a7:a=7
       ·subst a7;simp[-J,-yb,-y9,y0];refine apS2_7 s' e0 e1 e5 _ (fun s2 e4=>?_);simp[-J,-yb,-y9,y0,GD,e4]
       ·skip
        by_cases a8:a=8
        ·subst a8;simp[-J,-yb,-y9,y0];refine apS2_8 s' e0 e1 e5 _ (fun s2 e4=>?_);simp[-J,-yb,-y9,y0,GD,e4]
        ·skip
         by_cases a9:a=9
         ·subst a9;simp[-J,-yb,-y9,y0];refine apS2_9 s' e0 e1 e5 _ (fun s2 e4=>?_);simp[-J,-yb,-y9,y0,GD,e4]
         ·skip
          have gd:¬(a=1\/a=2\/a=3\/a=4\/a=5\/a=6\/a=7\/a=8\/a=9):=by simp[*]
          simp[-J,-yb,-y9,y0];refine Tb gd s' e0 e1 e5 _ (fun s2=>?_);simp[-J,-yb,-y9,y0,apS3,apS4,GD,Ub a z gd]
structure RaI (t:BC)(e:aF)(R2 R3:List SC)(s:LC):Prop where
 e2:(s.env 2).v=.ptr 2 1 0
 e3:(s.env 3).v=.ptr 3 1 0
 m2:s.mem 2 1=some R2
 m3:s.mem 3 1=some R3
 t0:R2[0]?=some ⟨.int .i64 t.kind,.no⟩
 tt:eD true 10 0 R2=some ⟨.agg (GC t),.no⟩
 d0:R3[0]?=some ⟨.int .i64 e.kind,.no⟩
 d2:R3[2]?=some ⟨.int .i64 e.id,.no⟩
 d4:R3[4]?=some ⟨.int .i64 e.mem.id,.no⟩
theorem RaI.of {t:BC}{e:aF}{R2 R3:List SC}{s s':LC}(h:RaI t e R2 R3 s)(h2:(s'.env 2).v=(s.env 2).v)(h3:(s'.env 3).v=(s.env 3).v)(hm:s'.mem=s.mem):RaI t e R2 R3 s' :=
 ⟨h2.trans h.e2,h3.trans h.e3,by rw[hm];exact h.m2,by rw[hm];exact h.m3,h.t0,h.tt,h.d0,h.d2,h.d4⟩
def sOut (P:List PG)(s:LC):Prop:=(P=[]/\(s.env 7).v=.sl true [])\/∃N,P≠[]/\(s.env 7).v=.ref 41 N 2 0 P.length P.length/\s.mem 41 N=some (qD (P.map fD))/\N<s.next
theorem sOut.of {P:List PG}{s s':LC}(h:sOut P s)(h7:(s'.env 7).v=(s.env 7).v)(hm:s'.mem=s.mem)(hn:s.next<=s'.next):sOut P s':=by
 rcases h with⟨h1,h2⟩|⟨N,h1,h2,h3,h4⟩
 ·exact .inl ⟨h1,h7.trans h2⟩
 ·exact .inr ⟨N,h1,h7.trans h2,by rw[hm];exact h3,Y06 h4 hn⟩

def qE:List BC->List BC->Bool
 | [],[]=>true
 |x::l,y::m=>decide (x.kind=y.kind)&&qE l m
 | [],_::_=>false
 |_::_,[]=>false
theorem lU:∀l m:List BC,l.length≠m.length->qE l m=false
 | [],[],h=>absurd rfl h
 |x::l,y::m,h=>by rw[qE,lU l m (fun e=>h (by simp[e])),Bool.and_false]
 | [],_::_,_=>rfl
 |_::_,[],_=>rfl
theorem eqk_lp (F:Nat)(l m:List BC)(hl:l.length<=9223372036854775807)(he:l.length=m.length)(hF:∀x∈l,∀y∈m,BD F [.agg (GC x),.agg (GC y)] (.bool (decide (x.kind=y.kind))))(b1 b2:Bool)(r:RV)(k:Ex->LC->Option RV)(hk:∀s',qE l m=true->k (.exit 0) s'=some r)(hr:∀s':LC,qE l m=false->(s'.env 6).v=.bool false->k .ret s'=some r):
  ∀(n i:Nat),i+n=l.length->qE (l.drop i) (m.drop i)=qE l m->∀s':LC,(s'.env 1).v=.sl b2 (m.map GC)->(s'.env 2).v=.fn F []->(s'.env 15).v=.sl b1 (l.map GC)->(s'.env 16).v=.int .i64 l.length->(s'.env 17).v=.int .i64 i->HJ MC ZC OE s' k=some r:=by
 intro n
 induction n with
 |zero =>
  intro i hi hf s' e1 e2 pj dk mr;have ba:¬((i:Int)<l.length):=by omega
  refine wD ?_;simp[OE,-J,tE,y0,dk,mr,ba];refine hk _ ?_;rw[<- hf,yw (by omega),yw (by omega),qE]
 |succ n ih =>
  intro i hi hf s' e1 e2 pj dk mr;have ba:(i:Int)<l.length:=by omega
  have zg:i<l.length:=by omega
  have xf:i<m.length:=by omega
  have hw:=rE (i:=i);have g1:(l.map GC)[i]?=some (GC l[i]):=by simp[zg]
  have g2:(m.map GC)[i]?=some (GC m[i]):=by simp[xf]
  have hx:=hF l[i] (yC _) m[i] (yC _);rw[yv zg,yv xf,qE]at hf;generalize l[i]=x at *
  generalize m[i]=y at *
  simp only[BD,GC]at g1 g2 hx;refine wD ?_;cases h1:decide (x.kind=y.kind)with
  |true =>
   rw[h1]at hx hf;simp[OE,-J,tE,y0,e1,e2,pj,dk,mr,ba,g1,g2,tI,gG,hx,hw];refine ih (i+1) (by omega) (by simpa using hf) _ ?_ ?_ ?_ ?_ ?_<;>simp[*]
  |false =>
   rw[h1]at hx hf;simp[OE,-J,tE,y0,e1,e2,pj,dk,mr,ba,g1,g2,tI,gG,hx];exact hr _ (by simpa using hf.symm) (by simp)
theorem eqk_ev (F:Nat)(l m:List BC)(hl:l.length<=9223372036854775807)(hF:∀x∈l,∀y∈m,BD F [.agg (GC x),.agg (GC y)] (.bool (decide (x.kind=y.kind))))(b1 b2:Bool):BD 20 [.sl b1 (l.map GC),.sl b2 (m.map GC),.fn F []] (.bool (qE l m)):=by
 refine tD (c:=wF) rfl rfl ?_;by_cases he:l.length=m.length
 ·simp [wF,-J,tE,y0,he];refine eqk_lp F l m hl he hF b1 b2 _ _ (fun s' hf=>?main) (fun s' hf h4=>?main2) l.length 0 (by simp) (by simp) _ ?_ ?_ ?_ ?_ ?_
  case main=>simp[-J,tE,y0,hf]
  case main2=>simp[-J,tE,y0,hf,h4]
  all_goals simp[he]
 ·have uh:¬ (l.length:Int)=m.length:=by omega
  simp[wF,-J,tE,y0,uh,lU l m he]
theorem Tz (x y:BC):BD 21 [.agg (GC x),.agg (GC y)] (.bool (decide (x.kind=y.kind))):=by
 refine tD (c:=PJ) rfl rfl ?_;simp[PJ,-J,-yb,-y9,y0,GC]
theorem O7 (n:Int)(x y:BC)(h1:x.qA.length<=40)(h2:y.qA.length<=40)(h3:x.wA.length<=40)(h4:y.wA.length<=40):(AM n x y).length<=244:=by
 have l1:=eK (x.name=y.name) (AQ n y.name);have l2:=eK (x.low=y.low/\x.high=y.high/\x.max=y.max) (xP n y.low y.high y.max);have l3:=eK (x.opn=y.opn) (SQ n y.opn);have l4:=eK (x.key=y.key/\x.elem=y.elem) (cP n y.key y.elem);have l5:=lW n y.qA x.qA;have l6:=uV n x.qA y.qA;have l7:=HU n x.qA y.qA;have l8:=pV n y.wA x.wA;have l9:=nW n x.wA y.wA;have l10:=g9 n x.wA y.wA;simp only[AM,iP,yj];omega
def lG:Nat->List BC->List BC->List aF
 |i,x::l,y::m=>AM i x y++lG (i+1) l m
 |_,_,_=>[]
def OutB (L:List aF)(v:SC):Prop:=v.v=SM L/\(L=[]\/∃k,v.a=.own k 54)
def UP (t:BC):Prop:=t.qA.length<=40/\t.wA.length<=40/\(∀m∈t.qA,m.ok)/\∀m∈t.qA,m.dflt.lay
structure DgI (a b:CT)(L:List aF)(s:LC):Prop where
 e2:(s.env 2).v=.ptr 2 1 0
 e3:(s.env 3).v=.ptr 3 1 0
 m2:s.mem 2 1=some [⟨.sl a.nl (a.types.map GC),.no⟩]
 m3:s.mem 3 1=some [⟨.sl b.nl (b.types.map GC),.no⟩]
 e9:OutB L (s.env 9)
theorem diff_lp {rv:RV}{a b:CT}(ha:a.types.length<=100)(og:a.types.length=b.types.length)(dy:∀t∈a.types,UP t)(iy:∀t∈b.types,UP t)(s:LC)(h:DgI a b [] s)(e_n:(s.env 33).v=.int .i64 a.types.length)(e_c:(s.env 34).v=.int .i64 0)(k:Ex->LC->Option RV)
  (hk:∀s',DgI a b (lG 0 a.types b.types) s'->k (.exit 2) s'=some rv):HJ aE LD gI s k=some rv:=by
 refine UH a.types.length (fun i s=>(s.env 33).v=.int .i64 a.types.length/\(s.env 34).v=.int .i64 i/\∃L,DgI a b L s/\L.length<=244*i/\L++lG i (a.types.drop i) (b.types.drop i)=lG 0 a.types b.types) (fun e s=>e=.exit 2/\DgI a b (lG 0 a.types b.types) s) (fun i hi s k h ih hk=>?_) _ _ ⟨e_n,e_c,[],h,by simp,by simp⟩ (fun e s h=>by obtain⟨rfl,h⟩:=h;exact hk _ h);obtain⟨e_n,e_c,L,hI,hn,gj⟩:=h;obtain⟨env,mem,nx,obj,gh⟩:=s;obtain⟨e2,e3,m2,m3,e9,a9⟩:=hI;dsimp only at e_n e_c e2 e3 m2 m3 e9 a9;refine wD ?_;by_cases ba:i<a.types.length
 ·have fa:(i:Int)<a.types.length:=by omega
  have hw:=rE (i:=i);have xf:i<b.types.length:=by omega
  have hx:=yC ba;have hy:=yC xf;have g1:(a.types.map GC)[i]?=some (GC a.types[i]):=by rw[yk,yf ba];rfl
  have g2:(b.types.map GC)[i]?=some (GC b.types[i]):=by rw[yk,yf xf];rfl
  rw[yv ba,yv xf,lG]at gj;obtain⟨x1,x2,x3,x4⟩:=dy _ hx;obtain⟨y1,y2,y3,y4⟩:=iy _ hy;have hd:=Mp i a.types[i] b.types[i] x1 y1 x2 y2 x3 y4;have ug:=O7 i a.types[i] b.types[i] x1 y1 x2 y2;generalize a.types[i]=x at *
  generalize b.types[i]=y at *
  simp only[GR,SM,GC]at hd;simp only[GC]at g1 g2;have ac:(a.types.map GC).length=a.types.length:=yc _;have bj:(b.types.map GC).length=b.types.length:=yc _;have htot':=gj;generalize AM i x y=M at *
  have ga:pD 272 (L.length+M.length)=true:=by rw[XC];omega
  have fb:=tF L;have zu:=tF M;have ub:(L.map qJ).length=L.length:=yc _;have xr:(M.map qJ).length=M.length:=yc _;have jb:=ih ba;have ic:(M.map qJ).isEmpty=M.isEmpty:=by cases M<;>rfl
  simp only[SM]at e9;generalize js:a.types.map GC=ma at *
  generalize mf:b.types.map GC=mb at *
  by_cases h0:L=[]
  ·subst h0;have ga:pD 272 M.length=true:=by rw [XC]; omega
   simp[gI,-J,-yb,-y9,y0,tE,e_n,e_c,e2,e3,m2,m3,e9,fa,hw,ac,bj,g1,g2,hd,ga,zu,xr,ic];refine jb _ ⟨by simp[e_n],by simp,M,⟨by simp[e2],by simp[e3],by simp[m2,js],by simp[m3,mf],by simp[SM],.inr ⟨50,by simp⟩⟩,by omega,gj⟩
  ·obtain ⟨kk,a9⟩:=a9.resolve_left h0;have he:L.isEmpty=false:=by cases L with | nil=>exact absurd rfl h0 | cons=>rfl
   rw[he]at e9;simp[gI,-J,-yb,-y9,y0,tE,e_n,e_c,e2,e3,m2,m3,e9,a9,fa,hw,ac,bj,ub,g1,g2,hd,ga,fb,zu,xr,ic];refine jb _ ⟨by simp[e_n],by simp,L++M,⟨by simp[e2],by simp[e3],by simp[m2,js],by simp[m3,mf],by simp[SM,h0],.inr ⟨50,by simp⟩⟩,by rw[yj];omega,by rw[yx];exact gj⟩
 ·have fa:¬ (i:Int)<a.types.length:=by omega
  rw[yw (by omega),lG,yF]at gj
  ·subst gj;simp[gI,-J,-yb,-y9,y0,e_c,e_n,fa];exact hk _ _ ⟨rfl,by simp[e2],by simp[e3],m2,m3,by simpa using e9,by simpa using a9⟩
  ·intro x l y m h;cases h
def fK (a b:CT):AV :=
 if valid a.types≠0 then .fA [.sl true [],.int .i64 (valid a.types)]
 else if valid b.types≠0 then .fA [.sl true [],.int .i64 (valid b.types)]
 else if qE a.types b.types=true then .fA [SM (lG 0 a.types b.types),.int .i64 0]else .fA [.sl true [],.int .i64 1]
theorem O4:∀l m:List BC,qE l m=true->l.length=m.length
 | [],[],_=>rfl
 |x::l,y::m,h=>by
  rw[qE,yg]at h;simp[O4 l m h.2]
 | [],_::_,h=>by cases h
 |_::_,[],h=>by cases h
theorem dv_lp {rv:RV}{a b:CT}(va:sF aE LD 19 [.agg (xK a)] none=some (.int .i64 (valid a.types),none))(vb:sF aE LD 19 [.agg (xK b)] none=some (.int .i64 (valid b.types),none))
  (s:LC) (e13:(s.env 13).v=.sl false [[.sl a.nl (a.types.map GC)],[.sl b.nl (b.types.map GC)]]) (e14:(s.env 14).v=.int .i64 2) (pj:(s.env 15).v=.int .i64 0) (k:Ex->LC->Option RV)
  (h1:valid a.types≠0->∀s':LC,(s'.env 4).v=.sl true []->(s'.env 5).v=.int .i64 (valid a.types)->k .ret s'=some rv)
  (h2:valid a.types=0->valid b.types≠0->∀s':LC,(s'.env 4).v=.sl true []->(s'.env 5).v=.int .i64 (valid b.types)->k .ret s'=some rv)
  (h3:valid a.types=0->valid b.types=0->∀s':LC,(s'.env 2).v=(s.env 2).v->(s'.env 3).v=(s.env 3).v->s'.mem 2 1=s.mem 2 1->s'.mem 3 1=s.mem 3 1->k (.exit 0) s'=some rv):HJ aE LD bF s k=some rv:=by
 obtain⟨env,mem,nx,obj,gh⟩:=s;dsimp only at e13 e14 pj h3;simp only[xK]at va vb;have bi:IntKind.i64.wrap 1=1:=by decide
 have fq:IntKind.i64.wrap 2=2:=by decide
 refine wD ?_;by_cases c1:valid a.types=0
 ·have va':=va;rw [c1] at va';simp [bF,-J,-yb,-y9,y0,e13,e14,pj,va',bi];refine wD (b:=bF) ?_;by_cases c2:valid b.types=0
  ·have vb':=vb;rw[c2]at vb';simp[bF,-J,-yb,-y9,y0,e13,e14,vb',bi,fq];refine wD (b:=bF) ?_;simp[bF,-J,-yb,-y9,y0,e14];exact h3 c1 c2 _ (by simp) (by simp) (by simp) (by simp)
  ·simp[bF,-J,-yb,-y9,y0,e13,e14,vb,bi,fq,c2];exact h2 c1 c2 _ (by simp) (by simp)
 ·simp[bF,-J,-yb,-y9,y0,e13,e14,pj,va,c1];exact h1 c1 _ (by simp) (by simp)
theorem Gu (a b:CT)(ha:a.fine)(hb:b.fine)(dy:valid a.types=0->a.types.length<=100/\∀t∈a.types,UP t)(iy:valid b.types=0->∀t∈b.types,UP t):GR 6 [.agg (xK a),.agg (xK b)] (fK a b):=by
 have va:=fJ (WW a ha);have vb:=fJ (WW b hb);have hk:=fJ (eqk_ev 21 a.types b.types ha.1 (fun x _ y _=>Tz x y) a.nl b.nl);simp only[GR]at hk;refine GJ uK rfl rfl ?_;simp[uK,-J,-yb,-y9,y0,xK];refine dv_lp va vb _ (by simp) (by simp) (by simp) _ (fun c1 s' a1 a2=>?_) (fun c1 c2 s' a1 a2=>?_) (fun c1 c2 s' a1 a2 a3 a4=>?_)
 ·simp[-J,-yb,-y9,y0,a1,a2,fK,c1]
 ·simp[-J,-yb,-y9,y0,a1,a2,fK,c1,c2]
 ·obtain ⟨l1,l2⟩:=dy c1;have l3:=iy c2;obtain ⟨env,mem,nx,obj,gh⟩:=s';simp at a1 a2 a3 a4;have ac:(a.types.map GC).length=a.types.length:=yc _;by_cases c3:qE a.types b.types=true
  ·have og:=O4 _ _ c3;have oh:=fun rv:RV=>@diff_lp rv a b l1 og l2 l3
   rw[c3]at hk;simp[-J,-yb,-y9,y0,a1,a2,a3,a4,hk,ac];refine oh _ _ ⟨by simp[a1],by simp[a2],by simp[a3],by simp[a4],by simp[SM],.inl rfl⟩ (by simp) (by simp) _ (fun s' h'=>?_);have e9:=h'.e9.1;simp[-J,-yb,-y9,y0,e9,fK,c1,c2,c3,SM]
  ·rw[Bool.eq_false_iff.2 c3]at hk;simp[-J,-yb,-y9,y0,a1,a2,a3,a4,hk,ac,fK,c1,c2,c3]
theorem D5:∀(l:List (Int×ByteArray))(b:Int)(seen:List ByteArray),NE b seen l=true->(∀x∈l,b<x.1)/\l.Pairwise fun x y=>x.1<y.1
 | [],_,_,_=>by simp
 |(n,s)::r,b,seen,h=>by
  simp only[NE,yg]at h;obtain⟨⟨⟨h1,_⟩,_⟩,h2⟩:=h;have hb:b<n:=by unfold kU at h1;simp at h1;omega
  obtain⟨g1,g2⟩:=D5 r n _ h2;refine⟨fun x hx=>?_,Y0f.2 ⟨fun y hy=>g1 y hy,g2⟩⟩;rcases yt.1 hx with rfl|hx
  ·exact hb
  ·have:=g1 x hx;omega
theorem ents_m {l:List ED}(h:NE 0 [] (l.map IH)=true):uI ED.id l:=by
 have:=(D5 _ _ _ h).2;rw[List.pairwise_map]at this;exact this
theorem ents_s {l:List PG}(h:NE 0 [] (l.map tK)=true):uI PG.id l:=by
 have:=(D5 _ _ _ h).2;rw[List.pairwise_map]at this;exact this
theorem JK {x:BC}(h:bD x=true):cT x/\x.qA.length<=16/\x.wA.length<=16:=by
 unfold bD at h;rw[yg,yg]at h;obtain⟨_,h1,h2⟩:=h;have uv:¬x.kind=5->¬x.kind=6->x.qA=[]:=fun k5 k6=>by
  have e:x.left.qA=x.qA:=by
   unfold BC.left;simp only[if_neg k5,if_neg k6]
   repeat' split
   all_goals rfl
  have hm:mD x.left.qA []=true:=by simp only[BC.same,yg]at h2;exact h2.2
  rw[e]at hm;cases hx:x.qA with
  |nil=>rfl
  |cons m r=>rw[hx]at hm;simp[mD]at hm
 have tp:¬x.kind=4->x.wA=[]:=fun k4=>by
  have e:x.left.wA=x.wA:=by
   unfold BC.left;simp only[if_neg k4]
   repeat' split
   all_goals rfl
  have hm:x.left.wA=[]:=by simp only[BC.same,yg,decide_eq_true_eq]at h2;exact h2.1.2
  rw[<- e,hm]
 have main:∀rc,xI rc x.qA=true->uI ED.id x.qA/\x.qA.length<=16:=fun rc h=>by
  unfold xI at h;simp only[yg]at h;exact⟨ents_m h.2.2.1,of_decide_eq_true h.2.2.2⟩
 have hM:uI ED.id x.qA/\x.qA.length<=16:=by
  by_cases k5:x.kind=5
  ·simp[EI,k5]at h1;exact main true h1.2
  by_cases k6:x.kind=6
  ·simp[EI,k6]at h1;exact main false h1.2
  rw[uv k5 k6];exact⟨List.Pairwise.nil,Nat.zero_le _⟩
 have hS:uI PG.id x.wA/\x.wA.length<=16:=by
  by_cases k4:x.kind=4
  ·simp[EI,k4,IP]at h1;exact⟨ents_s h1.2.2.1,h1.2.2.2⟩
  rw[tp k4];exact⟨List.Pairwise.nil,Nat.zero_le _⟩
 exact⟨⟨hM.1,hS.1⟩,hM.2,hS.2⟩
structure XT (MP:ED->Prop)(n:Nat)(B:List BC):Prop where
 TB:∀t∈B,cT t
 len:∀t∈B,t.qA.length<=n/\t.wA.length<=n
 mem:∀t∈B,∀m∈t.qA,MP m
theorem Bd (t:BC)(e:aF):(jD t e).2.qA.length<=t.qA.length+1/\(jD t e).2.wA.length<=t.wA.length+1:=by
 have f1:=fun z=>List.length_filter_le (fun m:ED=>!decide (m.id=z)) t.qA
 have f2:=fun z=>List.length_filter_le (fun m:PG=>!decide (m.id=z)) t.wA
 have g1:=f1 e.id;have g2:=f2 e.id;unfold jD
 repeat' split
 all_goals simp only[B7,yc]<;>omega
theorem Md (t:BC)(e:aF):∀m∈(jD t e).2.qA,m∈t.qA\/m=e.mem:=by
  intro m hm;unfold jD at hm
  repeat' split at hm
  all_goals first
    |exact .inl hm
    |(rcases jS.1 hm with h|h;exact .inr h;exact .inl h)
    |exact .inl (List.mem_filter.1 hm).1
    | (obtain ⟨y,hy,hym⟩:=yD.1 hm
       split at hym
       · exact .inr hym.symm
       · exact .inl (hym▸hy))
theorem s9 {MP:ED->Prop}{n:Nat}{B:List BC}{e:aF}(h:XT MP n B)(he:MP e.mem):XT MP (n+1) (LG B e).2:=by
 refine⟨Xd h.TB,?_,?_⟩
 ·intro u hu;unfold LG at hu;split at hu
  ·split at hu
   ·rename_i t ht;split at hu
    ·rcases List.mem_or_eq_of_mem_set hu with hu | rfl
     ·have:=h.len u hu;omega
     ·have:=h.len t (yr ht);have:=Bd t e;omega
    ·have:=h.len u hu;omega
   ·have:=h.len u hu;omega
  ·have:=h.len u hu;omega
 ·intro u hu;unfold LG at hu;split at hu
  ·split at hu
   ·rename_i t ht;split at hu
    ·rcases List.mem_or_eq_of_mem_set hu with hu | rfl
     ·exact h.mem u hu
     ·intro m hm;rcases Md t e m hm with hm | rfl
      ·exact h.mem t (yr ht) m hm
      ·exact he
    ·exact h.mem u hu
   ·exact h.mem u hu
  ·exact h.mem u hu
theorem XT.up {MP:ED->Prop}{n n':Nat}{B:List BC}(h:XT MP n B)(hn:n<=n'):XT MP n' B :=
 ⟨h.TB,fun t ht=>by have:=h.len t ht;omega,h.mem⟩
theorem XT.un {MP:ED->Prop}{n:Nat}{L:List BC}(h:XT MP n (ZD L)):XT MP n L :=
 ⟨fun t ht=>h.TB t.bare (List.mem_map_of_mem ht),fun t ht=>h.len t.bare (List.mem_map_of_mem ht),fun t ht=>h.mem t.bare (List.mem_map_of_mem ht)⟩
theorem XT.bare {MP:ED->Prop}{n:Nat}{L:List BC}(h:XT MP n L):XT MP n (ZD L):=by
 refine⟨fun u hu=>?_,fun u hu=>?_,fun u hu=>?_⟩
 all_goals obtain⟨t,ht,rfl⟩:=yD.1 hu
 ·exact h.TB t ht
 ·exact h.len t ht
 ·exact h.mem t ht
theorem MG.nm {mem:Nat->Nat->Option (List SC)}{nx:Nat}{x:SC}{z:Nat}{l:List (List AV)}(h:MG mem nx x z l):∀p∈wN x,p.1∈KS/\p.2<nx:=by
 intro p hp;rcases h with⟨_,b,rfl⟩|⟨t,n,rfl,h1,h2,_⟩
 ·simp[wN]at hp
 ·simp[wN]at hp;subst hp;exact⟨h1,h2⟩
theorem aZ.nm {L:List BC}{W:List (SC×SC)}{N0 nx:Nat}{V0:AV}{mem:Nat->Nat->Option (List SC)}(h:aZ L W N0 nx V0 mem){j:Nat}{w:SC×SC}(hw:W[j]?=some w):∀p∈DL w,p.1∈KS/\p.2<nx:=by
 intro p hp;obtain⟨t,ht⟩:∃t,L[j]?=some t:=⟨_,yf (by have:=(yn.1 hw).1;have:=h.len;omega)⟩;obtain⟨c1,c2⟩:=h.cell j t w ht hw;rcases yu.1 hp with hp|hp
 ·exact c1.nm p hp
 ·exact c2.nm p hp
theorem qN:∀{W:List (SC×SC)},(W.flatMap DL).Nodup->∀w∈W,(DL w).Nodup
 | [],_,w,h=>by cases h
 |a::W,le,w,h=>by
  rw[Y0a]at le;obtain⟨n1,n2,_⟩:=yS.1 le;rcases yt.1 h with rfl|h
  ·exact n1
  ·exact qN n2 w h
theorem o0:∀{W:List (SC×SC)},(W.flatMap DL).Nodup->∀{i j:Nat}{v w:SC×SC},W[i]?=some v->W[j]?=some w->i≠j->∀p∈DL v,p ∉ DL w
 | [],_,i,j,v,w,h,_,_=>by cases h
 |a::W,le,i,j,v,w,h1,h2,hij=>by
  rw[Y0a]at le;obtain⟨_,n2,n3⟩:=yS.1 le;intro p hp hq;cases i with
  |zero =>
   have:a=v:=by simpa using h1
   subst this;cases j with
   |zero=>exact hij rfl
   |succ j =>
    have tg:W[j]?=some w:=by simpa using h2
    exact n3 p hp p (yR.2 ⟨w,yr tg,hq⟩) rfl
  |succ i =>
   have kq:W[i]?=some v:=by simpa using h1
   cases j with
   |zero =>
    have:a=w:=by simpa using h2
    subst this;exact n3 p hq p (yR.2 ⟨v,yr kq,hp⟩) rfl
   |succ j =>
    have tg:W[j]?=some w:=by simpa using h2
    exact o0 n2 kq tg (by omega) p hp hq
theorem aZ.upd {L:List BC}{W:List (SC×SC)}{N0 nx nx':Nat}{V0:AV}{mem na:Nat->Nat->Option (List SC)}(h:aZ L W N0 nx V0 mem){k:Nat}{t t':BC}{w w':SC×SC}(ht:L[k]?=some t)(hw:W[k]?=some w)(hx:nx<=nx')(h9:na 9 N0=some (lD (L.set k t') (W.set k w')))
  (hm:∀tn nn l,tn∈KS->nn<nx->(tn,nn) ∉ DL w->ND l=true->mem tn nn=some (qD l)->na tn nn=some (qD l)) (hc:MG na nx' w'.1 2 (t'.wA.map fD)/\MG na nx' w'.2 13 (t'.qA.map rD)) (hn1:(DL w').Nodup) (hn2:∀p∈DL w',p∈DL w\/nx<=p.2):aZ (L.set k t') (W.set k w') N0 nx' V0 na:=by
 have tr:=(yn.1 ht).1;have ua:L≠[]:=fun e=>by rw[e]at ht;cases ht
 refine⟨by rw[List.length_set,List.length_set];exact h.len,?_,?_,?_⟩
 ·rcases h.v0 with ⟨e,_⟩ | ⟨_,h2,_,h4⟩
  ·exact absurd e ua
  ·refine .inr ⟨fun e=>?_,by rw[List.length_set];exact h2,h9,by omega⟩;have:=congrArg List.length e;rw[List.length_set]at this;simp at this;exact ua this
 ·intro i u v hu hv;by_cases hik:i=k
  ·subst hik;rw[Y0n tr]at hu;rw[Y0n (by rw[h.len];exact tr)]at hv;injection hu with hu;injection hv with hv;subst hu;subst hv;exact hc
  ·rw [List.getElem?_set_ne (fun e=>hik e.symm)] at hu hv;obtain ⟨c1,c2⟩:=h.cell i u v hu hv;have od:=o0 h.nd hv hw hik;refine ⟨?_,?_⟩
   ·rcases c1 with c1 | ⟨tn,nn,e,g1,g2,g3⟩
    ·exact .inl c1
    ·exact .inr ⟨tn,nn,e,g1,by omega,hm tn nn _ g1 g2 (od _ (yu.2 (.inl (by rw[e];simp[wN])))) (HG _) g3⟩
   ·rcases c2 with c2 | ⟨tn,nn,e,g1,g2,g3⟩
    ·exact .inl c2
    ·exact .inr ⟨tn,nn,e,g1,by omega,hm tn nn _ g1 g2 (od _ (yu.2 (.inr (by rw[e];simp[wN])))) (GG _) g3⟩
 ·refine Px hw h.nd hn1 fun p hp=>?_
  rcases hn2 p hp with hp|hp
  ·exact .inl hp
  ·refine .inr fun v hv hpv=>?_
   obtain⟨j,hj,rfl⟩:=List.mem_iff_getElem.1 hv;have:=(h.nm (yf hj) p hpv).2;omega
def fB (t n:Nat)(w:SC×SC):SC×SC:=(w.1.kill t n,w.2.kill t n)
theorem Xw (t n:Nat)(L:List BC)(W:List (SC×SC)):(lD L W).map (SC.kill t n)=lD L (W.map (fB t n)):=by
 unfold lD Cw;rw[List.map_flatten,List.map_zipWith,List.zipWith_map_right];congr 1
theorem MG.kill {mem:Nat->Nat->Option (List SC)}{nx:Nat}{x:SC}{z:Nat}{l:List (List AV)}(h:MG mem nx x z l){t n:Nat}(hn:(t,n) ∉ wN x):x.kill t n=x:=by
 rcases h with⟨_,b,rfl⟩|⟨t',n',rfl,_,_,_⟩
 ·rfl
 ·simp only[wN,yU,Prod.mk.injEq]at hn;simp only[SC.kill,AV.kill,AV.rA];rw[if_neg (fun e=>hn ⟨e.1.symm,e.2.symm⟩)]
section
variable {L:List BC} {W:List (SC × SC)} {N0 nx:Nat} {V0:AV} {mem:Nat->Nat->Option (List SC)} (h:aZ L W N0 nx V0 mem) {k:Nat}
include L W N0 nx V0 mem h k
theorem Rs {w:SC×SC}(hw:W[k]?=some w){t n:Nat}(hn:(t,n)∈DL w)(v:SC×SC):(W.map (fB t n)).set k v=W.set k v:=by
 have hk:=(yn.1 hw).1;refine List.ext_getElem? fun j=>?_
 rw[List.getElem?_set,List.getElem?_set,yc];split
 ·rfl
 ·rename_i ua;rw [yk];cases hv:W[j]? with
  |none=>rfl
  |some u =>
   obtain⟨x,hx⟩:∃x,L[j]?=some x:=⟨_,yf (by have:=(yn.1 hv).1;have:=h.len;omega)⟩;obtain⟨c1,c2⟩:=h.cell j x u hx hv;have od:=o0 h.nd hw hv ua (t,n) hn;unfold DL at od;rw[yu,not_or]at od;simp only[yB,fB,c1.kill od.1,c2.kill od.2]
theorem uR {t t':BC}{w w':SC×SC}(ht:L[k]?=some t)(hw:W[k]?=some w){tn nn:Nat}(hn:(tn,nn)∈DL w){j:Nat}(hj:j<10){x:AV}{a:An}(hl:x.leaf=true)(hx:(QE t (fB tn nn w)).set j ⟨x,a⟩=QE t' w'):KC false 1 (k*10+j) ((lD L W).map (SC.kill tn nn)) x a=some (lD (L.set k t') (W.set k w')):=by
 rw[Xw];have lk:(W.map (fB tn nn))[k]?=some (fB tn nn w):=by rw[yk,hw];rfl
 rw[tG ht lk hj hl hx,Rs h hw hn]
end
theorem MG.up' {mem na:Nat->Nat->Option (List SC)}{nx nx':Nat}{x:SC}{z:Nat}{l:List (List AV)}(h:MG mem nx x z l)(hf:ND l=true)(hm:∀t n l',t∈KS->(t,n)∈wN x->ND l'=true->mem t n=some (qD l')->na t n=some (qD l'))(hx:nx<=nx'):MG na nx' x z l:=by
 rcases h with h|⟨t,n,h1,h2,h3,h4⟩
 ·exact .inl h
 ·exact .inr ⟨t,n,h1,h2,by omega,hm t n l h2 (by rw[h1];simp[wN]) hf h4⟩
theorem I2 {L:List BC}{W:List (SC×SC)}{k:Nat}{t t':BC}{w:SC×SC}(hL:L[k]?=some t)(hW:W[k]?=some w)(h:QE t' w=QE t w):lD (L.set k t') (W.set k w)=lD L W:=by
 have:=d5 hL hW (j:=0) (t':=t') (w':=w) (by omega) (x:=⟨.int .i64 t.kind,.no⟩) (by rw[h];rfl);rw[<- this,sI];rw[NG hL hW (j:=0) (by omega)];rfl
theorem D6 {sz:Nat}{l:List (List AV)}(h:kD sz l=true){k:Nat}{c:List AV}(hk:l[k]?=some c){j:Nat}(hj:j<sz){x:AV}(hl:x.leaf=true):KC false 1 (k*sz+j) (qD l) x .no=some (qD (l.set k (c.set j x))):=by
 have hB:∀b∈l.map (fun c:List AV=>c.map (fun v=>(⟨v,.no⟩:SC))),b.length=sz:=fun b hb=>by
  obtain⟨c,hc,rfl⟩:=yD.1 hb;obtain⟨i,hi⟩:=List.getElem?_of_mem hc;rw[yc];exact rQ h hi
 have he:qD l=(l.map (fun c:List AV=>c.map (fun v=>(⟨v,.no⟩:SC)))).flatten:=by
  unfold qD;rw[List.map_flatten]
 have hb:(l.map (fun c:List AV=>c.map (fun v=>(⟨v,.no⟩:SC))))[k]?=some (c.map (fun v=>(⟨v,.no⟩:SC))):=by rw[yk,hk];rfl
 have ba:=(eS hB hb).2;simp only[KC,yM,if_false];rw[if_pos ⟨hl,by rw[he];omega⟩,he,F5 hB hb hj];congr 1;unfold qD;rw[List.map_flatten,List.map_set,List.map_set]
theorem s6 {l:List ED}{z:Int}(h:nT l z=true):∃(i:Nat)(x:ED),iE l z=(i:Int)/\l[i]?=some x/\x.id=z:=by
 have h0:0<=iE l z:=by
  have:=gO (fun x:ED=>decide (x.id=z)) l;unfold nT at h;rw[h]at this;exact of_decide_eq_true this
 obtain⟨x,hx,hp⟩:=wJ (fun x:ED=>decide (x.id=z)) l (fun e=>by unfold iE at h0;rw[e]at h0;exact absurd h0 (by decide));exact⟨(iE l z).toNat,x,by omega,hx,of_decide_eq_true hp⟩
theorem p6 {l:List ED}{z:Int}(h:¬nT l z=true):iE l z=-1:=by
 have h0:¬0<=iE l z:=fun h0=>by
  have:=gO (fun x:ED=>decide (x.id=z)) l;exact h (this.symm.trans (decide_eq_true h0))
 have:=DI (fun x:ED=>decide (x.id=z)) l;unfold iE at h0 ⊢;omega
theorem Ao {l:List PG}{z:Int}(h:HW l z=true):∃(i:Nat)(x:PG),oE l z=(i:Int)/\l[i]?=some x/\x.id=z:=by
 have h0:0<=oE l z:=by
  have:=gO (fun x:PG=>decide (x.id=z)) l;unfold HW at h;rw[h]at this;exact of_decide_eq_true this
 obtain⟨x,hx,hp⟩:=wJ (fun x:PG=>decide (x.id=z)) l (fun e=>by unfold oE at h0;rw[e]at h0;exact absurd h0 (by decide));exact⟨(oE l z).toNat,x,by omega,hx,of_decide_eq_true hp⟩
theorem Po {l:List PG}{z:Int}(h:¬HW l z=true):oE l z=-1:=by
 have h0:¬0<=oE l z:=fun h0=>by
  have:=gO (fun x:PG=>decide (x.id=z)) l;exact h (this.symm.trans (decide_eq_true h0))
 have:=DI (fun x:PG=>decide (x.id=z)) l;unfold oE at h0 ⊢;omega
theorem bV {f:FuncId}{args:List AV}{S:Option AV}{r:RV}(h:uD f args S=some r)(hT:aE f=none:=by rfl)(hA:MC f=none:=by rfl)(hc:SV f=false:=by rfl):sF aE LD f args S=some r :=
 SH hT (by unfold LD;rw[if_neg (by simp[hc])];exact SH hA h)
theorem ins_m {b:Bool}{l:List ED}{x:ED}{i:Nat}(hi:i<=l.length)(hl:l.length<=900)(hb:b=true->l=[]):sF aE LD 62 [.undef,.sl b (l.map rD),.int .i64 i,.sl false [rD x]] (some (.int .i64 13))=some (.sl false ((l.take i++x::l.drop i).map rD),none):=by
 refine bV ?_;have h1:kD 13 (rD x::l.map rD)=true:=dG (x::l);unfold uD;simp only[if_true];unfold Xa;simp only;rw[if_pos ⟨by omega,by simpa using hi,by simpa using hl,h1,fun h=>by rw[hb h];rfl⟩];simp[yW,Y01]
theorem ins_s {b:Bool}{l:List PG}{x:PG}{i:Nat}(hi:i<=l.length)(hl:l.length<=900)(hb:b=true->l=[]):sF aE LD 65 [.undef,.sl b (l.map fD),.int .i64 i,.sl false [fD x]] (some (.int .i64 2))=some (.sl false ((l.take i++x::l.drop i).map fD),none):=by
 refine bV ?_;have h1:kD 2 (fD x::l.map fD)=true:=AH (x::l);unfold uD;rw[if_neg (by decide),if_pos rfl];simp only;unfold Xa;simp only;rw[if_pos ⟨by omega,by simpa using hi,by simpa using hl,h1,fun h=>by rw[hb h];rfl⟩];simp[yW,Y01]
theorem del_m {l:List ED}{i:Nat}(hi:i<l.length)(hl:l.length<=900):sF aE LD 63 [.undef,.sl false (l.map rD),.int .i64 i,.int .i64 ((i:Int)+1)] (some (.int .i64 13))=some (.sl false ((l.take i++l.drop (i+1)).map rD),none):=by
 refine bV ?_;unfold uD;rw[if_neg (by decide),if_neg (by decide),if_pos rfl];simp only;unfold Xp;simp only;rw[if_pos ⟨by omega,trivial,by rw[yc];omega,by simpa using hl,dG l⟩];have e1:((i:Int)+1).toNat=i+1:=by omega
 have e2:(i:Int).toNat=i:=by omega
 rw[e1,e2,Y03,yW,Y01]
theorem del_s {l:List PG}{i:Nat}(hi:i<l.length)(hl:l.length<=900):sF aE LD 66 [.undef,.sl false (l.map fD),.int .i64 i,.int .i64 ((i:Int)+1)] (some (.int .i64 2))=some (.sl false ((l.take i++l.drop (i+1)).map fD),none):=by
 refine bV ?_;unfold uD;rw[if_neg (by decide),if_neg (by decide),if_neg (by decide),if_pos rfl];simp only;unfold Xp;simp only;rw[if_pos ⟨by omega,trivial,by rw[yc];omega,by simpa using hl,AH l⟩];have e1:((i:Int)+1).toNat=i+1:=by omega
 have e2:(i:Int).toNat=i:=by omega
 rw[e1,e2,Y03,yW,Y01]
theorem MG.FA {mem:Nat->Nat->Option (List SC)}{nx:Nat}{x:SC}{z:Nat}{l:List (List AV)}(h:MG mem nx x z l)(he:kD z l=true)(hf:ND l=true):∃(b:Bool)(tn nn:Nat),(l≠[]->tn∈KS)/\(l≠[]->nn<nx)/\(b=true->l=[])/\∀s:LC,(tn∈KS->nn<nx->s.mem tn nn=mem tn nn)->AV.lA s x.v=.sl b l:=by
 rcases h with⟨rfl,b,rfl⟩|⟨t,n,rfl,h1,h2,h3⟩
 ·exact⟨b,0,0,fun h=>absurd rfl h,fun h=>absurd rfl h,fun _=>rfl,fun s _=>rfl⟩
 ·refine⟨false,t,n,fun _=>h1,fun _=>h2,fun h=>(by cases h),fun s hs=>?_⟩;simp only[AV.lA];rw[hs h1 h2,h3,J,AE he hf]
def Lp:C:=.reg [oQ 3 25 1,oJ 4 0]
def Zp:C:=oR [oF 12 1 3,oLr 13 3 1 12,oC 14 .lss 13 0,oM 15 14,oFg 16 1 3 15 false,oG 17 (.load (.root 3) false 1 (.t 16)) 15 false,oMg 18 0 15 false,oG 19 (.WA (.t 18)) 15 false,oFg 20 0 19 15 false,oP 21 20 15 false,oHg 22 21 15 false,oBg 23 .geq 17 22 15 false,oPo 24 15 23] (oD 24 (oR [oJ 4 4] .ret) .skip)
def chS2:C:=.reg [oM 25 0,oK 26 25,oF 27 0 26,oS 28 (.load (.out [3,5,5]) false 1 (.t 27)),oF 29 1 3,oLr 30 3 1 29,oI 31 10 28 30,oY 5 [.EA],oN (.store (.root 5) false 1 (.t 5) (.t 31))]
def chS3:C:=oR [oF 32 0 3,oLr 33 3 1 32,oLr 34 5 1 5,oK 35 34,oF 36 0 35,oL 37 36,oS 38 (.bA .any 59 [(.t 33),(.t 37)]),oU 39 38] (oD 39 (oR [oJ 4 1] .ret) .skip)
def gL:C:=oR [oF 40 0 3,oL 41 40] (.block 0 (oR [oC 43 .eql 41 1,oM 42 43] (oD 42 (.seq (oR [oLr 44 5 1 5,oK 45 44,oA 46 10 45,oF 47 4 3,oF 48 0 47,oLr 49 3 1 48,oS 50 (.bA .any 46 [(.t 46),(.t 49)]),oC 51 .geq 50 0] (oD 51 (oR [oJ 4 5] .ret) .skip)) (oR [oL 52 5,oK 53 52,oF 54 6 53,oL 55 54,oH 56 55,oS 57 (.zC 61 [(.t 5),(.t 3)]),oS 58 (.mA 225 (.c (.fn 60 [])) [(.t 56),(.t 57)]),oM 6 58] (.reg [oLr 59 5 1 5,oLr 60 5 1 5,oK 61 60,oF 62 6 61,oL 63 62,oM 64 6,oF 65 4 3,oS 66 (.load (.root 3) true 13 (.t 65)),oS 67 (.IA zzd 1 [(0,(.t 66))]),oS 68 (.nA .any 62 13 [3,5] (.t 63) [(.t 64),(.t 67)]),oK 69 59,oF 70 6 69,oN (.store (.out [3,5]) false 1 (.t 70) (.t 68))]))) (oR [oC 72 .eql 41 2,oM 71 72] (oD 71 (oR [oLr 73 5 1 5,oK 74 73,oA 75 10 74,oF 76 2 3,oLr 77 3 1 76,oS 78 (.bA .any 46 [(.t 75),(.t 77)]),oM 7 78] (.seq (oR [oM 79 7,oC 80 .lss 79 0] (oD 80 (oR [oJ 4 4] .ret) .skip)) (.reg [oLr 81 5 1 5,oLr 82 5 1 5,oK 83 82,oF 84 6 83,oL 85 84,oM 86 7,oM 87 7,oC 88 .add 87 1,oS 89 (.nA .any 63 13 [3,5] (.t 85) [(.t 86),(.t 88)]),oK 90 81,oF 91 6 90,oN (.store (.out [3,5]) false 1 (.t 91) (.t 89))]))) (oR [oC 93 .eql 41 3,oM 92 93] (oD 92 (oR [oLr 94 5 1 5,oK 95 94,oA 96 10 95,oF 97 4 3,oF 98 0 97,oLr 99 3 1 98,oS 100 (.bA .any 46 [(.t 96),(.t 99)]),oM 8 100] (.seq (oR [oM 101 8,oC 102 .lss 101 0] (oD 102 (oR [oJ 4 4] .ret) .skip)) (.reg [oLr 103 5 1 5,oK 104 103,oF 105 6 104,oL 106 105,oM 107 8,oF 108 4 3,oS 109 (.load (.root 3) true 13 (.t 108)),oI 110 13 106 107,oN (.store (.out [3,5]) true 13 (.t 110) (.t 109))]))) (oR [oC 112 .eql 41 4,oM 111 112] (oD 111 (.seq (oR [oLr 113 5 1 5,oK 114 113,oA 115 10 114,oF 116 17 3,oF 117 0 116,oLr 118 3 1 117,oS 119 (.bA .any 48 [(.t 115),(.t 118)]),oM 9 119] (oR [oM 120 9,oC 121 .geq 120 0] (oD 121 (oR [oLr 122 5 1 5,oK 123 122,oF 124 5 123,oL 125 124,oM 126 9,oF 127 17 3,oF 128 1 127,oLr 129 3 1 128,oI 130 2 125 126,oF 131 1 130,oN (.store (.out [3,5]) false 1 (.t 131) (.t 129))] (oR [oJ 4 0] .ret)) .skip))) (oR [oL 132 5,oK 133 132,oF 134 5 133,oL 135 134,oH 136 135,oS 137 (.zC 64 [(.t 5),(.t 3)]),oS 138 (.mA 225 (.c (.fn 60 [])) [(.t 136),(.t 137)]),oM 10 138] (.reg [oLr 139 5 1 5,oLr 140 5 1 5,oK 141 140,oF 142 5 141,oL 143 142,oM 144 10,oF 145 17 3,oS 146 (.load (.root 3) true 2 (.t 145)),oS 147 (.IA zze 1 [(0,(.t 146))]),oS 148 (.nA .any 65 2 [3,5] (.t 143) [(.t 144),(.t 147)]),oK 149 139,oF 150 5 149,oN (.store (.out [3,5]) false 1 (.t 150) (.t 148))]))) (oR [oC 152 .eql 41 5,oM 151 152] (oD 151 (oR [oLr 153 5 1 5,oK 154 153,oA 155 10 154,oF 156 2 3,oLr 157 3 1 156,oS 158 (.bA .any 48 [(.t 155),(.t 157)]),oM 11 158] (.seq (oR [oM 159 11,oC 160 .lss 159 0] (oD 160 (oR [oJ 4 4] .ret) .skip)) (.reg [oLr 161 5 1 5,oLr 162 5 1 5,oK 163 162,oF 164 5 163,oL 165 164,oM 166 11,oM 167 11,oC 168 .add 167 1,oS 169 (.nA .any 66 2 [3,5] (.t 165) [(.t 166),(.t 168)]),oK 170 161,oF 171 5 170,oN (.store (.out [3,5]) false 1 (.t 171) (.t 169))]))) (oR [oC 173 .eql 41 6,oM 172 173] (oD 172 (.reg [oL 174 5,oF 175 3 3,oL 176 175,oK 177 174,oF 178 1 177,oW 178 176]) (oR [oC 180 .eql 41 7,oM 179 180] (oD 179 (oR [oL 181 5,oK 182 181,oF 183 0 182,oL 184 183,oC 185 .eql 184 2] (oD 185 (.reg [oLr 186 5 1 5,oLr 187 5 1 5,oF 188 19 3,oLr 189 3 1 188,oF 190 20 3,oLr 191 3 1 190,oK 192 186,oF 193 2 192,oN (.store (.out [3,5]) false 1 (.t 193) (.t 189)),oK 194 187,oF 195 3 194,oN (.store (.out [3,5]) false 1 (.t 195) (.t 191))]) (.reg [oL 196 5,oF 197 21 3,oL 198 197,oK 199 196,oF 200 4 199,oW 200 198]))) (oR [oC 202 .eql 41 8,oM 201 202] (oD 201 (.reg [oL 203 5,oF 204 22 3,oL 205 204,oK 206 203,oF 207 9 206,oW 207 205]) (oR [oC 209 .eql 41 9,oM 208 209] (oD 208 (oR [oL 210 5,oF 211 24 3,oL 212 211,oK 213 210,oF 214 8 213,oW 214 212] (oR [oL 215 5,oK 216 215,oF 217 0 216,oL 218 217,oC 219 .eql 218 8] (oD 219 (.reg [oL 220 5,oF 221 23 3,oL 222 221,oK 223 220,oF 224 7 223,oW 224 222]) .skip))) .skip)))))))))))))))))))
def chS5:C:=.reg [oJ 4 0]
def chS6:C:=.ret
theorem Jh:RE.code=.seq Lp (.seq Zp (.seq chS2 (.seq chS3 (.seq gL (.seq chS5 chS6))))):=rfl
structure EdR (e:aF)(R:List SC):Prop where
 d0:R[0]?=some ⟨.int .i64 e.kind,.no⟩
 d1:R[1]?=some ⟨.int .i64 e.ty,.no⟩
 d2:R[2]?=some ⟨.int .i64 e.id,.no⟩
 d3:R[3]?=some ⟨.str e.name,.no⟩
 d4:R[4]?=some ⟨.int .i64 e.mem.id,.no⟩
 xC:R[17]?=some ⟨.int .i64 e.sym.id,.no⟩
 d18:R[18]?=some ⟨.str e.sym.name,.no⟩
 d19:R[19]?=some ⟨.int .i64 e.low,.no⟩
 d20:R[20]?=some ⟨.int .i64 e.high,.no⟩
 d21:R[21]?=some ⟨.int .i64 e.max,.no⟩
 d22:R[22]?=some ⟨.bool e.opn,.no⟩
 d23:R[23]?=some ⟨.int .i64 e.key,.no⟩
 TC:R[24]?=some ⟨.int .i64 e.elem,.no⟩
 dm:eD true 13 4 R=some ⟨.agg (rD e.mem),.no⟩
 ds:eD true 2 17 R=some ⟨.agg (fD e.sym),.no⟩
theorem edR (e:aF):EdR e ((qJ e).map (⟨·,.no⟩)):=⟨rfl,rfl,rfl,rfl,rfl,rfl,rfl,rfl,rfl,rfl,rfl,rfl,rfl,rfl,rfl⟩
theorem aZ.up {L:List BC}{W:List (SC×SC)}{N0 nx nx':Nat}{V0:AV}{mem:Nat->Nat->Option (List SC)}(h:aZ L W N0 nx V0 mem)(hx:nx<=nx'):aZ L W N0 nx' V0 mem :=
 ⟨h.len,h.v0.imp_right fun⟨h1,h2,h3,h4⟩=>⟨h1,h2,h3,by omega⟩,fun i t w ht hw=>let⟨c1,c2⟩:=h.cell i t w ht hw;⟨c1.up (fun _ _ _ _=>rfl) hx,c2.up (fun _ _ _ _=>rfl) hx⟩,h.nd⟩
structure mY (L:List BC)(W:List (SC×SC))(N0 k n3 n5:Nat)(V0:AV)(e:aF)(R3:List SC)(s0 s:LC):Prop where
 e3:(s.env 3).v=.ptr 3 n3 0
 e5:(s.env 5).v=.ptr 5 n5 0
 m3:s.mem 3 n3=some R3
 m5:s.mem 5 n5=some [⟨.ptr 9 N0 (k*10),.no⟩]
 ed:EdR e R3
 ty:aZ L W N0 s.next V0 s.mem
 kp:RQ N0 s0 s
def sH (L:List BC)(W:List (SC×SC))(N0 k:Nat)(V0:AV)(t:BC)(e:aF)(s0 s:LC):Prop:=∃w',aZ (L.set k (jD t e).2) (W.set k w') N0 s.next V0 s.mem/\RQ N0 s0 s
section
variable {r:RV} {L:List BC} {W:List (SC × SC)} {N0 k n3 n5:Nat} {V0:AV} {e:aF} {R3:List SC} {t:BC} {w:SC × SC}
include r L W N0 k n3 n5 V0 e R3 t w
theorem ch6 (he:e.kind=6)(ha:QG e.kind t.kind=true)(hL:L[k]?=some t)(hW:W[k]?=some w)(TB:cT t)(l1:t.qA.length<=800)(l2:t.wA.length<=800)(s0 s:LC)(h:mY L W N0 k n3 n5 V0 e R3 s0 s)(K:Ex->LC->Option RV)
  (lf:∀s',(jD t e).1=0->sH L W N0 k V0 t e s0 s'->K .nrm s'=some r) (df:∀s',(jD t e).1=0->(s'.env 4).v=.int .i64 0->sH L W N0 k V0 t e s0 s'->K .ret s'=some r) (fh:∀s',¬(jD t e).1=0->(s'.env 4).v=.int .i64 (jD t e).1->RQ N0 s0 s'->K .ret s'=some r):gL.run (sF aE LD) (jH aE LD) s K=some r:=by
 rw[he]at ha;obtain⟨env,mem,nx,obj,gh⟩:=s;obtain⟨e3,e5,m3,m5,⟨d0,d1,d2,d3,d4,xC,d18,d19,d20,d21,d22,d23,TC,dm,ds⟩,hT,hK⟩:=h;dsimp only at e3 e5 m3 m5 hT hK;rw[he]at d0;have sj:L≠[]:=fun e=>by rw[e]at hL;cases hL
 obtain⟨-,xz,h9,ak⟩:=hT.v0.resolve_left fun h=>sj h.1
 obtain⟨c5,c6⟩:=hT.cell k t w hL hW;have tp:KC false 1 (k*10+1) (lD (L) W) (.str e.name) .no=some (lD (L.set k { t with name:=e.name }) W):=by
  have:=tG (t':={ t with name:=e.name }) (w':=w) hL hW (j:=1) (x:=(.str e.name)) (a:=.no) (by omega) rfl rfl;rw[sI hW]at this;exact this
 have sb:jD t e=(0,{ t with name:=e.name }):=by simp[jD,he,ha]<;>rfl
 have JJ:∀(na:Nat->Nat->Option (List SC))(env':Nat->SC)(nx':Nat)(tb:Nat->Nat->Option AV),nx<=nx'->na 9 N0=some (lD (L.set k { t with name:=e.name }) W)->(∀tn nn,¬(tn=9/\nn=N0)->na tn nn=mem tn nn)->sH L W N0 k V0 t e s0 ⟨env',na,nx',tb,gh⟩:=fun na env' nx' tb hx rk hm=>by
  have af:∀tn nn,tn∈KS->na tn nn=mem tn nn:=fun tn nn ht=>hm tn nn (fun e=>absurd (e.1▸ht) (by decide))
  refine⟨w,?_,⟨hK.gh,fun tn nn r' hl hk ua he hr=>(hm tn nn ua).trans (hK.mem tn nn r' hl hk ua he hr),yH hK.next hx⟩⟩;rw[sb];exact hT.upd hL hW hx (by rw[sI hW];exact rk) (fun tn nn l ht _ _ _ hr=>(af tn nn ht).trans hr) ⟨c5.up (fun tn nn ht _=>af tn nn ht) hx,c6.up (fun tn nn ht _=>af tn nn ht) hx⟩ (qN hT.nd w (yr hW)) (fun p hp=>.inl hp)
 generalize gg:lD L W=R0 at *
 generalize ah:lD (L.set k { t with name:=e.name }) W=R1 at *
 simp[gL,-J,-yb,-y9,y0,-eD,-KC,FC,HC,JC,DC,FC,e3,e5,m3,m5,h9,d0,d3,tp];exact lf _ (by rw[sb]) (JJ _ _ _ _ (by omega) (by simp[CC]) (fun tn nn ua=>by simp[CC,ua]))
theorem ch7 (he:e.kind=7)(ha:QG e.kind t.kind=true)(hL:L[k]?=some t)(hW:W[k]?=some w)(TB:cT t)(l1:t.qA.length<=800)(l2:t.wA.length<=800)(s0 s:LC)(h:mY L W N0 k n3 n5 V0 e R3 s0 s)(K:Ex->LC->Option RV)
  (lf:∀s',(jD t e).1=0->sH L W N0 k V0 t e s0 s'->K .nrm s'=some r) (df:∀s',(jD t e).1=0->(s'.env 4).v=.int .i64 0->sH L W N0 k V0 t e s0 s'->K .ret s'=some r) (fh:∀s',¬(jD t e).1=0->(s'.env 4).v=.int .i64 (jD t e).1->RQ N0 s0 s'->K .ret s'=some r):gL.run (sF aE LD) (jH aE LD) s K=some r:=by
 rw[he]at ha;obtain⟨env,mem,nx,obj,gh⟩:=s;obtain⟨e3,e5,m3,m5,⟨d0,d1,d2,d3,d4,xC,d18,d19,d20,d21,d22,d23,TC,dm,ds⟩,hT,hK⟩:=h;dsimp only at e3 e5 m3 m5 hT hK;rw[he]at d0;have sj:L≠[]:=fun e=>by rw[e]at hL;cases hL
 obtain⟨-,xz,h9,ak⟩:=hT.v0.resolve_left fun h=>sj h.1
 obtain⟨c5,c6⟩:=hT.cell k t w hL hW;have r0:=NG hL hW (j:=0) (by omega);simp only[QE,Y0d,yV]at r0;by_cases k2:t.kind=2
 ·rw[k2]at r0;have tp:KC false 1 (k*10+2) (lD (L) W) (.int .i64 e.low) .no=some (lD (L.set k { t with low:=e.low }) W):=by
   have:=tG (t':={ t with low:=e.low }) (w':=w) hL hW (j:=2) (x:=(.int .i64 e.low)) (a:=.no) (by omega) rfl rfl;rw[sI hW]at this;exact this
  have uz:(L.set k { t with low:=e.low })[k]?=some { t with low:=e.low }:=Y0n (yn.1 hL).1;have rg:KC false 1 (k*10+3) (lD (L.set k { t with low:=e.low }) W) (.int .i64 e.high) .no=some (lD (L.set k { { t with low:=e.low }with high:=e.high }) W):=by
   have:=tG (t':={ { t with low:=e.low }with high:=e.high }) (w':=w) uz hW (j:=3) (x:=(.int .i64 e.high)) (a:=.no) (by omega) rfl rfl;rw[sI hW,List.set_set]at this;exact this
  have sb:jD t e=(0,{ { t with low:=e.low }with high:=e.high }):=by simp[jD,he,ha,k2]<;>rfl
  have JJ:∀(na:Nat->Nat->Option (List SC))(env':Nat->SC)(nx':Nat)(tb:Nat->Nat->Option AV),nx<=nx'->na 9 N0=some (lD (L.set k { { t with low:=e.low }with high:=e.high }) W)->(∀tn nn,¬(tn=9/\nn=N0)->na tn nn=mem tn nn)->sH L W N0 k V0 t e s0 ⟨env',na,nx',tb,gh⟩:=fun na env' nx' tb hx rk hm=>by
   have af:∀tn nn,tn∈KS->na tn nn=mem tn nn:=fun tn nn ht=>hm tn nn (fun e=>absurd (e.1▸ht) (by decide))
   refine⟨w,?_,⟨hK.gh,fun tn nn r' hl hk ua he hr=>(hm tn nn ua).trans (hK.mem tn nn r' hl hk ua he hr),yH hK.next hx⟩⟩;rw[sb];exact hT.upd hL hW hx (by rw[sI hW];exact rk) (fun tn nn l ht _ _ _ hr=>(af tn nn ht).trans hr) ⟨c5.up (fun tn nn ht _=>af tn nn ht) hx,c6.up (fun tn nn ht _=>af tn nn ht) hx⟩ (qN hT.nd w (yr hW)) (fun p hp=>.inl hp)
  generalize gg:lD L W=R0 at *
  generalize ah:lD (L.set k { t with low:=e.low }) W=R1 at *
  generalize hR2:lD (L.set k { { t with low:=e.low }with high:=e.high }) W=R2 at *
  simp[gL,-J,-yb,-y9,y0,-eD,-KC,FC,HC,JC,DC,FC,e3,e5,m3,m5,h9,d0,r0,d19,d20,tp,rg];exact lf _ (by rw[sb]) (JJ _ _ _ _ (by omega) (by simp[CC]) (fun tn nn ua=>by simp[CC,ua]))
 ·skip
  have tp:KC false 1 (k*10+4) (lD (L) W) (.int .i64 e.max) .no=some (lD (L.set k { t with max:=e.max }) W):=by
   have:=tG (t':={ t with max:=e.max }) (w':=w) hL hW (j:=4) (x:=(.int .i64 e.max)) (a:=.no) (by omega) rfl rfl;rw[sI hW]at this;exact this
  have sb:jD t e=(0,{ t with max:=e.max }):=by simp[jD,he,ha,k2]<;>rfl
  have JJ:∀(na:Nat->Nat->Option (List SC))(env':Nat->SC)(nx':Nat)(tb:Nat->Nat->Option AV),nx<=nx'->na 9 N0=some (lD (L.set k { t with max:=e.max }) W)->(∀tn nn,¬(tn=9/\nn=N0)->na tn nn=mem tn nn)->sH L W N0 k V0 t e s0 ⟨env',na,nx',tb,gh⟩:=fun na env' nx' tb hx rk hm=>by
   have af:∀tn nn,tn∈KS->na tn nn=mem tn nn:=fun tn nn ht=>hm tn nn (fun e=>absurd (e.1▸ht) (by decide))
   refine⟨w,?_,⟨hK.gh,fun tn nn r' hl hk ua he hr=>(hm tn nn ua).trans (hK.mem tn nn r' hl hk ua he hr),yH hK.next hx⟩⟩;rw[sb];exact hT.upd hL hW hx (by rw[sI hW];exact rk) (fun tn nn l ht _ _ _ hr=>(af tn nn ht).trans hr) ⟨c5.up (fun tn nn ht _=>af tn nn ht) hx,c6.up (fun tn nn ht _=>af tn nn ht) hx⟩ (qN hT.nd w (yr hW)) (fun p hp=>.inl hp)
  generalize gg:lD L W=R0 at *
  generalize ah:lD (L.set k { t with max:=e.max }) W=R1 at *
  simp[gL,-J,-yb,-y9,y0,-eD,-KC,FC,HC,JC,DC,FC,e3,e5,m3,m5,h9,d0,r0,k2,d21,tp];exact lf _ (by rw[sb]) (JJ _ _ _ _ (by omega) (by simp[CC]) (fun tn nn ua=>by simp[CC,ua]))
theorem ch8 (he:e.kind=8)(ha:QG e.kind t.kind=true)(hL:L[k]?=some t)(hW:W[k]?=some w)(TB:cT t)(l1:t.qA.length<=800)(l2:t.wA.length<=800)(s0 s:LC)(h:mY L W N0 k n3 n5 V0 e R3 s0 s)(K:Ex->LC->Option RV)
  (lf:∀s',(jD t e).1=0->sH L W N0 k V0 t e s0 s'->K .nrm s'=some r) (df:∀s',(jD t e).1=0->(s'.env 4).v=.int .i64 0->sH L W N0 k V0 t e s0 s'->K .ret s'=some r) (fh:∀s',¬(jD t e).1=0->(s'.env 4).v=.int .i64 (jD t e).1->RQ N0 s0 s'->K .ret s'=some r):gL.run (sF aE LD) (jH aE LD) s K=some r:=by
 rw[he]at ha;obtain⟨env,mem,nx,obj,gh⟩:=s;obtain⟨e3,e5,m3,m5,⟨d0,d1,d2,d3,d4,xC,d18,d19,d20,d21,d22,d23,TC,dm,ds⟩,hT,hK⟩:=h;dsimp only at e3 e5 m3 m5 hT hK;rw[he]at d0;have sj:L≠[]:=fun e=>by rw[e]at hL;cases hL
 obtain⟨-,xz,h9,ak⟩:=hT.v0.resolve_left fun h=>sj h.1
 obtain⟨c5,c6⟩:=hT.cell k t w hL hW;have tp:KC false 1 (k*10+9) (lD (L) W) (.bool e.opn) .no=some (lD (L.set k { t with opn:=e.opn }) W):=by
  have:=tG (t':={ t with opn:=e.opn }) (w':=w) hL hW (j:=9) (x:=(.bool e.opn)) (a:=.no) (by omega) rfl rfl;rw[sI hW]at this;exact this
 have sb:jD t e=(0,{ t with opn:=e.opn }):=by simp[jD,he,ha]<;>rfl
 have JJ:∀(na:Nat->Nat->Option (List SC))(env':Nat->SC)(nx':Nat)(tb:Nat->Nat->Option AV),nx<=nx'->na 9 N0=some (lD (L.set k { t with opn:=e.opn }) W)->(∀tn nn,¬(tn=9/\nn=N0)->na tn nn=mem tn nn)->sH L W N0 k V0 t e s0 ⟨env',na,nx',tb,gh⟩:=fun na env' nx' tb hx rk hm=>by
  have af:∀tn nn,tn∈KS->na tn nn=mem tn nn:=fun tn nn ht=>hm tn nn (fun e=>absurd (e.1▸ht) (by decide))
  refine⟨w,?_,⟨hK.gh,fun tn nn r' hl hk ua he hr=>(hm tn nn ua).trans (hK.mem tn nn r' hl hk ua he hr),yH hK.next hx⟩⟩;rw[sb];exact hT.upd hL hW hx (by rw[sI hW];exact rk) (fun tn nn l ht _ _ _ hr=>(af tn nn ht).trans hr) ⟨c5.up (fun tn nn ht _=>af tn nn ht) hx,c6.up (fun tn nn ht _=>af tn nn ht) hx⟩ (qN hT.nd w (yr hW)) (fun p hp=>.inl hp)
 generalize gg:lD L W=R0 at *
 generalize ah:lD (L.set k { t with opn:=e.opn }) W=R1 at *
 simp[gL,-J,-yb,-y9,y0,-eD,-KC,FC,HC,JC,DC,FC,e3,e5,m3,m5,h9,d0,d22,tp];exact lf _ (by rw[sb]) (JJ _ _ _ _ (by omega) (by simp[CC]) (fun tn nn ua=>by simp[CC,ua]))
theorem ch9 (he:e.kind=9)(ha:QG e.kind t.kind=true)(hL:L[k]?=some t)(hW:W[k]?=some w)(TB:cT t)(l1:t.qA.length<=800)(l2:t.wA.length<=800)(s0 s:LC)(h:mY L W N0 k n3 n5 V0 e R3 s0 s)(K:Ex->LC->Option RV)
  (lf:∀s',(jD t e).1=0->sH L W N0 k V0 t e s0 s'->K .nrm s'=some r) (df:∀s',(jD t e).1=0->(s'.env 4).v=.int .i64 0->sH L W N0 k V0 t e s0 s'->K .ret s'=some r) (fh:∀s',¬(jD t e).1=0->(s'.env 4).v=.int .i64 (jD t e).1->RQ N0 s0 s'->K .ret s'=some r):gL.run (sF aE LD) (jH aE LD) s K=some r:=by
 rw[he]at ha;obtain⟨env,mem,nx,obj,gh⟩:=s;obtain⟨e3,e5,m3,m5,⟨d0,d1,d2,d3,d4,xC,d18,d19,d20,d21,d22,d23,TC,dm,ds⟩,hT,hK⟩:=h;dsimp only at e3 e5 m3 m5 hT hK;rw[he]at d0;have sj:L≠[]:=fun e=>by rw[e]at hL;cases hL
 obtain⟨-,xz,h9,ak⟩:=hT.v0.resolve_left fun h=>sj h.1
 obtain⟨c5,c6⟩:=hT.cell k t w hL hW;have r0:=NG hL hW (j:=0) (by omega);simp only[QE,Y0d,yV]at r0;have r0':(lD (L.set k { t with elem:=e.elem }) W)[k*10]?=some ⟨.int .i64 t.kind,.no⟩:=by
  have:=NG (L:=L.set k { t with elem:=e.elem }) (Y0n (yn.1 hL).1) hW (j:=0) (by omega);simp only[QE,Y0d,yV]at this;exact this
 by_cases k8:t.kind=8
 ·replace r0':(lD (L.set k { t with elem:=e.elem }) W)[k * 10]?=some ⟨.int .i64 8,.no⟩:=by rw [r0',k8]
  have tp:KC false 1 (k*10+8) (lD (L) W) (.int .i64 e.elem) .no=some (lD (L.set k { t with elem:=e.elem }) W):=by
   have:=tG (t':={ t with elem:=e.elem }) (w':=w) hL hW (j:=8) (x:=(.int .i64 e.elem)) (a:=.no) (by omega) rfl rfl;rw[sI hW]at this;exact this
  have uz:(L.set k { t with elem:=e.elem })[k]?=some { t with elem:=e.elem }:=Y0n (yn.1 hL).1;have rg:KC false 1 (k*10+7) (lD (L.set k { t with elem:=e.elem }) W) (.int .i64 e.key) .no=some (lD (L.set k { { t with elem:=e.elem }with key:=e.key }) W):=by
   have:=tG (t':={ { t with elem:=e.elem }with key:=e.key }) (w':=w) uz hW (j:=7) (x:=(.int .i64 e.key)) (a:=.no) (by omega) rfl rfl;rw[sI hW,List.set_set]at this;exact this
  have sb:jD t e=(0,{ { t with elem:=e.elem }with key:=e.key }):=by simp[jD,he,ha,k8]<;>rfl
  have JJ:∀(na:Nat->Nat->Option (List SC))(env':Nat->SC)(nx':Nat)(tb:Nat->Nat->Option AV),nx<=nx'->na 9 N0=some (lD (L.set k { { t with elem:=e.elem }with key:=e.key }) W)->(∀tn nn,¬(tn=9/\nn=N0)->na tn nn=mem tn nn)->sH L W N0 k V0 t e s0 ⟨env',na,nx',tb,gh⟩:=fun na env' nx' tb hx rk hm=>by
   have af:∀tn nn,tn∈KS->na tn nn=mem tn nn:=fun tn nn ht=>hm tn nn (fun e=>absurd (e.1▸ht) (by decide))
   refine⟨w,?_,⟨hK.gh,fun tn nn r' hl hk ua he hr=>(hm tn nn ua).trans (hK.mem tn nn r' hl hk ua he hr),yH hK.next hx⟩⟩;rw[sb];exact hT.upd hL hW hx (by rw[sI hW];exact rk) (fun tn nn l ht _ _ _ hr=>(af tn nn ht).trans hr) ⟨c5.up (fun tn nn ht _=>af tn nn ht) hx,c6.up (fun tn nn ht _=>af tn nn ht) hx⟩ (qN hT.nd w (yr hW)) (fun p hp=>.inl hp)
  generalize gg:lD L W=R0 at *
  generalize ah:lD (L.set k { t with elem:=e.elem }) W=R1 at *
  generalize hR2:lD (L.set k { { t with elem:=e.elem }with key:=e.key }) W=R2 at *
  simp[gL,-J,-yb,-y9,y0,-eD,-KC,FC,HC,JC,DC,FC,e3,e5,m3,m5,h9,d0,r0',d23,TC,tp,rg];exact lf _ (by rw[sb]) (JJ _ _ _ _ (by omega) (by simp[CC]) (fun tn nn ua=>by simp[CC,ua]))
 ·skip
  have tp:KC false 1 (k*10+8) (lD (L) W) (.int .i64 e.elem) .no=some (lD (L.set k { t with elem:=e.elem }) W):=by
   have:=tG (t':={ t with elem:=e.elem }) (w':=w) hL hW (j:=8) (x:=(.int .i64 e.elem)) (a:=.no) (by omega) rfl rfl;rw[sI hW]at this;exact this
  have sb:jD t e=(0,{ t with elem:=e.elem }):=by simp[jD,he,ha,k8]<;>rfl
  have JJ:∀(na:Nat->Nat->Option (List SC))(env':Nat->SC)(nx':Nat)(tb:Nat->Nat->Option AV),nx<=nx'->na 9 N0=some (lD (L.set k { t with elem:=e.elem }) W)->(∀tn nn,¬(tn=9/\nn=N0)->na tn nn=mem tn nn)->sH L W N0 k V0 t e s0 ⟨env',na,nx',tb,gh⟩:=fun na env' nx' tb hx rk hm=>by
   have af:∀tn nn,tn∈KS->na tn nn=mem tn nn:=fun tn nn ht=>hm tn nn (fun e=>absurd (e.1▸ht) (by decide))
   refine⟨w,?_,⟨hK.gh,fun tn nn r' hl hk ua he hr=>(hm tn nn ua).trans (hK.mem tn nn r' hl hk ua he hr),yH hK.next hx⟩⟩;rw[sb];exact hT.upd hL hW hx (by rw[sI hW];exact rk) (fun tn nn l ht _ _ _ hr=>(af tn nn ht).trans hr) ⟨c5.up (fun tn nn ht _=>af tn nn ht) hx,c6.up (fun tn nn ht _=>af tn nn ht) hx⟩ (qN hT.nd w (yr hW)) (fun p hp=>.inl hp)
  generalize gg:lD L W=R0 at *
  generalize ah:lD (L.set k { t with elem:=e.elem }) W=R1 at *
  simp[gL,-J,-yb,-y9,y0,-eD,-KC,FC,HC,JC,DC,FC,e3,e5,m3,m5,h9,d0,r0',k8,TC,tp];exact lf _ (by rw[sb]) (JJ _ _ _ _ (by omega) (by simp[CC]) (fun tn nn ua=>by simp[CC,ua]))
end
section
variable {N0:Nat} {s0:LC} {env:Nat->SC} {mem:Nat->Nat->Option (List SC)} {nx nx':Nat} {obj:Nat->Nat->Option AV} {gh:Nat->SC} (h:RQ N0 s0 ⟨env,mem,nx,obj,gh⟩)
include N0 s0 env mem nx nx' obj gh h
theorem RQ.fresh {row N:Nat}{r R:List SC}(h1:row∈KS)(hx:nx<=nx'){env':Nat->SC}{tb:Nat->Nat->Option AV}:RQ N0 s0 ⟨env',DN (DN mem row N r) 9 N0 R,nx',tb,gh⟩ :=
 have q:=(h.set (env':=env) (n:=N) (r:=r) (.inr (.inl h1)) (yl _)).set (env':=env') (r:=R) (.inr (.inr ⟨rfl,rfl⟩)) hx
 ⟨q.gh,q.mem,q.next⟩
theorem RQ.swap {row N tm nm:Nat}{r R:List SC}(h0:tm∈KS)(h1:row∈KS)(hx:nx<=nx'){env':Nat->SC}{tb:Nat->Nat->Option AV}:RQ N0 s0 ⟨env',DN (DN (FV tm nm mem) row N r) 9 N0 R,nx',tb,DV tm nm gh⟩ :=
 have q:=((h.kill (env':=env) (n:=nm) h0 (yl _)).set (env':=env) (n:=N) (r:=r) (.inr (.inl h1)) (yl _)).set (env':=env') (r:=R) (.inr (.inr ⟨rfl,rfl⟩)) hx
 ⟨q.gh,q.mem,q.next⟩
end
theorem jP {l:List (List AV)}(h:ND l=true){t n:Nat}:(qD l).map (SC.kill t n)=qD l:=by
 unfold qD;rw[y9];refine yE fun v hv=>?_
 obtain⟨c,hc,hvc⟩:=List.mem_flatten.1 hv;have hf:v.tA=true:=ye.1 (ye.1 h c hc) v hvc;cases v<;>first|rfl|(simp[AV.tA]at hf)
section
variable {r:RV} {L:List BC} {W:List (SC × SC)} {N0 k n3 n5:Nat} {V0:AV} {e:aF} {R3:List SC} {t:BC} {w:SC × SC}
include r L W N0 k n3 n5 V0 e R3 t w
theorem ch1 (he:e.kind=1)(ha:QG e.kind t.kind=true)(hL:L[k]?=some t)(hW:W[k]?=some w)(TB:cT t)(l1:t.qA.length<=800)(l2:t.wA.length<=800)(s0 s:LC)(h:mY L W N0 k n3 n5 V0 e R3 s0 s)(K:Ex->LC->Option RV)
  (lf:∀s',(jD t e).1=0->sH L W N0 k V0 t e s0 s'->K .nrm s'=some r) (df:∀s',(jD t e).1=0->(s'.env 4).v=.int .i64 0->sH L W N0 k V0 t e s0 s'->K .ret s'=some r) (fh:∀s',¬(jD t e).1=0->(s'.env 4).v=.int .i64 (jD t e).1->RQ N0 s0 s'->K .ret s'=some r):gL.run (sF aE LD) (jH aE LD) s K=some r:=by
 rw[he]at ha;obtain⟨env,mem,nx,obj,gh⟩:=s;obtain⟨e3,e5,m3,m5,⟨d0,d1,d2,d3,d4,xC,d18,d19,d20,d21,d22,d23,TC,dm,ds⟩,hT,hK⟩:=h;dsimp only at e3 e5 m3 m5 hT hK;rw[he]at d0;have sj:L≠[]:=fun e=>by rw[e]at hL;cases hL
 obtain⟨-,xz,h9,ak⟩:=hT.v0.resolve_left fun h=>sj h.1
 obtain⟨c5,c6⟩:=hT.cell k t w hL hW;obtain⟨b5,t5,n5',-,-,-,f5⟩:=c5.FA (AH _) (HG _);obtain⟨b6,t6,n6',-,-,-,f6⟩:=c6.FA (dG _) (GG _);have mj:∀env nx obj gh,AV.lA ⟨env,mem,nx,obj,gh⟩ w.1.v=.sl b5 (t.wA.map fD):=fun _ _ _ _=>f5 _ (fun _ _=>rfl)
 have nj:∀env nx obj gh,AV.lA ⟨env,mem,nx,obj,gh⟩ w.2.v=.sl b6 (t.qA.map rD):=fun _ _ _ _=>f6 _ (fun _ _=>rfl)
 have mf:=fJ (BS ⟨t.kind,t.name,t.low,t.high,t.max,b5,t.wA,b6,t.qA,t.key,t.elem,t.opn⟩ e.mem.id (by dsimp only;omega));simp only[GR,GC]at mf;have rl:=UO hL hW;simp only[QE,ym,yQ]at rl;have rj:=NG hL hW (j:=6) (by omega);simp only[QE,Y0o,Y0d]at rj;have eg:∀{t:Nat},t∈KS->¬t=3/\¬t=5/\¬t=9/\¬t=0:=fun{t} ht=>by
  refine⟨?_,?_,?_,?_⟩<;>(intro e;subst e;exact absurd ht (by decide))
 have le:=qN hT.nd w (yr hW);by_cases hh:nT t.qA e.mem.id=true
 ·obtain ⟨i,x,lz,_,_⟩:=s6 hh;rw [lz] at mf;have sb:jD t e=(5,t):=by simp [jD,he,ha,hh]
  rw[sb]at fh;have gc:(0:Int)<=i:=by omega
  generalize gg:lD L W=R0 at *
  simp[gL,-J,-yb,-y9,y0,-eD,-KC,FC,HC,JC,DC,AV.plain,AV.cA,FC,e3,e5,m3,m5,h9,d0,d4,rl,↓mj,↓nj,mf,gc,-ye];exact fh _ (by simp) (by simp) (hK.env (by omega))
 ·skip
  have dp:=p6 hh;rw[dp]at mf;obtain⟨ms,bg⟩:∃ms,ms=FQ ED.id e.mem t.qA:=⟨_,rfl⟩;have zm:jD t e=(0,{ t with qA:=ms }):=by simp[jD,he,ha,hh,bg] 
  have ei:kD 13 (ms.map rD)=true:=dG ms;have zn:((ms.map rD).all fun c=>c.all AV.tA)=true:=GG ms;have oi:(ms.map rD).length=ms.length:=yc _
  -- what the end is like
  have JJ:∀(X:SC)(N:Nat)(na:Nat->Nat->Option (List SC))(nx':Nat),nx<=N->N<nx'->X=⟨.ref 68 N 13 0 ms.length ms.length,.no⟩->na 9 N0=some (lD (L.set k { t with qA:=ms }) (W.set k (w.1,X)))->na 68 N=some (qD (ms.map rD))->(∀tn nn l,tn∈KS->nn<nx->(tn,nn) ∉ wN w.2->ND l=true->mem tn nn=some (qD l)->na tn nn=some (qD l))->∀s':LC,s'.mem=na->s'.next=nx'->RQ N0 s0 s'->sH L W N0 k V0 t e s0 s':=fun X N na nx' hN wz hX rk hr hm s' wi et mt=>by
   subst wi;subst et;refine⟨(w.1,X),?_,mt⟩;rw[zm];have od:∀p∈wN w.1,p ∉ wN w.2:=fun p hp hq=>by
    unfold DL at le;obtain⟨_,_,h3⟩:=yS.1 le;exact h3 p hp p hq rfl
   have tu:wN X=[(68,N)]:=by rw[hX];rfl
   refine hT.upd hL hW (by omega) rk (fun tn nn l ht wg gd pe ja=>hm tn nn l ht wg (fun h=>gd (yu.2 (.inr h))) pe ja) ⟨?_,?_⟩ ?_ (fun p hp=>?_)
   ·exact c5.up' (HG _) (fun tn nn l ht hn pe ja=>hm tn nn l ht (c5.nm _ hn).2 (od _ hn) pe ja) (by omega)
   ·exact .inr ⟨68,N,by rw[hX,yc],by decide,wz,hr⟩
   ·unfold DL at le ⊢;obtain⟨g1,g2,_⟩:=yS.1 le;dsimp only;rw[tu];refine yS.2 ⟨g1,by simp,fun p hp q hq e=>?_⟩;subst e;have h1:=(c5.nm p hp).2;simp only[yU]at hq;rw[hq]at h1;dsimp only at h1;omega
   ·unfold DL at hp ⊢;dsimp only at hp;rw [tu] at hp;rcases yu.1 hp with hp | hp
    ·exact .inl (yu.2 (.inl hp))
    ·simp only[yU]at hp;rw[hp];exact .inr hN
  have pp:=qZ (f:=ED.id) e.mem.id t.qA;have ar:∀b:Bool,(b=true->t.qA=[])->sF aE LD 62 [.undef,.sl b (t.qA.map rD),.int .i64 (qL ED.id e.mem.id t.qA:Nat),.sl false [rD e.mem]] (some (.int .i64 13))=some (.sl false (ms.map rD),none):=fun b hb=>by
   have:=ins_m (b:=b) (x:=e.mem) pp (by omega) hb;rw[bg,GZ];exact this
  have kr:(rD e.mem).length=13:=rfl;have hxf:(rD e.mem).all AV.tA=true:=rfl;obtain⟨P,hP⟩:∃P:Int,P=(qL ED.id e.mem.id t.qA:Nat):=⟨_,rfl⟩;rw[<- hP]at ar;have gk:=fun(n:Int)(a0 a1:An)(hn:n=t.qA.length)(s:LC)(h:Plm k N0 n3 n5 e.mem.id t.qA s)(KK:SC->LC->Option RV)(hk:∀s' a,aR s s'->KK ⟨.int .i64 P,a⟩ s'=some r)=>plm_h (a0:=a0) (a1:=a1) hn (by omega) s h KK (by rw[<- hP];exact hk)
  rcases c6 with⟨h0,b,td⟩|⟨tm,nm,td,fj,rb,mm⟩
  ·have h00:t.qA=[]:=List.map_eq_nil_iff.1 h0;have pg:=ar b (fun _=>h00);rw [h0] at pg;have pw:∀ N,KC false 1 (k * 10 + 6) (lD L W) (.ref 68 N 13 0 ms.length ms.length) .no=some (lD (L.set k { t with qA:=ms }) (W.set k (w.1,⟨.ref 68 N 13 0 ms.length ms.length,.no⟩))):=fun N=>tG hL hW (j:=6) (by omega) rfl (by rfl)
   rw[td]at rj;rw[td]at nj;dsimp only at nj;have bo:w.2.v=.sl b []:=by rw[td]
   rw[bo]at rl;have hPl:∀env' nx' tb lj,Plm k N0 n3 n5 e.mem.id t.qA ⟨env',mem,nx',tb,lj⟩:=fun _ _ _ _=>⟨⟨_,m5⟩,⟨_,0,0,h9,fun h=>absurd h00 h⟩,⟨R3,m3,d4⟩⟩
   generalize rD e.mem=xc at *
   generalize xj:ms.map rD=mc at *
   generalize gg:lD L W=R0 at *
   simp[gL,-J,-yb,-y9,y0,-eD,-KC,FC,HC,JC,DC,AV.plain,AV.cA,FC,e3,e5,m3,m5,h9,d0,d4,dm,rl,↓mj,↓nj,mf,rj,-ye];refine gk 0 _ _ (by rw[h00];rfl) _ (hPl _ _ _ _) _ (fun s' an hs=>?_);obtain⟨env',na,nx',tb,lj⟩:=s';obtain⟨g1,g2,g3⟩:=hs;dsimp only at g1 g2 g3;subst g1;subst g2;simp[-J,-yb,-y9,y0,-eD,-KC,FC,HC,JC,DC,LY,FC,mJ,e3,e5,m3,m5,h9,dm,rj,kr,hxf,pg,ei,zn,oi,pw,-ye];refine lf _ (by rw[zm]) ?_;refine JJ _ (nx'+1) _ _ (by omega) ?_ rfl ?_ ?_ (fun tn nn l ht wg _ _ ja=>?_) _ rfl rfl ?_
   ·dsimp only;omega
   ·simp[CC]
   ·simp[CC,xj]
   ·skip
    obtain⟨q1,q2,q3,q4⟩:=eg ht;have e1:¬nn=nx'+1:=by omega
    simp[CC,q3,e1,ja]
   ·refine(hK.fresh (row:=68) (by decide) ?_);omega
  ·have pg:=ar false (fun h=>by cases h);have oj:(tm,nm)∈DL w:=by unfold DL; rw [td]; simp [wN]
   have zj:w.1.kill tm nm=w.1:=c5.kill fun hp=>by
    unfold DL at le;obtain⟨_,_,h3⟩:=yS.1 le;have si:(tm,nm)∈wN w.2:=by rw[td];simp[wN]
    exact h3 _ hp _ si rfl
   have pw:∀N,KC false 1 (k*10+6) ((lD L W).map (SC.kill tm nm)) (.ref 68 N 13 0 ms.length ms.length) .no=some (lD (L.set k { t with qA:=ms }) (W.set k (w.1,⟨.ref 68 N 13 0 ms.length ms.length,.no⟩))):=fun N=>uR hT hL hW oj (j:=6) (by omega) rfl (by simp only[fB,zj];rfl)
   obtain⟨q1,q2,q3,q4⟩:=eg fj;have zw:¬3=tm:=fun e=>q1 e.symm
   have dx:¬5=tm:=fun e=>q2 e.symm
   have bx:¬9=tm:=fun e=>q3 e.symm
   have dd:=AE (dG t.qA) (GG _);rw[yc]at dd td;rw[td]at rj;rw[td]at nj;dsimp only at nj;have bo:w.2.v=.ref tm nm 13 0 t.qA.length t.qA.length:=by rw[td]
   rw[bo]at rl;have hPl:∀env' nx' tb lj,Plm k N0 n3 n5 e.mem.id t.qA ⟨env',mem,nx',tb,lj⟩:=fun _ _ _ _=>⟨⟨_,m5⟩,⟨_,tm,nm,h9,fun _=>⟨rj,mm⟩⟩,⟨R3,m3,d4⟩⟩
   generalize rD e.mem=xc at *
   generalize xj:ms.map rD=mc at *
   generalize gg:lD L W=R0 at *
   simp[gL,-J,-yb,-y9,y0,-eD,-KC,FC,HC,JC,DC,AV.plain,AV.cA,FC,e3,e5,m3,m5,h9,d0,d4,dm,rl,↓mj,↓nj,mf,rj,-ye];refine gk _ _ _ rfl _ (hPl _ _ _ _) _ (fun s' an hs=>?_);obtain⟨env',na,nx',tb,lj⟩:=s';obtain⟨g1,g2,g3⟩:=hs;dsimp only at g1 g2 g3;subst g1;subst g2;generalize ai:qD (t.qA.map rD)=row0 at *
   generalize rd:t.qA.map rD=old at *
   simp[-J,-yb,-y9,y0,-eD,-KC,FC,HC,JC,DC,FC,mJ,e3,e5,m3,m5,h9,mm,dd,dm,rj,q1,q2,q3,q4,zw,dx,bx,kr,hxf,pg,ei,zn,oi,pw,-ye];refine lf _ (by rw[zm]) ?_;refine JJ _ (nx'+1) _ _ (by omega) ?_ rfl ?_ ?_ (fun tn nn l ht wg gd pe ja=>?_) _ rfl rfl ?_
   ·dsimp only;omega
   ·simp[CC]
   ·simp[CC,xj]
   ·skip
    obtain⟨q5,q6,q7,q8⟩:=eg ht;have e1:¬nn=nx'+1:=by omega
    have e2:¬(tn=tm/\nn=nm):=fun e=>gd (by rw[td,e.1,e.2];simp[wN])
    simp[CC,UD,q7,e1,e2,ja,jP pe]
   ·refine(hK.swap (row:=68) fj (by decide) ?_);omega
theorem ch2 (he:e.kind=2)(ha:QG e.kind t.kind=true)(hL:L[k]?=some t)(hW:W[k]?=some w)(TB:cT t)(l1:t.qA.length<=800)(l2:t.wA.length<=800)(s0 s:LC)(h:mY L W N0 k n3 n5 V0 e R3 s0 s)(K:Ex->LC->Option RV)
  (lf:∀s',(jD t e).1=0->sH L W N0 k V0 t e s0 s'->K .nrm s'=some r) (df:∀s',(jD t e).1=0->(s'.env 4).v=.int .i64 0->sH L W N0 k V0 t e s0 s'->K .ret s'=some r) (fh:∀s',¬(jD t e).1=0->(s'.env 4).v=.int .i64 (jD t e).1->RQ N0 s0 s'->K .ret s'=some r):gL.run (sF aE LD) (jH aE LD) s K=some r:=by
 rw[he]at ha;obtain⟨env,mem,nx,obj,gh⟩:=s;obtain⟨e3,e5,m3,m5,⟨d0,d1,d2,d3,d4,xC,d18,d19,d20,d21,d22,d23,TC,dm,ds⟩,hT,hK⟩:=h;dsimp only at e3 e5 m3 m5 hT hK;rw[he]at d0;have sj:L≠[]:=fun e=>by rw[e]at hL;cases hL
 obtain⟨-,xz,h9,ak⟩:=hT.v0.resolve_left fun h=>sj h.1
 obtain⟨c5,c6⟩:=hT.cell k t w hL hW;obtain⟨b5,t5,n5',-,-,-,f5⟩:=c5.FA (AH _) (HG _);obtain⟨b6,t6,n6',-,-,-,f6⟩:=c6.FA (dG _) (GG _);have mj:∀env nx obj gh,AV.lA ⟨env,mem,nx,obj,gh⟩ w.1.v=.sl b5 (t.wA.map fD):=fun _ _ _ _=>f5 _ (fun _ _=>rfl)
 have nj:∀env nx obj gh,AV.lA ⟨env,mem,nx,obj,gh⟩ w.2.v=.sl b6 (t.qA.map rD):=fun _ _ _ _=>f6 _ (fun _ _=>rfl)
 have mf:=fJ (BS ⟨t.kind,t.name,t.low,t.high,t.max,b5,t.wA,b6,t.qA,t.key,t.elem,t.opn⟩ e.id (by dsimp only;omega));simp only[GR,GC]at mf;have rl:=UO hL hW;simp only[QE,ym,yQ]at rl;have rj:=NG hL hW (j:=6) (by omega);simp only[QE,Y0o,Y0d]at rj;have eg:∀{t:Nat},t∈KS->¬t=3/\¬t=5/\¬t=9/\¬t=0:=fun{t} ht=>by
  refine⟨?_,?_,?_,?_⟩<;>(intro e;subst e;exact absurd ht (by decide))
 have le:=qN hT.nd w (yr hW);by_cases hh:nT t.qA e.id=true
 ·obtain ⟨i,x,lz,hi,hxi⟩:=s6 hh;rw [lz] at mf;obtain ⟨ms,bg⟩:∃ ms,ms=t.qA.filter (fun m=>!decide (m.id=e.id)):=⟨_,rfl⟩;have zm:jD t e=(0,{ t with qA:=ms }):=by simp [jD,he,ha,hh,bg] 
  have ei:kD 13 (ms.map rD)=true:=dG ms;have zn:((ms.map rD).all fun c=>c.all AV.tA)=true:=GG ms;have oi:(ms.map rD).length=ms.length:=yc _
  -- what the end is like
  have JJ:∀(X:SC)(N:Nat)(na:Nat->Nat->Option (List SC))(nx':Nat),nx<=N->N<nx'->X=⟨.ref 89 N 13 0 ms.length ms.length,.no⟩->na 9 N0=some (lD (L.set k { t with qA:=ms }) (W.set k (w.1,X)))->na 89 N=some (qD (ms.map rD))->(∀tn nn l,tn∈KS->nn<nx->(tn,nn) ∉ wN w.2->ND l=true->mem tn nn=some (qD l)->na tn nn=some (qD l))->∀s':LC,s'.mem=na->s'.next=nx'->RQ N0 s0 s'->sH L W N0 k V0 t e s0 s':=fun X N na nx' hN wz hX rk hr hm s' wi et mt=>by
   subst wi;subst et;refine⟨(w.1,X),?_,mt⟩;rw[zm];have od:∀p∈wN w.1,p ∉ wN w.2:=fun p hp hq=>by
    unfold DL at le;obtain⟨_,_,h3⟩:=yS.1 le;exact h3 p hp p hq rfl
   have tu:wN X=[(89,N)]:=by rw[hX];rfl
   refine hT.upd hL hW (by omega) rk (fun tn nn l ht wg gd pe ja=>hm tn nn l ht wg (fun h=>gd (yu.2 (.inr h))) pe ja) ⟨?_,?_⟩ ?_ (fun p hp=>?_)
   ·exact c5.up' (HG _) (fun tn nn l ht hn pe ja=>hm tn nn l ht (c5.nm _ hn).2 (od _ hn) pe ja) (by omega)
   ·exact .inr ⟨89,N,by rw[hX,yc],by decide,wz,hr⟩
   ·unfold DL at le ⊢;obtain⟨g1,g2,_⟩:=yS.1 le;dsimp only;rw[tu];refine yS.2 ⟨g1,by simp,fun p hp q hq e=>?_⟩;subst e;have h1:=(c5.nm p hp).2;simp only[yU]at hq;rw[hq]at h1;dsimp only at h1;omega
   ·unfold DL at hp ⊢;dsimp only at hp;rw [tu] at hp;rcases yu.1 hp with hp | hp
    ·exact .inl (yu.2 (.inl hp))
    ·simp only[yU]at hp;rw[hp];exact .inr hN
  have wh:=(yn.1 hi).1;have xu:=del_m wh (by omega);have ko:t.qA.take i++t.qA.drop (i+1)=ms:=by rw[bg,<- hxi];exact(LU TB.1 hi).1.symm
  rw[ko]at xu;have hw:=rE (i:=i);rcases c6 with⟨h0,b,td⟩|⟨tm,nm,td,fj,rb,mm⟩
  ·rw[List.map_eq_nil_iff.1 h0]at wh;exact absurd wh (Nat.not_lt_zero _)
  ·have oj:(tm,nm)∈DL w:=by unfold DL; rw [td]; simp [wN]
   have zj:w.1.kill tm nm=w.1:=c5.kill fun hp=>by
    unfold DL at le;obtain⟨_,_,h3⟩:=yS.1 le;have si:(tm,nm)∈wN w.2:=by rw[td];simp[wN]
    exact h3 _ hp _ si rfl
   have pw:∀N,KC false 1 (k*10+6) ((lD L W).map (SC.kill tm nm)) (.ref 89 N 13 0 ms.length ms.length) .no=some (lD (L.set k { t with qA:=ms }) (W.set k (w.1,⟨.ref 89 N 13 0 ms.length ms.length,.no⟩))):=fun N=>uR hT hL hW oj (j:=6) (by omega) rfl (by simp only[fB,zj];rfl)
   obtain⟨q1,q2,q3,q4⟩:=eg fj;have zw:¬3=tm:=fun e=>q1 e.symm
   have dx:¬5=tm:=fun e=>q2 e.symm
   have bx:¬9=tm:=fun e=>q3 e.symm
   have dd:=AE (dG t.qA) (GG _);rw[yc]at dd td;rw[td]at rj;rw[td]at nj;dsimp only at nj;have bo:w.2.v=.ref tm nm 13 0 t.qA.length t.qA.length:=by rw[td]
   rw[bo]at rl;have wg:¬(i:Int)<0:=by omega
   generalize xj:ms.map rD=mc at *
   generalize gg:lD L W=R0 at *
   generalize ai:qD (t.qA.map rD)=row0 at *
   generalize rd:t.qA.map rD=old at *
   simp[gL,-J,-yb,-y9,y0,-eD,-KC,FC,HC,JC,DC,AV.plain,AV.cA,FC,e3,e5,m3,m5,h9,d0,d2,rl,↓mj,↓nj,mf,rj,wg,hw,mm,dd,q1,q2,q3,q4,zw,dx,bx,xu,ei,zn,oi,pw,-ye];refine lf _ (by rw[zm]) ?_;refine JJ _ (nx+5) _ _ (by omega) ?_ rfl ?_ ?_ (fun tn nn l ht wg gd pe ja=>?_) _ rfl rfl ?_
   ·dsimp only;omega
   ·simp[CC]
   ·simp[CC,xj]
   ·skip
    obtain⟨q5,q6,q7,q8⟩:=eg ht;have e1:¬nn=nx+5:=by omega
    have e2:¬(tn=tm/\nn=nm):=fun e=>gd (by rw[td,e.1,e.2];simp[wN])
    simp[CC,UD,q7,e1,e2,ja,jP pe]
   ·refine(hK.swap (row:=89) fj (by decide) ?_);omega
 ·have dp:=p6 hh;rw [dp] at mf;have sb:jD t e=(4,t):=by simp [jD,he,ha,hh]
  rw[sb]at fh;generalize gg:lD L W=R0 at *
  simp[gL,-J,-yb,-y9,y0,-eD,-KC,FC,HC,JC,DC,AV.plain,AV.cA,FC,e3,e5,m3,m5,h9,d0,d2,rl,↓mj,↓nj,mf,-ye];exact fh _ (by simp) (by simp) (hK.env (by omega))
theorem ch3 (he:e.kind=3)(ha:QG e.kind t.kind=true)(hL:L[k]?=some t)(hW:W[k]?=some w)(TB:cT t)(l1:t.qA.length<=800)(l2:t.wA.length<=800)(s0 s:LC)(h:mY L W N0 k n3 n5 V0 e R3 s0 s)(K:Ex->LC->Option RV)
  (lf:∀s',(jD t e).1=0->sH L W N0 k V0 t e s0 s'->K .nrm s'=some r) (df:∀s',(jD t e).1=0->(s'.env 4).v=.int .i64 0->sH L W N0 k V0 t e s0 s'->K .ret s'=some r) (fh:∀s',¬(jD t e).1=0->(s'.env 4).v=.int .i64 (jD t e).1->RQ N0 s0 s'->K .ret s'=some r):gL.run (sF aE LD) (jH aE LD) s K=some r:=by
 rw[he]at ha;obtain⟨env,mem,nx,obj,gh⟩:=s;obtain⟨e3,e5,m3,m5,⟨d0,d1,d2,d3,d4,xC,d18,d19,d20,d21,d22,d23,TC,dm,ds⟩,hT,hK⟩:=h;dsimp only at e3 e5 m3 m5 hT hK;rw[he]at d0;have sj:L≠[]:=fun e=>by rw[e]at hL;cases hL
 obtain⟨-,xz,h9,ak⟩:=hT.v0.resolve_left fun h=>sj h.1
 obtain⟨c5,c6⟩:=hT.cell k t w hL hW;obtain⟨b5,t5,n5',-,-,-,f5⟩:=c5.FA (AH _) (HG _);obtain⟨b6,t6,n6',-,-,-,f6⟩:=c6.FA (dG _) (GG _);have mj:∀env nx obj gh,AV.lA ⟨env,mem,nx,obj,gh⟩ w.1.v=.sl b5 (t.wA.map fD):=fun _ _ _ _=>f5 _ (fun _ _=>rfl)
 have nj:∀env nx obj gh,AV.lA ⟨env,mem,nx,obj,gh⟩ w.2.v=.sl b6 (t.qA.map rD):=fun _ _ _ _=>f6 _ (fun _ _=>rfl)
 have mf:=fJ (BS ⟨t.kind,t.name,t.low,t.high,t.max,b5,t.wA,b6,t.qA,t.key,t.elem,t.opn⟩ e.mem.id (by dsimp only;omega));simp only[GR,GC]at mf;have rl:=UO hL hW;simp only[QE,ym,yQ]at rl;have rj:=NG hL hW (j:=6) (by omega);simp only[QE,Y0o,Y0d]at rj;have eg:∀{t:Nat},t∈KS->¬t=3/\¬t=5/\¬t=9/\¬t=0:=fun{t} ht=>by
  refine⟨?_,?_,?_,?_⟩<;>(intro e;subst e;exact absurd ht (by decide))
 have le:=qN hT.nd w (yr hW);by_cases hh:nT t.qA e.mem.id=true
 ·obtain ⟨i,x,lz,hi,hxi⟩:=s6 hh;rw [lz] at mf;have wh:=(yn.1 hi).1;rcases c6 with ⟨h0,b,td⟩ | ⟨tm,nm,td,fj,rb,mm⟩
  ·rw[List.map_eq_nil_iff.1 h0]at wh;exact absurd wh (Nat.not_lt_zero _)
  obtain⟨ms,bg⟩:∃ms,ms=t.qA.map fun m=>if m.id=e.mem.id then e.mem else m:=⟨_,rfl⟩
  have zm:jD t e=(0,{ t with qA:=ms }):=by simp[jD,he,ha,hh,bg]
  have hmse:t.qA.set i e.mem=ms:=by rw[bg,<- hxi];exact((LU TB.1 hi).2 _).symm
  have oi:ms.length=t.qA.length:=by rw[bg,yc]
  rw[yc]at td;have JJ:∀(na:Nat->Nat->Option (List SC))(nx':Nat),nx<=nx'->na=DN mem tm nm (qD (ms.map rD))->∀s':LC,s'.mem=na->s'.next=nx'->RQ N0 s0 s'->sH L W N0 k V0 t e s0 s':=fun na nx' hx hm s' wi et mt=>by
   subst hm;refine⟨w,?_,mt⟩;rw[zm,wi,et];obtain⟨q1,q2,q3,q4⟩:=eg fj;have si:(tm,nm)∈wN w.2:=by rw[td];simp[wN]
   have oj:(tm,nm)∈DL w:=yu.2 (.inr si);have zj:(tm,nm) ∉ wN w.1:=fun hp=>by
    unfold DL at le;obtain⟨_,_,h3⟩:=yS.1 le;exact h3 _ hp _ si rfl
   refine hT.upd hL hW hx ?_ (fun tn nn l ht wg gd pe ja=>?_) ⟨?_,?_⟩ le (fun p hp=>.inl hp)
   ·rw[I2 hL hW (by rfl),CC,if_neg (fun e=>q3 e.1.symm)];exact h9
   ·rw[CC,if_neg (fun e=>gd (by rw[e.1,e.2];exact oj))];exact ja
   ·exact c5.up' (HG _) (fun tn nn l ht hn pe ja=>by rw[CC,if_neg (fun e=>zj (by rw[<- e.1,<- e.2];exact hn))];exact ja) hx
   ·refine .inr ⟨tm,nm,?_,fj,by omega,by simp[CC]⟩;rw[td,yc,oi]
  obtain⟨q1,q2,q3,q4⟩:=eg fj;have zw:¬3=tm:=fun e=>q1 e.symm
  have dx:¬5=tm:=fun e=>q2 e.symm
  have bx:¬9=tm:=fun e=>q3 e.symm
  have dd:=AE (dG t.qA) (GG _);rw[yc]at dd;rw[td]at rj;rw[td]at nj;dsimp only at nj;have bo:w.2.v=.ref tm nm 13 0 t.qA.length t.qA.length:=by rw[td]
  rw[bo]at rl;have wg:¬(i:Int)<0:=by omega
  have gc:(0:Int)<=i:=by omega
  have g1:(t.qA.map rD)[i]?=some (rD x):=by rw[yk,hi];rfl
  have sb:=OS (dG t.qA) (k:=i) (by rw[yc];exact wh) (c:=rD e.mem) rfl .no;have lg:(t.qA.map rD).set i (rD e.mem)=ms.map rD:=by rw[<- hmse,List.map_set]
  rw[lg]at sb;have kr:(rD e.mem).length=13:=rfl;generalize rD e.mem=xc at *
  generalize gg:lD L W=R0 at *
  generalize ai:qD (t.qA.map rD)=row0 at *
  generalize hrow1:qD (ms.map rD)=row1 at *
  generalize rd:t.qA.map rD=old at *
  simp[gL,-J,-yb,-y9,y0,-eD,-KC,FC,HC,JC,DC,AV.plain,AV.cA,FC,e3,e5,m3,m5,h9,d0,d4,dm,kr,rl,↓mj,↓nj,mf,rj,wg,gc,wh,mm,dd,q1,q2,q3,q4,zw,dx,bx,sb,-ye];refine lf _ (by rw[zm]) ?_;refine JJ _ _ ?_ rfl _ rfl rfl ?_
  ·dsimp only;omega
  ·exact hK.set (.inr (.inl fj)) (by omega)
 ·have dp:=p6 hh;rw [dp] at mf;have sb:jD t e=(4,t):=by simp [jD,he,ha,hh]
  rw[sb]at fh;generalize gg:lD L W=R0 at *
  simp[gL,-J,-yb,-y9,y0,-eD,-KC,FC,HC,JC,DC,AV.plain,AV.cA,FC,e3,e5,m3,m5,h9,d0,d4,rl,↓mj,↓nj,mf,-ye];exact fh _ (by simp) (by simp) (hK.env (by omega))
end
section
variable {r:RV} {L:List BC} {W:List (SC × SC)} {N0 k n3 n5:Nat} {V0:AV} {e:aF} {R3:List SC} {t:BC} {w:SC × SC}
include r L W N0 k n3 n5 V0 e R3 t w
theorem ch4 (he:e.kind=4)(ha:QG e.kind t.kind=true)(hL:L[k]?=some t)(hW:W[k]?=some w)(TB:cT t)(l1:t.qA.length<=800)(l2:t.wA.length<=800)(s0 s:LC)(h:mY L W N0 k n3 n5 V0 e R3 s0 s)(K:Ex->LC->Option RV)
  (lf:∀s',(jD t e).1=0->sH L W N0 k V0 t e s0 s'->K .nrm s'=some r) (df:∀s',(jD t e).1=0->(s'.env 4).v=.int .i64 0->sH L W N0 k V0 t e s0 s'->K .ret s'=some r) (fh:∀s',¬(jD t e).1=0->(s'.env 4).v=.int .i64 (jD t e).1->RQ N0 s0 s'->K .ret s'=some r):gL.run (sF aE LD) (jH aE LD) s K=some r:=by
 rw[he]at ha;obtain⟨env,mem,nx,obj,gh⟩:=s;obtain⟨e3,e5,m3,m5,⟨d0,d1,d2,d3,d4,xC,d18,d19,d20,d21,d22,d23,TC,dm,ds⟩,hT,hK⟩:=h;dsimp only at e3 e5 m3 m5 hT hK;rw[he]at d0;have sj:L≠[]:=fun e=>by rw[e]at hL;cases hL
 obtain⟨-,xz,h9,ak⟩:=hT.v0.resolve_left fun h=>sj h.1
 obtain⟨c5,c6⟩:=hT.cell k t w hL hW;obtain⟨b5,t5,n5',-,-,-,f5⟩:=c5.FA (AH _) (HG _);obtain⟨b6,t6,n6',-,-,-,f6⟩:=c6.FA (dG _) (GG _);have mj:∀env nx obj gh,AV.lA ⟨env,mem,nx,obj,gh⟩ w.1.v=.sl b5 (t.wA.map fD):=fun _ _ _ _=>f5 _ (fun _ _=>rfl)
 have nj:∀env nx obj gh,AV.lA ⟨env,mem,nx,obj,gh⟩ w.2.v=.sl b6 (t.qA.map rD):=fun _ _ _ _=>f6 _ (fun _ _=>rfl)
 have mf:=fJ (aV ⟨t.kind,t.name,t.low,t.high,t.max,b5,t.wA,b6,t.qA,t.key,t.elem,t.opn⟩ e.sym.id (by dsimp only;omega));simp only[GR,GC]at mf;have rl:=UO hL hW;simp only[QE,ym,yQ]at rl;have rj:=NG hL hW (j:=5) (by omega);simp only[QE,Y0o,Y0d]at rj;have eg:∀{t:Nat},t∈KS->¬t=3/\¬t=5/\¬t=9/\¬t=0:=fun{t} ht=>by
  refine⟨?_,?_,?_,?_⟩<;>(intro e;subst e;exact absurd ht (by decide))
 have le:=qN hT.nd w (yr hW);by_cases hh:HW t.wA e.sym.id=true
 ·obtain ⟨i,x,lz,hi,hxi⟩:=Ao hh;rw [lz] at mf;have wh:=(yn.1 hi).1;rcases c5 with ⟨h0,b,td⟩ | ⟨tm,nm,td,fj,rb,mm⟩
  ·rw[List.map_eq_nil_iff.1 h0]at wh;exact absurd wh (Nat.not_lt_zero _)
  obtain⟨ms,bg⟩:∃ms,ms=t.wA.map fun m=>if m.id=e.sym.id then e.sym else m:=⟨_,rfl⟩
  have zm:jD t e=(0,{ t with wA:=ms }):=by simp[jD,he,ha,hh,bg]
  have hmse:t.wA.set i e.sym=ms:=by rw[bg,<- hxi];exact((LU TB.2 hi).2 _).symm
  have oi:ms.length=t.wA.length:=by rw[bg,yc]
  rw[yc]at td;have JJ:∀(na:Nat->Nat->Option (List SC))(nx':Nat),nx<=nx'->na=DN mem tm nm (qD (ms.map fD))->∀s':LC,s'.mem=na->s'.next=nx'->RQ N0 s0 s'->sH L W N0 k V0 t e s0 s':=fun na nx' hx hm s' wi et mt=>by
   subst hm;refine⟨w,?_,mt⟩;rw[zm,wi,et];obtain⟨q1,q2,q3,q4⟩:=eg fj;have si:(tm,nm)∈wN w.1:=by rw[td];simp[wN]
   have oj:(tm,nm)∈DL w:=yu.2 (.inl si);have zj:(tm,nm) ∉ wN w.2:=fun hp=>by
    unfold DL at le;obtain⟨_,_,h3⟩:=yS.1 le;exact h3 _ si _ hp rfl
   refine hT.upd hL hW hx ?_ (fun tn nn l ht wg gd pe ja=>?_) ⟨?_,?_⟩ le (fun p hp=>.inl hp)
   ·rw[I2 hL hW (by rfl),CC,if_neg (fun e=>q3 e.1.symm)];exact h9
   ·rw[CC,if_neg (fun e=>gd (by rw[e.1,e.2];exact oj))];exact ja
   ·refine .inr ⟨tm,nm,?_,fj,by omega,by simp[CC]⟩;rw[td,yc,oi]
   ·exact c6.up' (GG _) (fun tn nn l ht hn pe ja=>by rw[CC,if_neg (fun e=>zj (by rw[<- e.1,<- e.2];exact hn))];exact ja) hx
  obtain⟨q1,q2,q3,q4⟩:=eg fj;have zw:¬3=tm:=fun e=>q1 e.symm
  have dx:¬5=tm:=fun e=>q2 e.symm
  have bx:¬9=tm:=fun e=>q3 e.symm
  have dd:=AE (AH t.wA) (HG _);rw[yc]at dd;rw[td]at rj;rw[td]at mj;dsimp only at mj;have bo:w.1.v=.ref tm nm 2 0 t.wA.length t.wA.length:=by rw[td]
  rw[bo]at rl;have wg:¬(i:Int)<0:=by omega
  have gc:(0:Int)<=i:=by omega
  have g1:(t.wA.map fD)[i]?=some (fD x):=by rw[yk,hi];rfl
  have sb:=D6 (AH t.wA) g1 (j:=1) (x:=.str e.sym.name) (by omega) rfl;have lg:(t.wA.map fD).set i ((fD x).set 1 (.str e.sym.name))=ms.map fD:=by
   have:(fD x).set 1 (.str e.sym.name)=fD e.sym:=by simp[fD,hxi]
   rw[this,<- hmse,List.map_set]
  rw[lg]at sb;generalize gg:lD L W=R0 at *
  generalize ai:qD (t.wA.map fD)=row0 at *
  generalize hrow1:qD (ms.map fD)=row1 at *
  generalize rd:t.wA.map fD=old at *
  simp[gL,-J,-yb,-y9,y0,-eD,-KC,FC,HC,JC,DC,AV.plain,AV.cA,FC,e3,e5,m3,m5,h9,d0,xC,ds,d18,rl,↓mj,↓nj,mf,rj,wg,gc,wh,mm,dd,q1,q2,q3,q4,zw,dx,bx,sb,-ye];refine df _ (by rw[zm]) (by simp) ?_;refine JJ _ _ ?_ rfl _ rfl rfl ?_
  ·dsimp only;omega
  ·exact hK.set (.inr (.inl fj)) (by omega)
 ·skip
  have dp:=Po hh;rw[dp]at mf;obtain⟨ms,bg⟩:∃ms,ms=FQ PG.id e.sym t.wA:=⟨_,rfl⟩;have zm:jD t e=(0,{ t with wA:=ms }):=by simp[jD,he,ha,hh,bg] 
  have ei:kD 2 (ms.map fD)=true:=AH ms;have zn:((ms.map fD).all fun c=>c.all AV.tA)=true:=HG ms;have oi:(ms.map fD).length=ms.length:=yc _
  -- what the end is like
  have JJ:∀(X:SC)(N:Nat)(na:Nat->Nat->Option (List SC))(nx':Nat),nx<=N->N<nx'->X=⟨.ref 148 N 2 0 ms.length ms.length,.no⟩->na 9 N0=some (lD (L.set k { t with wA:=ms }) (W.set k (X,w.2)))->na 148 N=some (qD (ms.map fD))->(∀tn nn l,tn∈KS->nn<nx->(tn,nn) ∉ wN w.1->ND l=true->mem tn nn=some (qD l)->na tn nn=some (qD l))->∀s':LC,s'.mem=na->s'.next=nx'->RQ N0 s0 s'->sH L W N0 k V0 t e s0 s':=fun X N na nx' hN wz hX rk hr hm s' wi et mt=>by
   subst wi;subst et;refine⟨(X,w.2),?_,mt⟩;rw[zm];have od:∀p∈wN w.2,p ∉ wN w.1:=fun p hp hq=>by
    unfold DL at le;obtain⟨_,_,h3⟩:=yS.1 le;exact h3 p hq p hp rfl
   have tu:wN X=[(148,N)]:=by rw[hX];rfl
   refine hT.upd hL hW (by omega) rk (fun tn nn l ht wg gd pe ja=>hm tn nn l ht wg (fun h=>gd (yu.2 (.inl h))) pe ja) ⟨?_,?_⟩ ?_ (fun p hp=>?_)
   ·exact .inr ⟨148,N,by rw[hX,yc],by decide,wz,hr⟩
   ·exact c6.up' (GG _) (fun tn nn l ht hn pe ja=>hm tn nn l ht (c6.nm _ hn).2 (od _ hn) pe ja) (by omega)
   ·unfold DL at le ⊢;obtain⟨g1,g2,_⟩:=yS.1 le;dsimp only;rw[tu];refine yS.2 ⟨by simp,g2,fun p hp q hq e=>?_⟩;subst e;have h1:=(c6.nm p hq).2;simp only[yU]at hp;rw[hp]at h1;dsimp only at h1;omega
   ·unfold DL at hp ⊢;dsimp only at hp;rw [tu] at hp;rcases yu.1 hp with hp | hp
    ·simp only[yU]at hp;rw[hp];exact .inr hN
    ·exact .inl (yu.2 (.inr hp))
  have pp:=qZ (f:=PG.id) e.sym.id t.wA;have ar:∀b:Bool,(b=true->t.wA=[])->sF aE LD 65 [.undef,.sl b (t.wA.map fD),.int .i64 (qL PG.id e.sym.id t.wA:Nat),.sl false [fD e.sym]] (some (.int .i64 2))=some (.sl false (ms.map fD),none):=fun b hb=>by
   have:=ins_s (b:=b) (x:=e.sym) pp (by omega) hb;rw[bg,GZ];exact this
  have kr:(fD e.sym).length=2:=rfl;have hxf:(fD e.sym).all AV.tA=true:=rfl;obtain⟨P,hP⟩:∃P:Int,P=(qL PG.id e.sym.id t.wA:Nat):=⟨_,rfl⟩;rw[<- hP]at ar;have gk:=fun(n:Int)(a0 a1:An)(hn:n=t.wA.length)(s:LC)(h:Pls k N0 n3 n5 e.sym.id t.wA s)(KK:SC->LC->Option RV)(hk:∀s' a,aR s s'->KK ⟨.int .i64 P,a⟩ s'=some r)=>pls_h (a0:=a0) (a1:=a1) hn (by omega) s h KK (by rw[<- hP];exact hk)
  rcases c5 with⟨h0,b,td⟩|⟨tm,nm,td,fj,rb,mm⟩
  ·have h00:t.wA=[]:=List.map_eq_nil_iff.1 h0;have pg:=ar b (fun _=>h00);rw [h0] at pg;have pw:∀ N,KC false 1 (k * 10 + 5) (lD L W) (.ref 148 N 2 0 ms.length ms.length) .no=some (lD (L.set k { t with wA:=ms }) (W.set k (⟨.ref 148 N 2 0 ms.length ms.length,.no⟩,w.2))):=fun N=>tG hL hW (j:=5) (by omega) rfl (by rfl)
   rw[td]at rj;rw[td]at mj;dsimp only at mj;have bo:w.1.v=.sl b []:=by rw[td]
   rw[bo]at rl;have hPl:∀env' nx' tb lj,Pls k N0 n3 n5 e.sym.id t.wA ⟨env',mem,nx',tb,lj⟩:=fun _ _ _ _=>⟨⟨_,m5⟩,⟨_,0,0,h9,fun h=>absurd h00 h⟩,⟨R3,m3,xC⟩⟩
   generalize fD e.sym=xc at *
   generalize xj:ms.map fD=mc at *
   generalize gg:lD L W=R0 at *
   simp[gL,-J,-yb,-y9,y0,-eD,-KC,FC,HC,JC,DC,AV.plain,AV.cA,FC,e3,e5,m3,m5,h9,d0,xC,ds,rl,↓mj,↓nj,mf,rj,-ye];refine gk 0 _ _ (by rw[h00];rfl) _ (hPl _ _ _ _) _ (fun s' an hs=>?_);obtain⟨env',na,nx',tb,lj⟩:=s';obtain⟨g1,g2,g3⟩:=hs;dsimp only at g1 g2 g3;subst g1;subst g2;simp[-J,-yb,-y9,y0,-eD,-KC,FC,HC,JC,DC,LY,FC,mJ,e3,e5,m3,m5,h9,ds,rj,kr,hxf,pg,ei,zn,oi,pw,-ye];refine lf _ (by rw[zm]) ?_;refine JJ _ (nx'+1) _ _ (by omega) ?_ rfl ?_ ?_ (fun tn nn l ht wg _ _ ja=>?_) _ rfl rfl ?_
   ·dsimp only;omega
   ·simp[CC]
   ·simp[CC,xj]
   ·skip
    obtain⟨q1,q2,q3,q4⟩:=eg ht;have e1:¬nn=nx'+1:=by omega
    simp[CC,q3,e1,ja]
   ·refine(hK.fresh (row:=148) (by decide) ?_);omega
  ·have pg:=ar false (fun h=>by cases h);have oj:(tm,nm)∈DL w:=by unfold DL; rw [td]; simp [wN]
   have zj:w.2.kill tm nm=w.2:=c6.kill fun hp=>by
    unfold DL at le;obtain⟨_,_,h3⟩:=yS.1 le;have si:(tm,nm)∈wN w.1:=by rw[td];simp[wN]
    exact h3 _ si _ hp rfl
   have pw:∀N,KC false 1 (k*10+5) ((lD L W).map (SC.kill tm nm)) (.ref 148 N 2 0 ms.length ms.length) .no=some (lD (L.set k { t with wA:=ms }) (W.set k (⟨.ref 148 N 2 0 ms.length ms.length,.no⟩,w.2))):=fun N=>uR hT hL hW oj (j:=5) (by omega) rfl (by simp only[fB,zj];rfl)
   obtain⟨q1,q2,q3,q4⟩:=eg fj;have zw:¬3=tm:=fun e=>q1 e.symm
   have dx:¬5=tm:=fun e=>q2 e.symm
   have bx:¬9=tm:=fun e=>q3 e.symm
   have dd:=AE (AH t.wA) (HG _);rw[yc]at dd td;rw[td]at rj;rw[td]at mj;dsimp only at mj;have bo:w.1.v=.ref tm nm 2 0 t.wA.length t.wA.length:=by rw[td]
   rw[bo]at rl;have hPl:∀env' nx' tb lj,Pls k N0 n3 n5 e.sym.id t.wA ⟨env',mem,nx',tb,lj⟩:=fun _ _ _ _=>⟨⟨_,m5⟩,⟨_,tm,nm,h9,fun _=>⟨rj,mm⟩⟩,⟨R3,m3,xC⟩⟩
   generalize fD e.sym=xc at *
   generalize xj:ms.map fD=mc at *
   generalize gg:lD L W=R0 at *
   simp[gL,-J,-yb,-y9,y0,-eD,-KC,FC,HC,JC,DC,AV.plain,AV.cA,FC,e3,e5,m3,m5,h9,d0,xC,ds,rl,↓mj,↓nj,mf,rj,-ye];refine gk _ _ _ rfl _ (hPl _ _ _ _) _ (fun s' an hs=>?_);obtain⟨env',na,nx',tb,lj⟩:=s';obtain⟨g1,g2,g3⟩:=hs;dsimp only at g1 g2 g3;subst g1;subst g2;generalize ai:qD (t.wA.map fD)=row0 at *
   generalize rd:t.wA.map fD=old at *
   simp[-J,-yb,-y9,y0,-eD,-KC,FC,HC,JC,DC,FC,mJ,e3,e5,m3,m5,h9,mm,dd,ds,rj,q1,q2,q3,q4,zw,dx,bx,kr,hxf,pg,ei,zn,oi,pw,-ye];refine lf _ (by rw[zm]) ?_;refine JJ _ (nx'+1) _ _ (by omega) ?_ rfl ?_ ?_ (fun tn nn l ht wg gd pe ja=>?_) _ rfl rfl ?_
   ·dsimp only;omega
   ·simp[CC]
   ·simp[CC,xj]
   ·skip
    obtain⟨q5,q6,q7,q8⟩:=eg ht;have e1:¬nn=nx'+1:=by omega
    have e2:¬(tn=tm/\nn=nm):=fun e=>gd (by rw[td,e.1,e.2];simp[wN])
    simp[CC,UD,q7,e1,e2,ja,jP pe]
   ·refine(hK.swap (row:=148) fj (by decide) ?_);omega
theorem ch5 (he:e.kind=5)(ha:QG e.kind t.kind=true)(hL:L[k]?=some t)(hW:W[k]?=some w)(TB:cT t)(l1:t.qA.length<=800)(l2:t.wA.length<=800)(s0 s:LC)(h:mY L W N0 k n3 n5 V0 e R3 s0 s)(K:Ex->LC->Option RV)
  (lf:∀s',(jD t e).1=0->sH L W N0 k V0 t e s0 s'->K .nrm s'=some r) (df:∀s',(jD t e).1=0->(s'.env 4).v=.int .i64 0->sH L W N0 k V0 t e s0 s'->K .ret s'=some r) (fh:∀s',¬(jD t e).1=0->(s'.env 4).v=.int .i64 (jD t e).1->RQ N0 s0 s'->K .ret s'=some r):gL.run (sF aE LD) (jH aE LD) s K=some r:=by
 rw[he]at ha;obtain⟨env,mem,nx,obj,gh⟩:=s;obtain⟨e3,e5,m3,m5,⟨d0,d1,d2,d3,d4,xC,d18,d19,d20,d21,d22,d23,TC,dm,ds⟩,hT,hK⟩:=h;dsimp only at e3 e5 m3 m5 hT hK;rw[he]at d0;have sj:L≠[]:=fun e=>by rw[e]at hL;cases hL
 obtain⟨-,xz,h9,ak⟩:=hT.v0.resolve_left fun h=>sj h.1
 obtain⟨c5,c6⟩:=hT.cell k t w hL hW;obtain⟨b5,t5,n5',-,-,-,f5⟩:=c5.FA (AH _) (HG _);obtain⟨b6,t6,n6',-,-,-,f6⟩:=c6.FA (dG _) (GG _);have mj:∀env nx obj gh,AV.lA ⟨env,mem,nx,obj,gh⟩ w.1.v=.sl b5 (t.wA.map fD):=fun _ _ _ _=>f5 _ (fun _ _=>rfl)
 have nj:∀env nx obj gh,AV.lA ⟨env,mem,nx,obj,gh⟩ w.2.v=.sl b6 (t.qA.map rD):=fun _ _ _ _=>f6 _ (fun _ _=>rfl)
 have mf:=fJ (aV ⟨t.kind,t.name,t.low,t.high,t.max,b5,t.wA,b6,t.qA,t.key,t.elem,t.opn⟩ e.id (by dsimp only;omega));simp only[GR,GC]at mf;have rl:=UO hL hW;simp only[QE,ym,yQ]at rl;have rj:=NG hL hW (j:=5) (by omega);simp only[QE,Y0o,Y0d]at rj;have eg:∀{t:Nat},t∈KS->¬t=3/\¬t=5/\¬t=9/\¬t=0:=fun{t} ht=>by
  refine⟨?_,?_,?_,?_⟩<;>(intro e;subst e;exact absurd ht (by decide))
 have le:=qN hT.nd w (yr hW);by_cases hh:HW t.wA e.id=true
 ·obtain ⟨i,x,lz,hi,hxi⟩:=Ao hh;rw [lz] at mf;obtain ⟨ms,bg⟩:∃ ms,ms=t.wA.filter (fun m=>!decide (m.id=e.id)):=⟨_,rfl⟩;have zm:jD t e=(0,{ t with wA:=ms }):=by simp [jD,he,ha,hh,bg] 
  have ei:kD 2 (ms.map fD)=true:=AH ms;have zn:((ms.map fD).all fun c=>c.all AV.tA)=true:=HG ms;have oi:(ms.map fD).length=ms.length:=yc _
  -- what the end is like
  have JJ:∀(X:SC)(N:Nat)(na:Nat->Nat->Option (List SC))(nx':Nat),nx<=N->N<nx'->X=⟨.ref 169 N 2 0 ms.length ms.length,.no⟩->na 9 N0=some (lD (L.set k { t with wA:=ms }) (W.set k (X,w.2)))->na 169 N=some (qD (ms.map fD))->(∀tn nn l,tn∈KS->nn<nx->(tn,nn) ∉ wN w.1->ND l=true->mem tn nn=some (qD l)->na tn nn=some (qD l))->∀s':LC,s'.mem=na->s'.next=nx'->RQ N0 s0 s'->sH L W N0 k V0 t e s0 s':=fun X N na nx' hN wz hX rk hr hm s' wi et mt=>by
   subst wi;subst et;refine⟨(X,w.2),?_,mt⟩;rw[zm];have od:∀p∈wN w.2,p ∉ wN w.1:=fun p hp hq=>by
    unfold DL at le;obtain⟨_,_,h3⟩:=yS.1 le;exact h3 p hq p hp rfl
   have tu:wN X=[(169,N)]:=by rw[hX];rfl
   refine hT.upd hL hW (by omega) rk (fun tn nn l ht wg gd pe ja=>hm tn nn l ht wg (fun h=>gd (yu.2 (.inl h))) pe ja) ⟨?_,?_⟩ ?_ (fun p hp=>?_)
   ·exact .inr ⟨169,N,by rw[hX,yc],by decide,wz,hr⟩
   ·exact c6.up' (GG _) (fun tn nn l ht hn pe ja=>hm tn nn l ht (c6.nm _ hn).2 (od _ hn) pe ja) (by omega)
   ·unfold DL at le ⊢;obtain⟨g1,g2,_⟩:=yS.1 le;dsimp only;rw[tu];refine yS.2 ⟨by simp,g2,fun p hp q hq e=>?_⟩;subst e;have h1:=(c6.nm p hq).2;simp only[yU]at hp;rw[hp]at h1;dsimp only at h1;omega
   ·unfold DL at hp ⊢;dsimp only at hp;rw [tu] at hp;rcases yu.1 hp with hp | hp
    ·simp only[yU]at hp;rw[hp];exact .inr hN
    ·exact .inl (yu.2 (.inr hp))
  have wh:=(yn.1 hi).1;have xu:=del_s wh (by omega);have ko:t.wA.take i++t.wA.drop (i+1)=ms:=by rw[bg,<- hxi];exact(LU TB.2 hi).1.symm
  rw[ko]at xu;have hw:=rE (i:=i);rcases c5 with⟨h0,b,td⟩|⟨tm,nm,td,fj,rb,mm⟩
  ·rw[List.map_eq_nil_iff.1 h0]at wh;exact absurd wh (Nat.not_lt_zero _)
  ·have oj:(tm,nm)∈DL w:=by unfold DL; rw [td]; simp [wN]
   have zj:w.2.kill tm nm=w.2:=c6.kill fun hp=>by
    unfold DL at le;obtain⟨_,_,h3⟩:=yS.1 le;have si:(tm,nm)∈wN w.1:=by rw[td];simp[wN]
    exact h3 _ si _ hp rfl
   have pw:∀N,KC false 1 (k*10+5) ((lD L W).map (SC.kill tm nm)) (.ref 169 N 2 0 ms.length ms.length) .no=some (lD (L.set k { t with wA:=ms }) (W.set k (⟨.ref 169 N 2 0 ms.length ms.length,.no⟩,w.2))):=fun N=>uR hT hL hW oj (j:=5) (by omega) rfl (by simp only[fB,zj];rfl)
   obtain⟨q1,q2,q3,q4⟩:=eg fj;have zw:¬3=tm:=fun e=>q1 e.symm
   have dx:¬5=tm:=fun e=>q2 e.symm
   have bx:¬9=tm:=fun e=>q3 e.symm
   have dd:=AE (AH t.wA) (HG _);rw[yc]at dd td;rw[td]at rj;rw[td]at mj;dsimp only at mj;have bo:w.1.v=.ref tm nm 2 0 t.wA.length t.wA.length:=by rw[td]
   rw[bo]at rl;have wg:¬(i:Int)<0:=by omega
   generalize xj:ms.map fD=mc at *
   generalize gg:lD L W=R0 at *
   generalize ai:qD (t.wA.map fD)=row0 at *
   generalize rd:t.wA.map fD=old at *
   simp[gL,-J,-yb,-y9,y0,-eD,-KC,FC,HC,JC,DC,AV.plain,AV.cA,FC,e3,e5,m3,m5,h9,d0,d2,rl,↓mj,↓nj,mf,rj,wg,hw,mm,dd,q1,q2,q3,q4,zw,dx,bx,xu,ei,zn,oi,pw,-ye];refine lf _ (by rw[zm]) ?_;refine JJ _ (nx+8) _ _ (by omega) ?_ rfl ?_ ?_ (fun tn nn l ht wg gd pe ja=>?_) _ rfl rfl ?_
   ·dsimp only;omega
   ·simp[CC]
   ·simp[CC,xj]
   ·skip
    obtain⟨q5,q6,q7,q8⟩:=eg ht;have e1:¬nn=nx+8:=by omega
    have e2:¬(tn=tm/\nn=nm):=fun e=>gd (by rw[td,e.1,e.2];simp[wN])
    simp[CC,UD,q7,e1,e2,ja,jP pe]
   ·refine(hK.swap (row:=169) fj (by decide) ?_);omega
 ·have dp:=Po hh;rw [dp] at mf;have sb:jD t e=(4,t):=by simp [jD,he,ha,hh]
  rw[sb]at fh;generalize gg:lD L W=R0 at *
  simp[gL,-J,-yb,-y9,y0,-eD,-KC,FC,HC,JC,DC,AV.plain,AV.cA,FC,e3,e5,m3,m5,h9,d0,d2,rl,↓mj,↓nj,mf,-ye];exact fh _ (by simp) (by simp) (hK.env (by omega))
end
theorem aZ.mono {L:List BC}{W:List (SC×SC)}{N0 nx nx':Nat}{V0:AV}{mem na:Nat->Nat->Option (List SC)}(h:aZ L W N0 nx V0 mem)(h9:na 9 N0=mem 9 N0)(hm:∀t n,t∈KS->n<nx->na t n=mem t n)(hx:nx<=nx'):aZ L W N0 nx' V0 na :=
 ⟨h.len,h.v0.imp_right fun⟨h1,h2,h3,h4⟩=>⟨h1,h2,by rw[h9];exact h3,by omega⟩,fun i t w ht hw=>let⟨c1,c2⟩:=h.cell i t w ht hw;⟨c1.up hm hx,c2.up hm hx⟩,h.nd⟩
theorem chAll {r:RV}{L:List BC}{W:List (SC×SC)}{N0 k n3 n5:Nat}{V0:AV}{e:aF}{R3:List SC}{t:BC}{w:SC×SC}(ha:QG e.kind t.kind=true)(hL:L[k]?=some t)(hW:W[k]?=some w)(TB:cT t)(l1:t.qA.length<=800)(l2:t.wA.length<=800)(s0 s:LC)(h:mY L W N0 k n3 n5 V0 e R3 s0 s)(K:Ex->LC->Option RV)
  (lf:∀s',(jD t e).1=0->sH L W N0 k V0 t e s0 s'->K .nrm s'=some r) (df:∀s',(jD t e).1=0->(s'.env 4).v=.int .i64 0->sH L W N0 k V0 t e s0 s'->K .ret s'=some r) (fh:∀s',¬(jD t e).1=0->(s'.env 4).v=.int .i64 (jD t e).1->RQ N0 s0 s'->K .ret s'=some r):gL.run (sF aE LD) (jH aE LD) s K=some r:=by
 rcases c7 _ _ ha with he|he|he|he|he|he|he|he|he
 ·exact ch1 he ha hL hW TB l1 l2 s0 s h K lf df fh
 ·exact ch2 he ha hL hW TB l1 l2 s0 s h K lf df fh
 ·exact ch3 he ha hL hW TB l1 l2 s0 s h K lf df fh
 ·exact ch4 he ha hL hW TB l1 l2 s0 s h K lf df fh
 ·exact ch5 he ha hL hW TB l1 l2 s0 s h K lf df fh
 ·exact ch6 he ha hL hW TB l1 l2 s0 s h K lf df fh
 ·exact ch7 he ha hL hW TB l1 l2 s0 s h K lf df fh
 ·exact ch8 he ha hL hW TB l1 l2 s0 s h K lf df fh
 ·exact ch9 he ha hL hW TB l1 l2 s0 s h K lf df fh
theorem Kh {r:RV}{L:List BC}{W:List (SC×SC)}{N0 bt bn:Nat}{V0:AV}{e:aF}{a0 a1 ab:An}(hbt:¬bt=3/\¬bt=5/\¬bt=9)(da:L.length<=1000)(wa:XT (fun _=>True) 800 L)(s:LC)(hT:aZ L W N0 s.next V0 s.mem)(hb:s.mem bt bn=some [⟨V0,ab⟩])(k:SC->LC->Option RV)
  (hk:∀s' a,((LG L e).1=0->∃W',aZ (LG L e).2 W' N0 s'.next V0 s'.mem)->RQ N0 s s'->k ⟨.int .i64 (LG L e).1,a⟩ s'=some r):Rq aE LD 27 [⟨.ptr bt bn 0,a0⟩,⟨.agg (qJ e),a1⟩] s k=some r:=by
 obtain⟨env,mem,nx,obj,gh⟩:=s;dsimp only at hT hb;obtain⟨b3,b5,b9⟩:=hbt;have l25:(qJ e).length=25:=rfl;have hE:=edR e;obtain⟨R3,du⟩:∃R3:List SC,R3=(qJ e).map (⟨·,.no⟩):=⟨_,rfl⟩;rw[<- du]at hE;have d0:=hE.d0;have d1:=hE.d1;refine wM RE rfl rfl ?_;rw[Jh];have hK0:RQ N0 ⟨env,mem,nx,obj,gh⟩ ⟨env,mem,nx,obj,gh⟩:=⟨fun _ _=>rfl,fun _ _ _ _ _ _ h _=>h,yl _⟩;have bad:LG L e=(4,L)->∀(env':Nat->SC)(nx':Nat)(tb:Nat->Nat->Option AV)(s':LC),s'=⟨env',DN mem 3 nx R3,nx',tb,gh⟩->nx<=nx'->∀a,k ⟨.int .i64 4,a⟩ s'=some r:=fun hs env' nx' tb s' he hx a=>by
  subst he;rw[hs]at hk;have q:=hK0.set (env':=env') (t:=3) (n:=nx) (r:=R3) (.inl (yl _)) hx;exact hk _ a (fun h=>by simp at h) ⟨q.gh,q.mem,q.next⟩
 by_cases gw:e.ty<0
 ·have hs:LG L e=(4,L):=by unfold LG; rw [if_neg (by omega)]
  generalize qJ e=ed at *
  simp[Lp,Zp,RE,-J,-yb,-y9,y0,-eD,-KC,FC,HC,JC,DC,FC,l25,<- du,d1,gw,SK,NH,qK];exact bad hs _ _ _ _ rfl (by omega) _
 rcases hT.v0 with⟨hLe,b,hV⟩|⟨sj,hV,h9,ak⟩
 ·have hs:LG L e=(4,L):=by unfold LG; rw [if_pos (by omega),hLe]; rfl
  have h0:0<=e.ty:=by omega
  rw[hV]at hb;generalize qJ e=ed at *
  simp[Lp,Zp,RE,-J,-yb,-y9,y0,-eD,-KC,FC,HC,JC,DC,FC,HC,l25,<- du,d1,gw,hb,b3,h0,SK,NH,qK];exact bad hs _ _ _ _ rfl (by omega) _
 by_cases ej:(L.length:Int)<=e.ty
 ·have hs:LG L e=(4,L):=by unfold LG; rw [if_pos (by omega),Y08 (by omega)]
  rw[hV]at hb;generalize qJ e=ed at *
  simp[Lp,Zp,RE,-J,-yb,-y9,y0,-eD,-KC,FC,HC,JC,DC,FC,HC,l25,<- du,d1,gw,hb,b3,ej,SK,NH,qK];exact bad hs _ _ _ _ rfl (by omega) _
 have h0:0<=e.ty:=by omega
 obtain⟨t,ht⟩:∃t,L[e.ty.toNat]?=some t:=⟨_,yf (by omega)⟩;obtain⟨w,hw⟩:∃w,W[e.ty.toNat]?=some w:=⟨_,yf (by have:=hT.len;omega)⟩;have htm:=yr ht;obtain⟨k1,k2⟩:=wa.len t htm;have od:=fJ (eapp_ev e.kind t.kind);simp only[GR]at od;have r0:=NG ht hw (j:=0) (by omega);simp only[QE,Y0d,yV]at r0;have ba:e.ty.toNat<L.length:=by omega
 have hVV:=hV;rw[hV]at hb;have sb:∀c,(jD t e).1=c->¬c=0->LG L e=(c,L):=fun c hc hn=>by
  unfold LG;rw[if_pos h0,ht];simp only;rw[if_neg (by omega),hc]
 have tp:(jD t e).1=0->LG L e=(0,L.set e.ty.toNat (jD t e).2):=fun hc=>by
  unfold LG;rw[if_pos h0,ht];simp only;rw[if_pos hc]
 have q:=fun(s:LC)(h:mY L W N0 e.ty.toNat nx (nx+2) V0 e R3 ⟨env,mem,nx,obj,gh⟩ s)(ha:QG e.kind t.kind=true)=>chAll (r:=r) ha ht hw (wa.TB t htm) k1 k2 _ s h
 -- the state ahead of the switch
 have pre:∀(env':Nat->SC)(nx':Nat)(tb:Nat->Nat->Option AV)(R5:List SC),(env' 3).v=.ptr 3 nx 0->(env' 5).v=.ptr 5 (nx+2) 0->nx+3<=nx'->mY L W N0 e.ty.toNat nx (nx+2) V0 e R3 ⟨env,mem,nx,obj,gh⟩ ⟨env',DN (DN (DN mem 3 nx R3) 5 (nx+2) R5) 5 (nx+2) [⟨.ptr 9 N0 (e.ty.toNat*10),.no⟩],nx',tb,gh⟩:=fun env' nx' tb R5 h3 h5 hx=>by
  refine⟨h3,h5,by simp[CC],by simp[CC],hE,?_,?_⟩
  ·refine hT.mono (by simp [CC]) (fun t n ht hn=>?_) (by dsimp only; omega);have e3:¬ t=3:=fun e=>by subst e; exact absurd ht (by decide)
   have e5:¬t=5:=fun e=>by subst e;exact absurd ht (by decide)
   simp[CC,e3,e5]
  ·have q:=((hK0.set (env':=env) (t:=3) (n:=nx) (r:=R3) (.inl (yl _)) (yl _)).set (env':=env) (t:=5) (n:=nx+2) (r:=R5) (.inl (by dsimp only;omega)) (yl _)).set (env':=env') (nx':=nx') (t:=5) (n:=nx+2) (r:=[⟨.ptr 9 N0 (e.ty.toNat*10),.no⟩]) (.inl (by dsimp only;omega)) (by omega);exact⟨q.gh,q.mem,q.next⟩
 generalize hzt:e.ty=z at *
 generalize qJ e=ed at *
 generalize gg:lD L W=R0 at *
 by_cases ha:QG e.kind t.kind=true
 ·rw [ha] at od;simp [Lp,Zp,chS2,chS3,-J,-yb,-y9,y0,-eD,-KC,FC,HC,JC,DC,AV.plain,AV.cA,FC,HC,JC,l25,<- du,d0,d1,gw,ej,h0,hb,h9,b3,b5,ba,r0,od];refine q _ (pre _ _ _ _ (by simp) (by simp) (by omega)) ha _ (fun s' hc hA=>?_) (fun s' hc e4 hA=>?_) (fun s' hc e4 xm=>?_)
  ·obtain⟨w',sq,xm⟩:=hA;have hs:=tp hc;rw[hs]at hk;simp[chS5,chS6,RE,-J,-yb,-y9,y0,SK,NH,qK];exact hk _ _ (fun _=>⟨_,sq.up (by dsimp only;omega)⟩) ⟨xm.gh,xm.mem,by have:=xm.next;dsimp only at this ⊢;omega⟩
  ·obtain ⟨w',sq,xm⟩:=hA;have hs:=tp hc;rw [hs] at hk;have lu:s'.env 4=⟨.int .i64 0,(s'.env 4).a⟩:=by rw [<- e4]
   simp[RE,-J,-yb,-y9,y0,SK,NH,qK];rw[lu];exact hk _ _ (fun _=>⟨_,sq⟩) xm
  ·have hs:=sb _ rfl hc;rw [hs] at hk;have lu:s'.env 4=⟨.int .i64 (jD t e).1,(s'.env 4).a⟩:=by rw [<- e4]
   simp[RE,-J,-yb,-y9,y0,SK,NH,qK];rw[lu];exact hk _ _ (fun h=>absurd h hc) xm
 ·have hc:(jD t e).1=1:=by unfold jD; rw [if_pos (Bool.eq_false_iff.2 ha)]
  have hs:=sb 1 hc (by decide);rw[hs]at hk;rw[Bool.eq_false_iff.2 ha]at od;simp[Lp,Zp,chS2,chS3,RE,-J,-yb,-y9,y0,-eD,-KC,FC,HC,JC,DC,AV.plain,AV.cA,FC,HC,JC,l25,<- du,d0,d1,gw,ej,h0,hb,h9,b3,b5,ba,r0,od,SK,NH,qK];have q:=(pre (fun t=>⟨if t=3 then .ptr 3 nx 0 else .ptr 5 (nx+2) 0,.no⟩) (nx+10) obj [⟨.EA,.no⟩] (by simp) (by simp) (by omega)).kp;exact hk _ _ (fun h=>by simp at h) ⟨q.gh,q.mem,by dsimp only;omega⟩
theorem DX (B:List BC)(i:Nat)(e:aF)(r:List aF):zK B i (e::r)=if(LG B e).1=0 then zK (LG B e).2 (i+1) r else(i,(LG B e).1,[]):=rfl
def kH (B:List BC)(l:List aF):Nat×Int×List BC :=
 if ¬valid B=0 then(0,valid B,[])
 else if ¬(zK B 0 l).2.1=0 then((zK B 0 l).1,(zK B 0 l).2.1,[])
 else if ¬valid (zK B 0 l).2.2=0 then(l.length,valid (zK B 0 l).2.2,[])
 else(l.length,0,(zK B 0 l).2.2)
theorem fine_of {n:Nat}{L:List BC}(hn:n<=100000)(h:XT ED.ok n L)(hl:L.length<=100000)(b:Bool):CT.fine ⟨b,L⟩ :=
 ⟨by show L.length<=_;omega,fun t ht=>by
  obtain⟨h1,h2⟩:=h.len t ht;exact⟨⟨by omega,by omega,h.mem t ht⟩,by omega,by omega⟩⟩
theorem zT {MP:ED->Prop}{L:List BC}(hv:valid L=0)(hm:∀t∈L,∀m∈t.qA,MP m):XT MP 16 L:=by
 have hg:∀t∈L,bD t=true:=fun t ht=>by
  obtain⟨j,hj,rfl⟩:=List.mem_iff_getElem.1 ht;exact(QZ (GX hv j hj)).1
 exact⟨fun t ht=>(JK (hg t ht)).1,fun t ht=>(JK (hg t ht)).2,hm⟩
theorem P2 {S:List BC}(h:valid S=0):S.length<=32:=by
 unfold valid at h;split at h
 ·cases h
 ·omega
def nilF (x:SC):Bool:=match x.v with
 |.sl b _=>b
 |_=>false
def frzT (t:BC)(w:SC×SC):BC:={ t with sn:=nilF w.1,mn:=nilF w.2 }
def EV (L:List BC)(W:List (SC×SC)):List BC:=List.zipWith frzT L W
theorem iQ:∀{L:List BC}{W:List (SC×SC)},W.length=L.length->ZD (EV L W)=ZD L
 | [],_,_=>by simp[EV,ZD]
 |t::L,[],h=>by simp at h
 |t::L,w::W,h=>by
  have:=iQ (L:=L) (W:=W) (by simpa using h);unfold EV ZD at this ⊢;rw[List.zipWith_cons_cons,ym,ym,this];rfl
theorem MG.xA {mem:Nat->Nat->Option (List SC)}{nx:Nat}{x:SC}{z:Nat}{l:List (List AV)}(h:MG mem nx x z l)(he:kD z l=true)(hf:ND l=true){s:LC}(hs:s.mem=mem):AV.xA s x.v=.sl (nilF x) l:=by
 rcases h with⟨rfl,b,rfl⟩|⟨t,n,rfl,h1,h2,h3⟩
 ·rfl
 ·simp only[AV.xA,nilF,hs,h3,J,AE he hf]
theorem Jp {mem:Nat->Nat->Option (List SC)}{nx:Nat}{t:BC}{w:SC×SC}(c5:MG mem nx w.1 2 (t.wA.map fD))(c6:MG mem nx w.2 13 (t.qA.map rD)){s:LC}(hs:s.mem=mem):((QE t w).map (·.v)).map (AV.xA s)=GC (frzT t w):=by
 have h5:=c5.xA (AH _) (HG _) hs;have h6:=c6.xA (dG _) (GG _) hs;simp only[QE,ym,yQ,h5,h6];rfl
theorem raw_ty {L:List BC}{W:List (SC×SC)}(hl:W.length=L.length):PH (lD L W) 10 0 L.length=some ((Cw L W).map fun b=>b.map (·.v)):=by
 have gn:(Cw L W).length=L.length:=by unfold Cw;rw[List.length_zipWith];omega
 have da:(lD L W).length=L.length*10:=by
  have:∀(B:List (List SC)),(∀b∈B,b.length=10)->B.flatten.length=B.length*10:=by
   intro B
   induction B with
   |nil=>intro _;rfl
   |cons b B ih=>intro h;rw[yA,yj,h b (yo ..),ih fun c hc=>h c (yp _ hc),yG];omega
  unfold lD;rw[this _ (lT L W),gn]
 unfold PH;rw[if_pos (by omega)];congr 1;refine List.ext_getElem? fun i=>?_
 rw[yk,yk];by_cases hi:i<L.length
 ·obtain⟨b,hb⟩:∃b,(Cw L W)[i]?=some b:=⟨_,yf (by omega)⟩;rw[List.getElem?_range hi,hb];simp only[yB,yy];rw[show lD L W=(Cw L W).flatten from rfl,(eS (lT L W) hb).1]
 ·rw[Y08 (by simpa using hi),Y08 (by omega)];rfl
theorem Bk {s:LC}{v:AV}(h:v.tA=true):AV.xA s v=v:=by
 cases v<;>first|rfl|(simp[AV.tA]at h)
theorem aZ.FA {L:List BC}{W:List (SC×SC)}{N0 nx:Nat}{V0:AV}{mem:Nat->Nat->Option (List SC)}(h:aZ L W N0 nx V0 mem):∃b:Bool,∀s:LC,s.mem=mem->AV.lA s V0=.sl b ((EV L W).map GC):=by
 rcases h.v0 with⟨h1,b,h2⟩|⟨h1,h2,h3,h4⟩
 ·refine⟨b,fun s _=>?_⟩;subst h1;rw[h2];rfl
 ·refine⟨false,fun s hs=>?_⟩;have jl:=raw_ty h.len;have hB:((Cw L W).map fun b=>b.map (·.v)).map (fun c=>c.map (AV.xA s))=(EV L W).map GC:=by
   refine List.ext_getElem? fun i=>?_
   rw[yk,yk,yk];unfold Cw EV;rw[List.getElem?_zipWith,List.getElem?_zipWith];cases ht:L[i]? with
   |none=>rfl
   |some t =>
    cases hw:W[i]? with
    |none=>rfl
    |some w =>
     obtain⟨c5,c6⟩:=h.cell i t w ht hw;simp only[yB];rw[Jp c5 c6 hs]
  have jf:(((EV L W).map GC).flatten.all AV.tA)=true:=by
   rw[ye];intro v hv;obtain⟨c,hc,hvc⟩:=List.mem_flatten.1 hv;obtain⟨t,_,rfl⟩:=yD.1 hc;have:(GC t).all AV.tA=true:=rfl;exact ye.1 this v hvc
  rw[h2];simp only[AV.lA,hs,h3,J];cases ao:KG (lD L W) 10 0 L.length with
  |some l =>
   simp only;unfold KG at ao;split at ao
   ·rename_i hc;injection ao with ao;unfold PH at jl;rw [if_pos hc.1] at jl;injection jl with jl;rw [<- ao,jl,<- hB];congr 1;rw [y9];refine yE fun b hb=>?_
    simp only[Function.comp];have:(b.map (·.v)).map (AV.xA s)=(b.map (·.v)).map id:=yE fun v hv=>by
     obtain⟨x,hx,rfl⟩:=yD.1 hv;have hxr:x∈lD L W:=List.mem_flatten.2 ⟨b,hb,hx⟩;exact Bk (ye.1 hc.2 x hxr)
    rw[this,List.map_id]
   ·cases ao
  |none =>
   simp only;unfold fT;rw[jl,J,hB,if_pos jf]
def F2 (m:ED):Prop:=m.ok/\m.dflt.lay
structure ApI (ln:Bool)(l:List aF)(L:List BC)(N0 M:Nat)(V0:AV)(s:LC):Prop where
 e1:(s.env 1).v=.sl ln (l.map qJ)
 e4:(s.env 4).v=.ptr 4 1 0
 e8:(s.env 8).v=.ptr 8 M 0
 e21:(s.env 21).v=.sl ln (l.map qJ)
 e22:(s.env 22).v=.int .i64 l.length
 m4:s.mem 4 1=some [⟨.sl true [],.ex⟩]
 m8:s.mem 8 M=some [⟨V0,.no⟩]
 v0:okV V0=true
 ty:∃W,aZ L W N0 s.next V0 s.mem
 nx:1<s.next/\M<s.next
theorem Bc (e:aF)(a:An):KC true 8 9 ((qJ e).map (⟨·,.no⟩)) (.agg (WE e.mem.dflt)) a=some ((qJ e).map (⟨·,.no⟩)):=by
 have h:=eR (tF [e]) (k:=0) (c:=qJ e) rfl (o:=9) (z:=8) (by omega) a;rw[zZ]at h;simpa [qD]using h
theorem Js (e:aF):eD true 8 9 ((qJ e).map (⟨·,.no⟩))=some ⟨.agg (WE e.mem.dflt),.no⟩:=by
 have h:=IS (tF [e]) (k:=0) (c:=qJ e) rfl (o:=9) (z:=8) (by omega);rw[zZ]at h;simpa [qD]using h
theorem ap_lp {rv:RV}{ln:Bool}{l:List aF}{B0:List BC}{N0 M:Nat}{V0:AV}(hl:l.length<=380)(hB:B0.length<=1000)(hmp:∀e∈l,F2 e.mem)(s:LC)(L:List BC)(hL:ZD L=B0)(wa:XT F2 16 L)(h:ApI ln l L N0 M V0 s)(e23:(s.env 23).v=.int .i64 0)(k:Ex->LC->Option RV)
  (df:∀(s':LC)(L:List BC),(zK B0 0 l).2.1=0->ZD L=(zK B0 0 l).2.2->L.length=B0.length->XT F2 400 L->ApI ln l L N0 M V0 s'->k (.exit 0) s'=some rv)
  (fh:∀s':LC,¬(zK B0 0 l).2.1=0->(s'.env 4).v=.ptr 4 1 0->s'.mem 4 1=some [⟨.sl true [],.no⟩]->(s'.env 5).v=.int .i64 (zK B0 0 l).1->(s'.env 6).v=.int .i64 (zK B0 0 l).2.1->k .ret s'=some rv):HJ aE LD tJ s k=some rv:=by
 refine UH l.length (fun i s=>∃L,ApI ln l L N0 M V0 s/\(s.env 23).v=.int .i64 i/\zK (ZD L) i (l.drop i)=zK B0 0 l/\XT F2 (16+i) L/\L.length=B0.length)
  (fun e s=>(e=.exit 0/\∃L,(zK B0 0 l).2.1=0/\ZD L=(zK B0 0 l).2.2/\L.length=B0.length/\XT F2 400 L/\ApI ln l L N0 M V0 s)\/(e=.ret/\¬(zK B0 0 l).2.1=0/\(s.env 4).v=.ptr 4 1 0/\s.mem 4 1=some [⟨.sl true [],.no⟩]/\(s.env 5).v=.int .i64 (zK B0 0 l).1/\(s.env 6).v=.int .i64 (zK B0 0 l).2.1)) (fun i hi s k h ih hk=>?_) _ _ ⟨L,h,e23,by rw[hL];rfl,wa,by rw[<- hL];exact(yc _).symm⟩ (fun e s h=>?_)
 ·obtain ⟨L,⟨e1,e4,e8,e21,e22,m4,m8,hV,⟨W,hT⟩,hn1,hn2⟩,e23,oa,wa,da⟩:=h;obtain ⟨env,mem,XA,obj,gh⟩:=s;dsimp only at e1 e4 e8 e21 e22 e23 m4 m8 hT hn1 hn2;refine wD ?_;by_cases ba:i<l.length
  ·have fa:(i:Int)<l.length:=by omega
   have hw:=rE (i:=i);obtain⟨q,hq⟩:∃q,l[i]?=some q:=⟨_,yf ba⟩;have hqm:=yr hq;have g1:(l.map qJ)[i]?=some (qJ q):=by rw[yk,hq];rfl
   have l25:(qJ q).length=25:=rfl;have tl:l.drop i=q::l.drop (i+1):=by rw[yv ba,(yn.1 hq).2]
   rw[tl,DX,Dw]at oa;have sb:=s9 wa (hmp q hqm);have kg:=i5 L q;have jb:=ih ba;have dt:(qJ q).take 25=qJ q:=rfl;have ge:=jZ _ q.mem.dflt (Nat.lt_succ_self _) (hmp q hqm).2;simp only[GR]at ge;have pe:=uQ q.mem.dflt;have iu:=Js q;have hsd:=fun a=>Bc q a
   have ub:eD true 25 0 ((qJ q).map (⟨·,.no⟩))=some ⟨.agg (qJ q),.no⟩:=rfl;have ac:((qJ q).map (fun v=>(⟨v,.no⟩:SC))).length=25:=rfl;have hch:=fun(a0 a1:An)(s:LC)(hT:aZ L W N0 s.next V0 s.mem)(hb:s.mem 8 M=some [⟨V0,.no⟩])=>Kh (r:=rv) (a0:=a0) (a1:=a1) (e:=q) (by decide) (by omega) ⟨wa.TB,fun t ht=>by have:=wa.len t ht;omega,fun _ _ _ _=>trivial⟩ s hT hb
   generalize du:(qJ q).map (fun v=>(⟨v,.no⟩:SC))=R3 at *
   generalize qJ q=ed at *
   generalize WE q.mem.dflt=vd at *
   generalize ic:l.map qJ=me at *
   have hset0:∀(r:List SC),r.length=25->KC true 25 0 r (.agg ed) .no=some (ed.map (⟨·,.no⟩)):=fun r hr=>by
    simp only[KC,if_true];rw[if_pos ⟨l25,by omega⟩,List.take_zero,Y00,yy,<- hr,List.drop_length,yF]
   have hne4:∀n:Nat,¬(4=10/\1=n):=fun n e=>absurd e.1 (by decide)
   simp[tJ,-J,-yb,-y9,y0,-eD,-KC,FC,HC,JC,DC,e21,e22,e23,fa,↓g1,l25,dt,DC,du,iu,pe,ge,hsd,ub,e8,NN,-ye];refine hch _ _ _ ?hT ?hb _ (fun s' a hTs xm=>?main)
   case hT =>
    refine hT.mono (by simp[CC]) (fun t n ht hn=>?_) (by dsimp only;omega);have e10:¬t=10:=fun e=>by subst e;exact absurd ht (by decide)
    simp[CC,e10]
   case hb=>simp[CC,m8]
   obtain⟨env',na,nx',tb,lj⟩:=s';have q1:=xm.gh 1;have q4:=xm.gh 4;have q8:=xm.gh 8;have q9:=xm.gh 9;have q21:=xm.gh 21;have q22:=xm.gh 22;have q23:=xm.gh 23;simp[okV,Q6,KS,e1,e4,e8,e21,e22,e23]at q1 q4 q8 q9 q21 q22 q23;have p1:(lj 1).v=.sl ln me:=by rw[q1,e1]
   have p4:(lj 4).v=.ptr 4 1 0:=by rw[q4,e4]
   have p8:(lj 8).v=.ptr 8 M 0:=by rw[q8,e8]
   have p9:(lj 9).v=.int .i64 i:=by rw[q9]
   have p21:(lj 21).v=.sl ln me:=by rw[q21,e21]
   have p22:(lj 22).v=.int .i64 l.length:=by rw[q22,e22]
   have p23:(lj 23).v=.int .i64 i:=by rw[q23,e23]
   have m4':=xm.mem 4 1 [⟨.sl true [],.ex⟩] (by dsimp only;omega) (by decide) (fun e=>absurd e.1 (by decide)) (by simp[CC,m4]) (fun x hx=>by rw[yU]at hx;subst hx;rfl);have m8':=xm.mem 8 M [⟨V0,.no⟩] (by dsimp only;omega) (by decide) (fun e=>absurd e.1 (by decide)) (by simp[CC,m8]) (fun x hx=>by rw[yU]at hx;subst hx;exact hV);have bw:=xm.next;dsimp only at m4' m8' hTs bw;clear q1 q4 q8 q9 q21 q22 q23 xm;by_cases fc:(LG L q).1=0
   ·obtain⟨W',sq⟩:=hTs fc;rw[if_pos fc]at oa;simp[-J,-yb,-y9,y0,-eD,-KC,FC,HC,JC,DC,p1,p4,p8,p9,p21,p22,p23,fc,hw];exact jb _ ⟨(LG L q).2,⟨by simp[p1,ic],by simp[p4],by simp[p8],by simp[p21,ic],by simp[p22],m4',m8',hV,⟨W',sq.up (by dsimp only;omega)⟩,by dsimp only;omega⟩,by simp,oa,sb.up (by omega),by omega⟩
   ·rw[if_neg fc]at oa;rw[<- oa]at hk;simp[-J,-yb,-y9,y0,-eD,-KC,FC,HC,JC,DC,p1,p4,p8,p9,p21,p22,p23,fc,m4',DC];exact hk _ _ (.inr ⟨rfl,fc,by simp[p4],by simp[CC],by simp,by simp⟩)
  ·have fa:¬ (i:Int)<l.length:=by omega
   have:i=l.length:=by omega
   subst this;rw[List.drop_length]at oa;simp[tJ,-J,-yb,-y9,y0,-eD,-KC,FC,HC,JC,DC,e22,e23];refine hk _ _ (.inl ⟨rfl,L,?_,?_,da,wa.up (by omega),by simp[e1],by simp[e4],by simp[e8],by simp[e21],by simp[e22],m4,m8,hV,⟨W,hT.up (by dsimp only;omega)⟩,by dsimp only;omega⟩)
   ·rw[<- oa];rfl
   ·rw[<- oa];rfl
 ·rcases h with ⟨rfl,L,h1,h2,h3,h4,h5⟩ | ⟨rfl,h1,h2,h3,h4,h5⟩
  ·exact df _ _ h1 h2 h3 h4 h5
  ·exact fh _ h1 h2 h3 h4 h5
theorem dZ (s:CT)(ln:Bool)(l:List aF)(hs:s.fine)(oz:s.nl=true->s.types=[])(je:∀t∈s.types,(t.sn=true->t.wA=[])/\(t.mn=true->t.qA=[])/\∀m∈t.qA,m.dflt.lay)(hl:l.length<=380)(bc:∀e∈l,F2 e.mem):∃(b:Bool)(L':List BC),GR 8 [.agg (xK s),.sl ln (l.map qJ)] (.fA [.agg [.sl b (L'.map GC)],.int .i64 (kH (ZD s.types) l).1,.int .i64 (kH (ZD s.types) l).2.1])/\ZD L'=(kH (ZD s.types) l).2.2:=by
 have hv:=fJ (WW s hs);simp only[GR,xK]at hv;have ac:(l.map qJ).length=l.length:=yc _;by_cases h0:valid s.types=0
 case neg =>
  refine⟨true,[],?_,?_⟩
  ·unfold kH;rw[if_pos (by rw[WJ];exact h0),WJ];refine GJ iG rfl rfl ?_;simp[iG,-J,-yb,-y9,y0,-eD,-KC,FC,HC,JC,DC,AV.plain,AV.cA,HC,DC,xK,hv,h0]
  ·unfold kH;rw[if_pos (by rw[WJ];exact h0)];rfl
 have wa:XT F2 16 s.types:=zT h0 fun t ht m hm=>⟨(hs.2 t ht).1.2.2 m hm,(je t ht).2.2 m hm⟩
 have ry:=P2 h0;have gn:(ZD s.types).length=s.types.length:=yc _;have lc:∀t∈s.types,Fv t:=fun t ht=>by
  obtain⟨g1,g2,g3⟩:=je t ht;have:=wa.len t ht;exact⟨g1,g2,by omega,by omega,g3⟩
 rw[h0]at hv;have hcp:=fun(r:RV)(s1:LC)(a:An)=>Mh (r:=r) s1 s a (by omega) oz lc
 have q:=fun(rv:RV)(N0 M:Nat)(V0:AV)=>ap_lp (rv:=rv) (ln:=ln) (B0:=ZD s.types) (N0:=N0) (M:=M) (V0:=V0) hl (by omega) bc
 have od:∀n e T,(valid (ZD s.types)=0->kH (ZD s.types) l=(n,e,T))->kH (ZD s.types) l=(n,e,T):=fun n e T h=>h (by rw[WJ];exact h0)
 -- what the end is like
 have JJ:∀(L':List BC),L'.length=(ZD s.types).length->XT F2 400 L'->∀b,sF aE LD 19 [.agg [.sl b (L'.map GC)]] none=some (.int .i64 (valid L'),none):=fun L' h1 h2 b=>fJ (WW ⟨b,L'⟩ (fine_of (by omega) ⟨h2.TB,h2.len,fun t ht m hm=>(h2.mem t ht m hm).1⟩ (by omega) b))
 have frzOk:∀{L:List BC}{W:List (SC×SC)},W.length=L.length->XT F2 400 L->XT F2 400 (EV L W):=fun{L W} hWL h=>by
  have h':=h.bare;rw[<- iQ hWL]at h';exact h'.un
 have hreach:=N4 (T:=aE) (ext:=LD) Uk (c:=iG.code) (by kernel_rfl) (s:=LC.init [.agg (xK s),.sl ln (l.map qJ)] none) (F:=fun e s'=>e=.ret/\∃(b:Bool)(L':List BC)(V:AV),ZD L'=(kH (ZD s.types) l).2.2/\(s'.env 4).v=.ptr 4 1 0/\s'.mem 4 1=some [⟨V,.no⟩]/\AV.lA s' V=.sl b (L'.map GC)/\(s'.env 5).v=.int .i64 (kH (ZD s.types) l).1/\(s'.env 6).v=.int .i64 (kH (ZD s.types) l).2.1) (fun k r hk=>by
  simp only[xK]at hcp ⊢;have hq:=q r;generalize js:s.types.map GC=ma at *
  generalize ic:l.map qJ=me at *
  simp[iG,-J,-yb,-y9,y0,-eD,-KC,FC,HC,JC,DC,AV.plain,AV.cA,HC,DC,hv,NN];refine hcp r _ _ _ (fun s' W N0 V0 hT pe hg rd hN bw=>?_);obtain⟨env',na,nx',tb,lj⟩:=s';dsimp only at hT hg rd bw;subst hg;have hV:okV V0=true:=by
   rcases hT.v0 with⟨_,b,rfl⟩|⟨_,rfl,_,_⟩<;>rfl
  have m4:=rd 4 1 (by omega);simp[CC]at m4;simp[-J,-yb,-y9,y0,-eD,-KC,FC,HC,JC,DC,DC];refine hq N0 nx' V0 _ s.types rfl wa ⟨by simp[ic],by simp,by simp,by simp[ic],by simp[ac],by simp[CC,m4],by simp[CC],hV,⟨W,?ty⟩,?nx⟩ (by simp) _ (fun s2 L' g1 g2 g3 g4 g5=>?main) (fun s2 g1 a4 am a5 a6=>?err)
  case ty =>
   refine hT.mono (by simp[CC]) (fun t n ht hn=>?_) (by dsimp only;omega);have e8:¬t=8:=fun e=>by subst e;exact absurd ht (by decide)
   simp[CC,e8]
  case nx=>dsimp only;omega
  case err =>
   have hr:=od (zK (ZD s.types) 0 l).1 (zK (ZD s.types) 0 l).2.1 [] (fun hv=>by unfold kH;rw[if_neg (by simp[hv]),if_pos g1]);rw[hr]at hk;simp[-J,-yb,-y9,y0,-eD,-KC,FC,HC,JC,DC];exact hk _ _ ⟨rfl,true,[],.sl true [],rfl,a4,am,rfl,a5,a6⟩
  case main =>
   obtain⟨e1,e4,e8,e21,e22,m4b,m8b,_,⟨W2,hT2⟩,n1,n2⟩:=g5;obtain⟨env2,mem2,nx2,obj2,gh2⟩:=s2;dsimp only at e1 e4 e8 e21 e22 m4b m8b hT2 n1 n2;have hWL:=hT2.len;obtain⟨b,hfz⟩:=hT2.FA;have hfz1:∀env nx obj gh,AV.lA ⟨env,mem2,nx,obj,gh⟩ V0=.sl b ((EV L' W2).map GC):=fun _ _ _ _=>hfz _ rfl
   have hT3:aZ L' W2 N0 nx2 V0 (DN mem2 4 1 [⟨V0,.no⟩]):=hT2.mono (by simp[CC]) (fun t n ht hn=>by
    have e4:¬t=4:=fun e=>by subst e;exact absurd ht (by decide)
    simp[CC,e4]) (yl _)
   obtain⟨b3,hfz3⟩:=hT3.FA;have ko:(EV L' W2).length=(ZD s.types).length:=by
    have:=congrArg List.length (iQ hWL);unfold ZD at this;rw[yc,yc]at this;omega
   have hvl:=JJ (EV L' W2) ko (frzOk hWL g4) b;rw[<- WJ,iQ hWL,g2]at hvl;have hbr:=iQ hWL;rw[g2]at hbr;by_cases h2:valid (zK (ZD s.types) 0 l).2.2=0
   ·have hr:=od l.length 0 (zK (ZD s.types) 0 l).2.2 (fun hv=>by unfold kH; rw [if_neg (by simp [hv]),if_neg (by simp [g1]),if_neg (by simp [h2])]);rw [hr] at hk;rw [h2] at hvl;generalize bj:(EV L' W2).map GC=ml at *
    simp[-J,-yb,-y9,y0,-eD,-KC,FC,HC,JC,DC,AV.plain,AV.cA,e1,e4,e8,m4b,m8b,↓hfz1,hvl,ac,HC,DC];exact hk _ _ ⟨rfl,b3,EV L' W2,V0,hbr,by simp[e4],by simp[CC],by rw[bj];exact hfz3 _ rfl,by simp,by simp⟩
   ·have hr:=od l.length (valid (zK (ZD s.types) 0 l).2.2) [] (fun hv=>by unfold kH; rw [if_neg (by simp [hv]),if_neg (by simp [g1]),if_pos h2]);rw [hr] at hk;generalize bj:(EV L' W2).map GC=ml at *
    simp[-J,-yb,-y9,y0,-eD,-KC,FC,HC,JC,DC,AV.plain,AV.cA,e1,e4,e8,m4b,m8b,↓hfz1,hvl,h2,ac,HC,DC];exact hk _ _ ⟨rfl,true,[],.sl true [],rfl,by simp[e4],by simp[CC],rfl,by simp,by simp⟩)
 obtain⟨e,s',⟨rfl,b,L',V,g1,g4,gm,gf,g5,g6⟩,oa⟩:=hreach;refine⟨b,L',GJ iG rfl rfl (oa _ _ ?_),g1⟩;generalize L'.map GC=ml at *
 simp[iG,-J,-yb,-y9,y0,-eD,-KC,FC,HC,JC,DC,g4,gm,↓gf,g5,g6,HC]
def bI:List BC->List BC->Bool
 | [],[]=>true
 |t::r,u::r'=>t.same u&&bI r r'
 | [],_::_=>false
 |_::_,[]=>false
theorem X1:∀l m:List BC,l.length≠m.length->bI l m=false
 | [],[],h=>absurd rfl h
 | [],_::_,_=>rfl
 |_::_,[],_=>rfl
 |v::r,w::r',h=>by rw[bI,X1 r r' (by simpa using h)];simp
theorem BC.UA (t:BC):t.same t=true:=by
 unfold BC.same;simp[mP]
theorem Mj {rv:RV}{bs bu:Bool}{S U:List BC}(hl:S.length<=9223372036854775807)(da:S.length=U.length)(wa:∀t∈S,t.ok)(s:LC)(e2:(s.env 2).v=.ptr 2 1 0)(e3:(s.env 3).v=.ptr 3 1 0)(m2:s.mem 2 1=some [⟨.sl bs (S.map GC),.no⟩])(m3:s.mem 3 1=some [⟨.sl bu (U.map GC),.no⟩])(e5:(s.env 5).v=.int .i64 0)(k:Ex->LC->Option RV)
  (hk:∀s':LC,bI S U=true->k (.exit 0) s'=some rv) (hr:∀s':LC,bI S U=false->(s'.env 4).v=.bool false->k .ret s'=some rv):HJ MC ZC jI s k=some rv:=by
 refine zE S.length (fun i s=>(s.env 2).v=.ptr 2 1 0/\(s.env 3).v=.ptr 3 1 0/\s.mem 2 1=some [⟨.sl bs (S.map GC),.no⟩]/\s.mem 3 1=some [⟨.sl bu (U.map GC),.no⟩]/\(s.env 5).v=.int .i64 i/\bI (S.drop i) (U.drop i)=bI S U)
  (fun e s=>(e=.exit 0/\bI S U=true)\/(e=.ret/\bI S U=false/\(s.env 4).v=.bool false)) (fun i hi s k h ih hk=>?_) _ _ ⟨e2,e3,m2,m3,e5,rfl⟩ (fun e s h=>?_)
 ·obtain ⟨e2,e3,m2,m3,e5,hs⟩:=h;have ac:(S.map GC).length=S.length:=yc _;refine wD ?_;by_cases ba:i<S.length
  ·have fa:(i:Int)<S.length:=by omega
   have xf:i<U.length:=by omega
   have hw:=rE (i:=i);have g1:(S.map GC)[i]?=some (GC S[i]):=by rw[yk,yf ba];rfl
   have g2:(U.map GC)[i]?=some (GC U[i]):=by rw[yk,yf xf];rfl
   have hx:=SX S[i] U[i] (wa _ (yC ba));rw[yv ba,yv xf,bI]at hs;have jb:=ih ba;generalize S[i]=x at *
   generalize U[i]=y at *
   have l1:(GC x).length=10:=rfl;have l2:(GC y).length=10:=rfl;have f1:(GC x).all AV.tA=true:=rfl;have f2:(GC y).all AV.tA=true:=rfl;have dt:∀v:List AV,v.length=10->v.take 10=v:=fun v h=>Y0b (by omega)
   simp only[BD]at hx;generalize GC x=tx at *
   generalize GC y=ty at *
   generalize js:S.map GC=ma at *
   generalize mf:U.map GC=mb at *
   cases h1:x.same y with
   |true =>
    rw[h1,Bool.true_and]at hs;rw[h1]at hx;simp[jI,-J,-yb,-y9,y0,-eD,-KC,FC,HC,JC,DC,HC,e2,e3,m2,m3,e5,fa,hw,ac,↓g1,↓g2,l1,l2,dt,f1,f2,hx,-ye];refine jb _ ⟨?_,?_,?_,?_,?_,hs⟩
    all_goals simp[e2,e3,m2,m3]
   |false =>
    rw[h1,Bool.false_and]at hs;rw[h1]at hx;simp[jI,-J,-yb,-y9,y0,-eD,-KC,FC,HC,JC,DC,HC,e2,e3,m2,m3,e5,fa,hw,ac,↓g1,↓g2,l1,l2,dt,f1,f2,hx,-ye];exact hk _ _ (.inr ⟨rfl,hs.symm,by simp⟩)
  ·have fa:¬ (i:Int)<S.length:=by omega
   rw[yw (by omega),yw (by omega),bI]at hs;simp[jI,-J,-yb,-y9,y0,e2,m2,e5,fa,ac];exact hk _ _ (.inl ⟨rfl,hs.symm⟩)
 ·rcases h with ⟨rfl,h⟩ | ⟨rfl,h1,h2⟩
  ·exact hk _ h
  ·exact hr _ h1 h2
theorem mZ (bs bu:Bool)(S U:List BC)(hl:S.length<=9223372036854775807)(wa:∀t∈S,t.ok):BD 10 [.agg [.sl bs (S.map GC)],.agg [.sl bu (U.map GC)]] (.bool (bI S U)):=by
 refine tD (c:=iK) rfl rfl ?_;have h1:(S.map GC).length=S.length:=yc _;have h2:(U.map GC).length=U.length:=yc _;by_cases da:S.length=U.length
 ·have q:=fun s=>Mj (rv:=(.bool (bI S U),none)) (bs:=bs) (bu:=bu) hl da wa s
  generalize js:S.map GC=ma at *
  generalize mf:U.map GC=mb at *
  simp[iK,-J,-yb,-y9,y0,h1,h2,da];refine q _ (by simp) (by simp) (by simp) (by simp) (by simp) _ (fun s' h=>?_) (fun s' h e4=>?_)
  ·simp[-J,-yb,-y9,y0,h]
  ·simp[-J,-yb,-y9,y0,h,e4]
 ·have gp:¬ (S.length:Int)=U.length:=by omega
  rw[X1 _ _ da];generalize S.map GC=ma at *
  generalize U.map GC=mb at *
  simp[iK,-J,-yb,-y9,y0,h1,h2,gp]
theorem Og {MP:ED->Prop}{B:List BC}{l:List aF}(hl:l.length<=380)(hB:XT MP 16 B)(hm:∀e∈l,MP e.mem):XT MP 400 (kH B l).2.2:=by
 have run:∀(l:List aF)(n i:Nat)(B:List BC),XT MP n B->(∀e∈l,MP e.mem)->XT MP (n+l.length) (zK B i l).2.2:=by
  intro l
  induction l with
  |nil=>intro n i B h _;exact h
  |cons e r ih =>
   intro n i B h hm;rw[DX];split
   ·have:=ih (n + 1) (i + 1) _ (s9 h (hm e (yo ..))) fun e he=>hm e (yp _ he)
    rw[yG,Nat.add_comm r.length 1,<- Nat.add_assoc];exact this
   ·exact⟨fun _ h=>by simp at h,fun _ h=>by simp at h,fun _ h=>by simp at h⟩
 have nil:XT MP 400 []:=⟨fun _ h=>by simp at h,fun _ h=>by simp at h,fun _ h=>by simp at h⟩;unfold kH;split
 ·exact nil
 split
 ·exact nil
 split
 ·exact nil
 ·exact(run l 16 0 B hB hm).up (by omega)
theorem Tp {B:List BC}{l:List aF}(h:¬valid B=0):(kH B l).2.2=[]:=by
 unfold kH;rw[if_pos h]
def C1 (s:CT):Prop:=(s.nl=true->s.types=[])/\∀t∈s.types,(t.sn=true->t.wA=[])/\(t.mn=true->t.qA=[])/\∀m∈t.qA,m.dflt.lay
theorem XT.nil {MP:ED->Prop}{n:Nat}:XT MP n []:=⟨fun _ h=>by simp at h,fun _ h=>by simp at h,fun _ h=>by simp at h⟩
theorem PW (s:CT)(l:List aF)(hs:s.fine)(je:C1 s)(hl:l.length<=380)(bc:∀e∈l,F2 e.mem):XT F2 400 (kH (ZD s.types) l).2.2:=by
 by_cases h:valid (ZD s.types)=0
 ·rw[WJ]at h;exact Og hl (zT h fun t ht m hm=>⟨(hs.2 t ht).1.2.2 m hm,(je.2 t ht).2.2 m hm⟩).bare bc
 ·rw[Tp h];exact XT.nil
theorem Ip (B:List BC)(l:List aF):(kH B l).2.2.length<=B.length:=by
 have run:∀(l:List aF)(i:Nat)(B:List BC),(zK B i l).2.2.length<=B.length:=by
  intro l
  induction l with
  |nil=>intro i B;exact yl _
  |cons e r ih =>
   intro i B;rw[DX];split
   ·exact yH (ih _ _) (Nat.le_of_eq (i5 _ _))
   ·exact Nat.zero_le _
 have:=run l 0 B;unfold kH
 repeat' split
 all_goals first|exact Nat.zero_le _|(dsimp only;omega)
structure DhI (a b:CT)(L:List aF)(s:LC):Prop where
 e2:(s.env 2).v=.ptr 2 1 0
 e3:(s.env 3).v=.ptr 3 1 0
 m2:s.mem 2 1=some [⟨.sl a.nl (a.types.map GC),.no⟩]
 m3:s.mem 3 1=some [⟨.sl b.nl (b.types.map GC),.no⟩]
 e8:OutB L (s.env 8)
theorem Mx {rv:RV}{a b:CT}(ha:a.types.length<=100)(og:a.types.length=b.types.length)(dy:∀t∈a.types,UP t)(iy:∀t∈b.types,UP t)(s:LC)(h:DhI a b [] s)(e_c:(s.env 9).v=.int .i64 0)(k:Ex->LC->Option RV)
  (hk:qE a.types b.types=true->∀s',DhI a b (lG 0 a.types b.types) s'->k (.exit 0) s'=some rv)
  (hr:qE a.types b.types=false->∀s':LC,(s'.env 4).v=.sl true []->(s'.env 5).v=.int .i64 1->k .ret s'=some rv):HJ MC ZC KH s k=some rv:=by
 refine zE a.types.length (fun i s=>(s.env 9).v=.int .i64 i/\qE (a.types.drop i) (b.types.drop i)=qE a.types b.types/\∃L,DhI a b L s/\L.length<=244*i/\L++lG i (a.types.drop i) (b.types.drop i)=lG 0 a.types b.types) (fun e s=>(e=.exit 0/\qE a.types b.types=true/\DhI a b (lG 0 a.types b.types) s)\/(e=.ret/\qE a.types b.types=false/\(s.env 4).v=.sl true []/\(s.env 5).v=.int .i64 1)) (fun i hi s k h ih hk=>?_) _ _ ⟨e_c,rfl,[],h,by simp,by simp⟩ (fun e s h=>by
   rcases h with⟨rfl,h1,h2⟩|⟨rfl,h1,h2,h3⟩
   ·exact hk h1 _ h2
   ·exact hr h1 _ h2 h3)
 obtain⟨e_c,wc,L,hI,hn,gj⟩:=h;obtain⟨env,mem,nx,obj,gh⟩:=s;obtain⟨e2,e3,m2,m3,e8,a8⟩:=hI;dsimp only at e_c e2 e3 m2 m3 e8 a8;refine wD ?_;have ac:(a.types.map GC).length=a.types.length:=yc _;have bj:(b.types.map GC).length=b.types.length:=yc _;by_cases ba:i<a.types.length
 ·have fa:(i:Int)<a.types.length:=by omega
  have hw:=rE (i:=i);have xf:i<b.types.length:=by omega
  have hx:=yC ba;have hy:=yC xf;have g1:(a.types.map GC)[i]?=some (GC a.types[i]):=by rw[yk,yf ba];rfl
  have g2:(b.types.map GC)[i]?=some (GC b.types[i]):=by rw[yk,yf xf];rfl
  rw[yv ba,yv xf,lG]at gj;rw[yv ba,yv xf,qE]at wc;obtain⟨x1,x2,x3,x4⟩:=dy _ hx;obtain⟨y1,y2,y3,y4⟩:=iy _ hy;have hd:=H9 i a.types[i] b.types[i] x1 y1 x2 y2 x3;have ug:=O7 i a.types[i] b.types[i] x1 y1 x2 y2;generalize a.types[i]=x at *
  generalize b.types[i]=y at *
  simp only[BD,SM,GC]at hd;simp only[GC]at g1 g2;generalize AM i x y=M at *
  have ga:pD 272 (L.length+M.length)=true:=by rw[XC];omega
  have fb:=tF L;have zu:=tF M;have ub:(L.map qJ).length=L.length:=yc _;have xr:(M.map qJ).length=M.length:=yc _;have jb:=ih ba;have ic:(M.map qJ).isEmpty=M.isEmpty:=by cases M<;>rfl
  simp only[SM]at e8;generalize js:a.types.map GC=ma at *
  generalize mf:b.types.map GC=mb at *
  by_cases ck:x.kind=y.kind
  ·have hkd':qE (a.types.drop (i + 1)) (b.types.drop (i + 1))=qE a.types b.types:=by simpa [ck] using wc
   rw[ck]at hd g1;by_cases h0:L=[]
   ·subst h0;have ga:pD 272 M.length=true:=by rw [XC]; omega
    simp[KH,-J,-yb,-y9,y0,tE,e_c,e2,e3,m2,m3,e8,fa,hw,ac,bj,g1,g2,hd,ga,zu,xr,ic];refine jb _ ⟨by simp,hkd',M,⟨by simp[e2],by simp[e3],by simp[m2,js],by simp[m3,mf],by simp[SM],.inr ⟨60,by simp⟩⟩,by omega,gj⟩
   ·obtain ⟨kk,a8⟩:=a8.resolve_left h0;have he:L.isEmpty=false:=by cases L with | nil=>exact absurd rfl h0 | cons=>rfl
    rw[he]at e8;simp[KH,-J,-yb,-y9,y0,tE,e_c,e2,e3,m2,m3,e8,a8,fa,hw,ac,bj,ub,g1,g2,hd,ga,fb,zu,xr,ic];refine jb _ ⟨by simp,hkd',L++M,⟨by simp[e2],by simp[e3],by simp[m2,js],by simp[m3,mf],by simp[SM,h0],.inr ⟨60,by simp⟩⟩,by rw[yj];omega,by rw[yx];exact gj⟩
  ·simp[KH,-J,-yb,-y9,y0,ck,e_c,e2,e3,m2,m3,fa,hw,ac,bj,g1,g2];exact hk _ _ (.inr ⟨rfl,by rw[<- wc];simp[ck],by simp,by simp⟩)
 ·have fa:¬ (i:Int)<a.types.length:=by omega
  rw[yw (by omega),yw (by omega)]at gj wc;rw[lG,yF]at gj
  ·subst gj;simp[KH,-J,-yb,-y9,y0,e_c,e2,m2,ac,fa];exact hk _ _ (.inl ⟨rfl,wc.symm,by simp[e2],by simp[e3],m2,m3,by simpa using e8,by simpa using a8⟩)
  ·intro x l y m h;cases h
theorem Nx (a b:CT)(ha:a.fine)(hb:b.fine)(dy:valid a.types=0->a.types.length<=100/\∀t∈a.types,UP t)(iy:valid b.types=0->∀t∈b.types,UP t):BD 7 [.agg (xK a),.agg (xK b)] (fK a b):=by
 have va:=w5 a ha;have vb:=w5 b hb;simp only[BD,xK]at va vb;refine tD (c:=PI) rfl rfl ?_;have ac:(a.types.map GC).length=a.types.length:=yc _;have bj:(b.types.map GC).length=b.types.length:=yc _;by_cases c1:valid a.types=0
 ·by_cases c2:valid b.types=0
  ·obtain ⟨l1,l2⟩:=dy c1;have l3:=iy c2;rw [c1] at va;rw [c2] at vb;by_cases c4:a.types.length=b.types.length
   ·have oh:=fun rv:RV=>@Mx rv a b l1 c4 l2 l3
    simp[PI,-J,-yb,-y9,y0,xK,va,vb,ac,bj,c4];refine oh _ _ ⟨by simp,by simp,by simp,by simp,by simp[SM],.inl rfl⟩ (by simp) _ (fun c3 s' h'=>?_) (fun c3 s' a1 a2=>?_)
    ·have e8:=h'.e8.1;simp[-J,-yb,-y9,y0,e8,fK,c1,c2,c3,SM]
    ·simp[-J,-yb,-y9,y0,a1,a2,fK,c1,c2,c3]
   ·have c4':¬ (a.types.length:Int)=b.types.length:=by omega
    simp[PI,-J,-yb,-y9,y0,xK,va,vb,ac,bj,c4',fK,c1,c2,lU _ _ c4]
  ·rw[c1]at va;simp[PI,-J,-yb,-y9,y0,xK,va,vb,c2,fK,c1]
 ·simp[PI,-J,-yb,-y9,y0,xK,va,c1,fK]
theorem Fa {t:BC}(h:bD t=true):t.wA.length<=16:=by
 unfold bD at h;simp only[yg,decide_eq_true_eq]at h;obtain⟨_,h2,h3⟩:=h;by_cases c4:t.kind=4
 ·simp[EI,c4,IP]at h2;omega
 ·have:t.left.wA=t.wA:=by
   unfold BC.left
   repeat' split
   all_goals first|rfl|exact absurd (by assumption) c4
  have hz:t.left.wA=pE.wA:=by
   simp only[BC.same,yg,decide_eq_true_eq]at h3;exact h3.1.2
  rw[<- this,hz];simp[pE]
theorem cW {s:CT}(hs:s.fine)(hv:valid s.types=0)(hl:∀t∈s.types,∀m∈t.qA,m.dflt.lay):∀t∈s.types,UP t:=fun t ht=>by
 obtain⟨j,hj,rfl⟩:=List.mem_iff_getElem.1 ht;have hg:=(QZ (GX hv j hj)).1;have h1:=Wl hg;have h2:=Fa hg;exact⟨by omega,by omega,(hs.2 _ ht).1.2.2,hl _ ht⟩
theorem L3:∀(i:Nat)(l m:List BC),lG i (ZD l) m=lG i l m
 |_,[],_=>rfl
 |_,_::_,[]=>rfl
 |i,x::l,y::m=>by
  have:=L3 (i+1) l m;unfold ZD at this ⊢;rw[ym,lG,lG,this];rfl
theorem aY:∀(l m:List BC),qE (ZD l) m=qE l m
 | [],[]=>rfl
 | [],_::_=>rfl
 |_::_,[]=>rfl
 |x::l,y::m=>by
  have:=aY l m;unfold ZD at this ⊢;rw[ym,qE,qE,this];rfl
theorem Wq (b c:Bool)(L:List BC)(s:CT):fK ⟨b,L⟩ s=fK ⟨c,ZD L⟩ s:=by
 unfold fK;simp only[L3,aY,WJ]
def invA (s:CT)(l:List aF):AV :=
 if(kH (ZD s.types) l).2.1=0 then fK ⟨false,(kH (ZD s.types) l).2.2⟩ s else .fA [.sl true [],.int .i64 (kH (ZD s.types) l).2.1]
theorem Dg {s:CT}{l:List aF}{L:List BC}(hs:s.fine)(je:C1 s)(hl:l.length<=380)(bc:∀e∈l,F2 e.mem)(h:ZD L=(kH (ZD s.types) l).2.2)(b:Bool):CT.fine ⟨b,L⟩/\(valid L=0->L.length<=100/\∀t∈L,UP t):=by
 have ho:=PW s l hs je hl bc;rw[<- h]at ho;have rt:=ho.un;have da:L.length<=s.types.length:=by
  have h1:L.length=(ZD L).length:=(yc _).symm;have h2:=Ip (ZD s.types) l;have h3:(ZD s.types).length=s.types.length:=yc _;rw[h]at h1;omega
 have hf:CT.fine ⟨b,L⟩:=⟨yH da hs.1,fun t ht=>by
  obtain⟨h1,h2⟩:=rt.len t ht;exact⟨⟨by omega,by omega,fun m hm=>(rt.mem t ht m hm).1⟩,by omega,by omega⟩⟩
 exact⟨hf,fun hv=>⟨by have:=P2 hv;omega,cW hf hv fun t ht m hm=>(rt.mem t ht m hm).2⟩⟩
theorem Ca (s:CT)(ln:Bool)(l:List aF)(hs:s.fine)(je:C1 s)(hl:l.length<=380)(bc:∀e∈l,F2 e.mem):GR 9 [.agg (xK s),.sl ln (l.map qJ)] (invA s l):=by
 obtain⟨b,L,a1,q1⟩:=dZ s ln l hs je.1 je.2 hl bc;obtain⟨hf,wi⟩:=Dg hs je hl bc q1 b;have hd:=Gu ⟨b,L⟩ s hf hs wi (fun h=>cW hs h fun t ht=>(je.2 t ht).2.2);rw[Wq b false,q1]at hd;refine GJ GH rfl rfl ?_;unfold invA;by_cases h0:(kH (ZD s.types) l).2.1=0
 ·obtain⟨D,e,hD⟩:∃(D:List aF)(e:Int),fK ⟨false,(kH (ZD s.types) l).2.2⟩ s=.fA [SM D,.int .i64 e]:=by
   unfold fK
   repeat' split
   ·exact⟨[],_,rfl⟩
   ·exact⟨[],_,rfl⟩
   ·exact⟨_,_,rfl⟩
   ·exact⟨[],_,rfl⟩
  rw[if_pos h0,hD];rw[hD]at hd;rw[h0]at a1;simp only[GR,xK,SM]at a1 hd ⊢;generalize l.map qJ=ma at *
  generalize L.map GC=mb at *
  generalize D.map qJ=mc at *
  simp[GH,-J,-yb,-y9,y0,a1,hd]
 ·rw [if_neg h0];simp only [GR,xK] at a1 ⊢;generalize l.map qJ=ma at *
  generalize L.map GC=mb at *
  simp[GH,-J,-yb,-y9,y0,a1,h0]
section
inductive G2 {α:Type}(R:α->α->Prop):List α->List α->Prop where
 |nil:G2 R [] []
 |cons {x y:α} {l m:List α}:R x y->G2 R l m->G2 R (x::l) (y::m)
inductive Ee (α:Type) where
 |rem (z:Int)
 |upd (x:α)
 |ins (x:α)
section
variable {α:Type} (f:α->Int)
def FH (l:List α)(z:Int):Bool:=l.any fun m=>decide (f m=z)
def Hf (l:List α):Ee α->List α
 |.rem z=>l.filter fun m=>!decide (f m=z)
 |.upd x=>l.map fun m=>if f m=f x then x else m
 |.ins x=>FQ f x l
def z6 (l:List α):Ee α->Bool
 |.rem z=>FH f l z
 |.upd x=>FH f l (f x)
 |.ins x=>!FH f l (f x)
def GO:List α->List (Ee α)->Option (List α)
 |l,[]=>some l
 |l,o::r=>if z6 f l o=true then GO (Hf f l o) r else none
variable {f}
theorem K1:∀(p q:List (Ee α))(l:List α),GO f l (p++q)=(GO f l p).bind fun m=>GO f m q
 | [],q,l=>rfl
 |o::p,q,l=>by
  rw[List.cons_append,GO,GO];split
  ·exact K1 p q _
  ·rfl
theorem fG {l:List α}{z:Int}:FH f l z=true ↔ ∃m∈l,f m=z:=by
 unfold FH;simp
theorem tT {l:List α}{z:Int}:FH f l z=false ↔ ∀m∈l,f m≠z:=by
 unfold FH;simp
theorem LS {l:List α}(h:uI f l){x y:α}(hx:x∈l)(hy:y∈l)(e:f x=f y):x=y:=by
 obtain⟨i,hi,rfl⟩:=List.mem_iff_getElem.1 hx;obtain⟨j,hj,rfl⟩:=List.mem_iff_getElem.1 hy;rcases Nat.lt_trichotomy i j with h'|h'|h'
 ·have:=List.pairwise_iff_getElem.1 h i j hi hj h';omega
 ·subst h';rfl
 ·have:=List.pairwise_iff_getElem.1 h j i hj hi h';omega
theorem doL_asc {l:List α}{o:Ee α}(h:uI f l)(ho:z6 f l o=true):uI f (Hf f l o):=by
 cases o with
 |rem z=>exact sU _ h
 |upd x=>exact S5 (fun y _=>by split<;>simp[*]) h
 |ins x =>
  refine PV h fun y hy e=>?_
  have:FH f l (f x)=true:=fG.2 ⟨y,hy,e⟩;simp[z6,this]at ho
theorem C8:∀{p:List (Ee α)}{l m:List α},uI f l->GO f l p=some m->uI f m
 | [],l,m,h,hr=>by injection hr with hr;subst hr;exact h
 |o::p,l,m,h,hr=>by
  rw[GO]at hr;split at hr
  ·rename_i ho;exact C8 (doL_asc h ho) hr
  ·cases hr
variable (f)
def Iw (Y l:List α):List (Ee α):=l.flatMap fun m=>if FH f Y (f m)=true then []else [.rem (f m)]
def Mw (c:α->Bool)(l:List α):List (Ee α):=l.flatMap fun m=>if c m=true then [.upd m]else []
def Sq (X l:List α):List (Ee α):=l.flatMap fun m=>if FH f X (f m)=true then []else [.ins m]
variable {f}
theorem A6 (Y:List α):∀(l M:List α),uI f l->(∀m∈l,FH f Y (f m)=false->FH f M (f m)=true)->∃M',GO f M (Iw f Y l)=some M'/\∀m,m∈M'↔m∈M/\¬ ∃a∈l,f a=f m/\FH f Y (f a)=false
 | [],M,_,_=>⟨M,rfl,fun m=>by simp⟩
 |a::r,M,hl,h=>by
  obtain⟨h1,h2⟩:=Y0f.1 hl;unfold Iw;rw[Y0a];cases hy:FH f Y (f a)with
  |true =>
   obtain⟨M',g1,g2⟩:=A6 Y r M h2 fun m hm=>h m (yp _ hm)
   refine⟨M',g1,fun m=>?_⟩;rw[g2 m];simp[hy]
  |false =>
   have ha:=h a (yo ..) hy;obtain⟨M',g1,g2⟩:=A6 Y r (M.filter fun m=>!decide (f m=f a)) h2 fun m hm hn=>by
    obtain⟨x,hx,hxm⟩:=fG.1 (h m (yp _ hm) hn);have:=h1 m hm;exact fG.2 ⟨x,List.mem_filter.2 ⟨hx,by simp;omega⟩,hxm⟩
   refine⟨M',?_,fun m=>?_⟩
   ·simp only[yM,if_false,List.cons_append,Y00];rw[GO,if_pos (show z6 f M (.rem (f a))=true from ha)];exact g1
   ·rw [g2 m,List.mem_filter];constructor
    ·rintro ⟨⟨k1,k2⟩,k3⟩;refine ⟨k1,?_⟩;rintro ⟨b,hb,e,hn⟩;rcases yt.1 hb with rfl | hb
     ·simp[e]at k2
     ·exact k3 ⟨b,hb,e,hn⟩
    ·rintro ⟨k1,k2⟩;refine ⟨⟨k1,?_⟩,fun ⟨b,hb,e,hn⟩=>k2 ⟨b,yp _ hb,e,hn⟩⟩;by_cases e:f m=f a
     ·exact absurd ⟨a,yo ..,e.symm,hy⟩ k2
     ·simp[e]
theorem C6 (c:α->Bool):∀(l M:List α),uI f l->(∀m∈l,c m=true->FH f M (f m)=true)->∃M',GO f M (Mw c l)=some M'/\∀m,m∈M'↔(m∈M/\¬ ∃a∈l,c a=true/\f a=f m)\/(m∈l/\c m=true)
 | [],M,_,_=>⟨M,rfl,fun m=>by simp⟩
 |a::r,M,hl,h=>by
  obtain⟨h1,h2⟩:=Y0f.1 hl;unfold Mw;rw[Y0a];cases hc:c a with
  |false =>
   obtain⟨M',g1,g2⟩:=C6 c r M h2 fun m hm=>h m (yp _ hm)
   refine⟨M',g1,fun m=>?_⟩;rw[g2 m];constructor
   ·rintro (⟨k1,k2⟩ | ⟨k1,k2⟩)
    ·refine .inl ⟨k1,?_⟩;rintro ⟨b,hb,e1,e2⟩;rcases yt.1 hb with rfl | hb
     ·rw[hc]at e1;cases e1
     ·exact k2 ⟨b,hb,e1,e2⟩
    ·exact .inr ⟨yp _ k1,k2⟩
   ·rintro (⟨k1,k2⟩ | ⟨k1,k2⟩)
    ·exact .inl ⟨k1,fun⟨b,hb,e⟩=>k2 ⟨b,yp _ hb,e⟩⟩
    ·rcases yt.1 k1 with rfl | k1
     ·rw[hc]at k2;cases k2
     ·exact .inr ⟨k1,k2⟩
  |true =>
   have ha:=h a (yo ..) hc;obtain⟨M',g1,g2⟩:=C6 c r (M.map fun m=>if f m=f a then a else m) h2 fun m hm hn=>by
    obtain⟨x,hx,hxm⟩:=fG.1 (h m (yp _ hm) hn);have:=h1 m hm;exact fG.2 ⟨x,yD.2 ⟨x,hx,if_neg (by omega)⟩,hxm⟩
   have hM:∀m,m∈(M.map fun m=>if f m=f a then a else m)↔(m∈M/\¬f m=f a)\/m=a:=fun m=>by
    rw[yD];constructor
    ·rintro ⟨x,hx,e⟩;split at e
     ·exact .inr e.symm
     ·rename_i ua;subst e;exact .inl ⟨hx,ua⟩
    ·rintro (⟨k1,k2⟩ | rfl)
     ·exact⟨m,k1,if_neg k2⟩
     ·obtain⟨x,hx,e⟩:=fG.1 ha;exact⟨x,hx,if_pos e⟩
   refine⟨M',?_,fun m=>?_⟩
   ·simp only[if_true,List.cons_append,Y00];rw[GO,if_pos (show z6 f M (.upd a)=true from ha)];exact g1
   ·rw [g2 m,hM m];constructor
    ·rintro (⟨⟨k1,k2⟩ | rfl,k3⟩ | ⟨k1,k2⟩)
     ·refine .inl ⟨k1,?_⟩;rintro ⟨b,hb,e1,e2⟩;rcases yt.1 hb with rfl | hb
      ·exact k2 e2.symm
      ·exact k3 ⟨b,hb,e1,e2⟩
     ·exact .inr ⟨yo ..,hc⟩
     ·exact .inr ⟨yp _ k1,k2⟩
    ·rintro (⟨k1,k2⟩ | ⟨k1,k2⟩)
     ·exact .inl ⟨.inl ⟨k1,fun e=>k2 ⟨a,yo ..,hc,e.symm⟩⟩,fun⟨b,hb,e⟩=>k2 ⟨b,yp _ hb,e⟩⟩
     ·rcases yt.1 k1 with rfl | k1
      ·exact .inl ⟨.inr rfl,fun⟨b,hb,_,e⟩=>by have:=h1 b hb;omega⟩
      ·exact .inr ⟨k1,k2⟩
theorem Z5 (X:List α):∀(l M:List α),uI f l->(∀m∈l,FH f X (f m)=false->FH f M (f m)=false)->∃M',GO f M (Sq f X l)=some M'/\∀m,m∈M'↔m∈M\/(m∈l/\FH f X (f m)=false)
 | [],M,_,_=>⟨M,rfl,fun m=>by simp⟩
 |a::r,M,hl,h=>by
  obtain⟨h1,h2⟩:=Y0f.1 hl;unfold Sq;rw[Y0a];cases hy:FH f X (f a)with
  |true =>
   obtain⟨M',g1,g2⟩:=Z5 X r M h2 fun m hm=>h m (yp _ hm)
   refine⟨M',g1,fun m=>?_⟩;rw[g2 m];constructor
   ·rintro (k | ⟨k1,k2⟩)
    ·exact .inl k
    ·exact .inr ⟨yp _ k1,k2⟩
   ·rintro (k | ⟨k1,k2⟩)
    ·exact .inl k
    ·rcases yt.1 k1 with rfl | k1
     ·rw[hy]at k2;cases k2
     ·exact .inr ⟨k1,k2⟩
  |false =>
   have ha:=h a (yo ..) hy;obtain⟨M',g1,g2⟩:=Z5 X r (FQ f a M) h2 fun m hm hn=>by
    have h3:=tT.1 (h m (yp _ hm) hn);refine tT.2 fun x hx=>?_
    rcases jS.1 hx with rfl|hx
    ·have:=h1 m hm;omega
    ·exact h3 x hx
   refine⟨M',?_,fun m=>?_⟩
   ·simp only[yM,if_false,List.cons_append,Y00];rw[GO,if_pos (show z6 f M (.ins a)=true from by simp[z6,ha])];exact g1
   ·rw [g2 m,jS];constructor
    ·rintro ((rfl | k) | ⟨k1,k2⟩)
     ·exact .inr ⟨yo ..,hy⟩
     ·exact .inl k
     ·exact .inr ⟨yp _ k1,k2⟩
    ·rintro (k | ⟨k1,k2⟩)
     ·exact .inl (.inr k)
     ·rcases yt.1 k1 with rfl | k1
      ·exact .inl (.inl rfl)
      ·exact .inr ⟨k1,k2⟩
variable (f)
def FR (sm:α->α->Bool)(X:List α)(m:α):Bool:=X.any fun a=>decide (f a=f m)&&!sm a m
def fS (sm:α->α->Bool)(X Y:List α):List (Ee α):=Iw f Y X++(Mw (FR f sm X) Y++Sq f X Y)
variable {f}
theorem L7 (sm:α->α->Bool)(X' X Y:List α)(hX':uI f X')(hX:uI f X)(hY:uI f Y)(hk:∀z,FH f X' z=FH f X z):∃F,GO f X' (fS f sm X Y)=some F/\uI f F/\(∀y∈Y,∃x∈F,f x=f y/\(x=y\/x∈X'/\∃a∈X,f a=f y/\sm a y=true))/\∀x∈F,∃y∈Y,f x=f y/\(x=y\/x∈X'/\∃a∈X,f a=f y/\sm a y=true):=by
 obtain⟨M1,a1,b1⟩:=A6 (f:=f) Y X X' hX fun m hm _=>by rw[hk];exact fG.2 ⟨m,hm,rfl⟩
 have k1:∀y∈Y,FH f X (f y)=true->∃x∈M1,f x=f y/\x∈X':=fun y hy h=>by
  rw[<- hk]at h;obtain⟨x,hx,e⟩:=fG.1 h;refine⟨x,(b1 x).2 ⟨hx,?_⟩,e,hx⟩;rintro⟨b,hb,e',hn⟩;exact tT.1 hn y hy (by omega)
 have hcX:∀y,FR f sm X y=true->FH f X (f y)=true:=fun y h=>by
  unfold FR at h;obtain⟨a,ha,h⟩:=List.any_eq_true.1 h;rw[yg]at h;exact fG.2 ⟨a,ha,of_decide_eq_true h.1⟩
 obtain⟨M2,a2,b2⟩:=C6 (f:=f) (FR f sm X) Y M1 hY fun y hy h=>by
  obtain⟨x,hx,e,_⟩:=k1 y hy (hcX y h);exact fG.2 ⟨x,hx,e⟩
 obtain⟨F,a3,b3⟩:=Z5 (f:=f) X Y M2 hY fun y hy h=>by
  refine tT.2 fun x hx e=>?_
  rcases(b2 x).1 hx with⟨hx,_⟩|⟨hx,hc⟩
  ·have:=((b1 x).1 hx).1;have:FH f X (f y)=true:=by rw [<- hk]; exact fG.2 ⟨x,this,e⟩
   rw[this]at h;cases h
  ·have:=hcX x hc;rw[e,h]at this;cases this
 have oa:GO f X' (fS f sm X Y)=some F:=by
  unfold fS;rw[K1,a1,J,K1,a2,J,a3]
 have same_of:∀y∈Y,FH f X (f y)=true->FR f sm X y=false->∃a∈X,f a=f y/\sm a y=true:=fun y _ h hc=>by
  obtain⟨a,ha,e⟩:=fG.1 h;refine⟨a,ha,e,?_⟩;have:=List.any_eq_false.1 hc a ha;simpa [e]using this
 refine⟨F,oa,C8 hX' oa,fun y hy=>?_,fun x hx=>?_⟩
 ·cases hX0:FH f X (f y) with
  |false=>exact⟨y,(b3 y).2 (.inr ⟨hy,hX0⟩),rfl,.inl rfl⟩
  |true =>
   cases hc:FR f sm X y with
   |true=>exact⟨y,(b3 y).2 (.inl ((b2 y).2 (.inr ⟨hy,hc⟩))),rfl,.inl rfl⟩
   |false =>
    obtain⟨x,hx,e,ci⟩:=k1 y hy hX0;refine⟨x,(b3 x).2 (.inl ((b2 x).2 (.inl ⟨hx,?_⟩))),e,.inr ⟨ci,same_of y hy hX0 hc⟩⟩;rintro⟨b,hb,hcb,e'⟩;have:=LS hY hb hy (by omega);subst this;rw[hc]at hcb;cases hcb
 ·rcases (b3 x).1 hx with hx | ⟨hx,_⟩
  ·rcases (b2 x).1 hx with ⟨hx,hn⟩ | ⟨hx,_⟩
   ·obtain ⟨ci,im⟩:=(b1 x).1 hx;have hXx:FH f X (f x)=true:=by rw [<- hk]; exact fG.2 ⟨x,ci,rfl⟩
    obtain⟨a,ha,ea⟩:=fG.1 hXx;have hy:FH f Y (f a)=true:=by
     cases h:FH f Y (f a)with
     |true=>rfl
     |false=>exact absurd ⟨a,ha,ea,h⟩ im
    obtain⟨y,hy,ey⟩:=fG.1 hy;have hc:FR f sm X y=false:=by
     cases h:FR f sm X y with
     |false=>rfl
     |true=>exact absurd ⟨y,hy,h,by omega⟩ hn
    exact⟨y,hy,by omega,.inr ⟨ci,same_of y hy (by rw[ey,ea];exact hXx) hc⟩⟩
   ·exact⟨x,hx,rfl,.inl rfl⟩
  ·exact⟨x,hx,rfl,.inl rfl⟩
theorem KU {P:α->α->Prop}:∀{F Y:List α},uI f F->uI f Y->(∀y∈Y,∃x∈F,f x=f y/\P x y)->(∀x∈F,∃y∈Y,f x=f y/\P x y)->G2 (fun x y=>f x=f y/\P x y) F Y
 | [],[],_,_,_,_=>.nil
 | [],y::Y,_,_,h1,_=>by obtain⟨x,hx,_⟩:=h1 y (yo ..);cases hx
 |x::F,[],_,_,_,h2=>by obtain⟨y,hy,_⟩:=h2 x (yo ..);cases hy
 |x::F,y::Y,hF,hY,h1,h2=>by
  obtain⟨p1,p2⟩:=Y0f.1 hF;obtain⟨q1,q2⟩:=Y0f.1 hY;have e:f x=f y/\P x y:=by
   obtain⟨y',nk,e1,r1⟩:=h2 x (yo ..);obtain⟨x',ci,e2,_⟩:=h1 y (yo ..);rcases yt.1 nk with rfl|nk
   ·exact⟨e1,r1⟩
   ·have:=q1 y' nk;rcases yt.1 ci with rfl | ci
    ·omega
    ·have:=p1 x' ci;omega
  refine .cons e (KU p2 q2 (fun z hz=>?_) fun z hz=>?_)
  ·obtain ⟨x',ci,e2,r2⟩:=h1 z (yp _ hz);have:=q1 z hz;rcases yt.1 ci with rfl | ci
   ·omega
   ·exact⟨x',ci,e2,r2⟩
  ·obtain ⟨y',nk,e2,r2⟩:=h2 z (yp _ hz);have:=p1 z hz;rcases yt.1 nk with rfl | nk
   ·omega
   ·exact⟨y',nk,e2,r2⟩
theorem K7 {sm:α->α->Bool}{X Y:List α}(hX:uI f X)(hY:uI f Y):fS f sm X Y=[]↔G2 (fun x y=>f x=f y/\sm x y=true) X Y:=by
 constructor
 ·intro h;unfold fS Iw Mw Sq at h;simp only[List.append_eq_nil_iff,List.flatMap_eq_nil_iff]at h;obtain⟨h1,h2,h3⟩:=h;have a1:∀x∈X,FH f Y (f x)=true:=fun x hx=>by
   cases c:FH f Y (f x)with
   |true=>rfl
   |false=>have:=h1 x hx;simp[c]at this
  have a3:∀y∈Y,FH f X (f y)=true:=fun x hx=>by
   cases c:FH f X (f x)with
   |true=>rfl
   |false=>have:=h3 x hx;simp[c]at this
  have a2:∀y∈Y,∀x∈X,f x=f y->sm x y=true:=fun y hy x hx e=>by
   have hc:FR f sm X y=false:=by
    cases c:FR f sm X y with
    |false=>rfl
    |true=>have:=h2 y hy;simp[c]at this
   have:=List.any_eq_false.1 hc x hx;simpa [e]using this
  refine KU hX hY (fun y hy=>?_) fun x hx=>?_
  ·obtain⟨x,hx,e⟩:=fG.1 (a3 y hy);exact⟨x,hx,e,a2 y hy x hx e⟩
  ·obtain⟨y,hy,e⟩:=fG.1 (a1 x hx);exact⟨y,hy,e.symm,a2 y hy x hx e.symm⟩
 ·intro h;have fx:∀{X Y:List α},G2 (fun x y=>f x=f y/\sm x y=true) X Y->(∀x∈X,∃y∈Y,f x=f y/\sm x y=true)/\∀y∈Y,∃x∈X,f x=f y/\sm x y=true:=by
   intro X Y h
   induction h with
   |nil =>
    constructor
    ·intro x hx;cases hx
    ·intro x hx;cases hx
   |cons h _ ih =>
    refine⟨fun x hx=>?_,fun y hy=>?_⟩
    ·rcases yt.1 hx with rfl | hx
     ·exact⟨_,yo ..,h⟩
     ·obtain⟨y,hy,e⟩:=ih.1 x hx;exact⟨y,yp _ hy,e⟩
    ·rcases yt.1 hy with rfl | hy
     ·exact⟨_,yo ..,h⟩
     ·obtain⟨x,hx,e⟩:=ih.2 y hy;exact⟨x,yp _ hx,e⟩
  obtain⟨g1,g2⟩:=fx h;unfold fS Iw Mw Sq;simp only[List.append_eq_nil_iff,List.flatMap_eq_nil_iff];refine⟨fun x hx=>?_,fun y hy=>?_,fun y hy=>?_⟩
  ·obtain⟨y,hy,e,_⟩:=g1 x hx;rw[if_pos (fG.2 ⟨y,hy,e.symm⟩)]
  ·obtain⟨x,hx,e,es⟩:=g2 y hy;have:FR f sm X y=false:=by
    unfold FR;refine List.any_eq_false.2 fun z hz=>?_
    by_cases ez:f z=f y
    ·have:=LS hX hz hx (by omega);subst this;simp[es]
    ·simp[ez]
   simp[this]
  ·obtain⟨x,hx,e,_⟩:=g2 y hy;rw[if_pos (fG.2 ⟨x,hx,e⟩)]
end
end
end Go.Proofs.YtpmklcpajcfpjaaGreatDoor
