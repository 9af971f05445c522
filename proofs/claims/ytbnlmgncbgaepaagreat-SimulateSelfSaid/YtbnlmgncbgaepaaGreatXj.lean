/- A part of the proof. -/
import Derived.Test.YtbnlmgncbgaepaaGreatXi
set_option linter.all false
set_option maxRecDepth 100000
set_option maxHeartbeats 8000000
open Option renaming bind_some → V
open List renaming range_succ → J, map_map → y0, getElem?_eq_getElem → y4, getElem_mem → y6, drop_eq_getElem_cons → yb, drop_eq_nil_of_le → ye, mem_cons_self → yk, mem_cons_of_mem → yp, map_congr_left → yq, getElem_of_mem → yB, replicate → yD, mem_map_of_mem → yN
open Int renaming toNat_lt → y3
namespace Go.Proofs.YtbnlmgncbgaepaaGreat
open Go
section
abbrev uF:=Nat->Int
def fM (N:Nat) (v:uF):Prop:=∀ j,j<N->0<=v j/\v j<=2
structure pY (N:Nat) (F:Nat->uF->Int):Prop where
 mono:∀ u v,fM N u->fM N v->(∀ j,j<N->u j<=v j)->∀ i,i<N->F i u<=F i v
 rng:∀ u,fM N u->∀ i,i<N->0<=F i u/\F i u<=2
def upd (F:Nat->uF->Int) (v:uF) (i:Nat):uF:=fun j=>if j=i then F i v else v j
structure CP (N:Nat) (F:Nat->uF->Int) (v:uF):Prop where
 rng:fM N v
 post:∀ j,j<N->v j<=F j v
 least:∀ m,fM N m->(∀ j,j<N->F j m<=m j)->∀ j,j<N->v j<=m j
def cM:Nat->uF->Int
 | 0,_=>0
 | n + 1,v=>cM n v + v n
theorem tV (v:uF):∀ N,fM N v->cM N v<=2 * N
 | 0,_=>by simp [cM]
 | n + 1,h=>by
  have:=tV v n fun j hj=>h j (by omega)
  have:=h n (by omega);simp only [cM];omega
theorem G1 (v:uF):∀ N,fM N v->0<=cM N v
 | 0,_=>by simp [cM]
 | n + 1,h=>by
  have:=G1 v n fun j hj=>h j (by omega)
  have:=h n (by omega);simp only [cM];omega
theorem fZ (v w:uF):∀ N,(∀ j,j<N->v j=w j)->cM N v=cM N w
 | 0,_=>rfl
 | n + 1,h=>by simp only [cM,fZ v w n fun j hj=>h j (by omega),h n (by omega)]
theorem cP (F:Nat->uF->Int) (v:uF) (i:Nat):∀ N,i<N->cM N (upd F v i)=cM N v + (F i v - v i)
 | 0,h=>by omega
 | n + 1,h=>by
  simp only [cM];by_cases e:i=n
  ·subst e;rw [fZ (upd F v i) v i fun j hj=>by simp [upd,show ¬ j=i from by omega]];simp only [upd,if_true];omega
  ·rw [cP F v i n (by omega)];have:upd F v i n=v n:=by simp [upd,show ¬ n=i from fun e'=>e e'.symm]
   omega
section
variable {N:Nat} {F:Nat->uF->Int}
theorem CP.zero (G:pY N F):CP N F (fun _=>0):=by
 refine ⟨fun j hj=>by omega,fun j hj=>(G.rng _ (fun j hj=>by omega) j hj).1,fun m hm _ j hj=>(hm j hj).1⟩
theorem upd_ge {v:uF} (h:CP N F v) {i:Nat} (hi:i<N) (j:Nat):v j<=upd F v i j:=by
 unfold upd;split
 ·rename_i e; subst e; exact h.post _ hi
 ·exact Int.le_refl _
theorem upd_rng (G:pY N F) {v:uF} (h:CP N F v) {i:Nat} (hi:i<N):fM N (upd F v i):=fun j hj=>by
 unfold upd;split
 ·exact G.rng v h.rng i hi
 ·exact h.rng j hj
theorem CP.upd (G:pY N F) {v:uF} (h:CP N F v) {i:Nat} (hi:i<N):CP N F (upd F v i):=by
 have hr:=upd_rng G h hi;refine ⟨hr,fun j hj=>?_,fun m hm hp j hj=>?_⟩
 ·have hm:=G.mono v (Go.Proofs.YtbnlmgncbgaepaaGreat.upd F v i) h.rng hr (fun j _=>upd_ge h hi j) j hj;unfold Go.Proofs.YtbnlmgncbgaepaaGreat.upd at hm ⊢;by_cases e:j=i
  ·subst e; simp only [if_true]; exact hm
  ·simp only [if_neg e]; have:=h.post j hj; omega
 ·unfold Go.Proofs.YtbnlmgncbgaepaaGreat.upd;split
  ·rename_i e; subst e;have:=G.mono v m h.rng hm (h.least m hm hp) j hj;have:=hp j hj;omega
  ·exact h.least m hm hp j hj
theorem upd_same {v:uF} {i:Nat} (h:F i v=v i):upd F v i=v:=by
 funext j;unfold upd;split
 ·rename_i e; subst e; exact h
 ·rfl
end
end
def FC (N:Nat) (v:uF):List (List AV):=(List.range N).map fun i=>[AV.int .i64 (v i)]
theorem ES (N:Nat) (v:uF):(FC N v).length=N:=by simp [FC]
theorem WS (N:Nat) (v:uF):lB 1 (FC N v)=true:=cC _ _ _ fun _=>rfl
theorem vecC_free (N:Nat) (v:uF):SD (FC N v)=true:=qL _ _ fun _=>rfl
theorem NE {N:Nat} (v:uF) {t:Int} (h:0<=t/\t<N):(FC N v)[t.toNat]?=some [.int .i64 (v t.toNat)]:=by
 have:t.toNat<N:=by omega
 simp [FC,this]
theorem vecC_set {N:Nat} (v w:uF) {i:Nat} {x:Int} (hi:w i=x) (h:∀ j,j≠i->w j=v j):(FC N v).set i [.int .i64 x]=FC N w:=by
 apply List.ext_getElem?;intro j;by_cases e:j=i
 ·subst e;by_cases hj:j<N
  ·simp [FC,hj,hi]
  ·simp [FC,hj]
 ·rw [List.getElem?_set_ne (fun e'=>e e'.symm)];by_cases hj:j<N
  ·simp [FC,hj,h j e]
  ·simp [FC,hj]
def lO (v:uF):List BB->Int->Int
 | [],c=>c
 | m :: r,c=>lO v r (min 2 (c * v m.ty.toNat))
def LU (v:uF):List BB->Int->Int
 | [],c=>c
 | m :: r,c=>LU v r (c + v m.ty.toNat)
def SS (v:uF):List BB->Int->Int
 | [],c=>c
 | m :: r,c=>SS v r (min 2 (c + v m.ty.toNat))
def kF (x:fA) (v:uF):Int :=
 if x.kind=2 then (if x.low=x.high then 1 else 2)
 else if x.kind=3 then (if x.max=0 then 1 else 2)
 else if x.kind=4 then x.syms.length
 else if x.kind=5 then lO v x.mems 1
 else if x.kind=6 then LU v x.mems 0
 else if x.kind=7 then (if x.max=0\/v x.elem.toNat=0 then 1 else 2)
 else if x.kind=8 then (if x.max=0\/v x.elem.toNat=0\/v x.key.toNat=0 then 1 else 2)
 else if x.kind=9 then 1 + v x.elem.toNat
 else 2
def KG (x:fA) (v:uF):Int :=
 if x.kind=2 then (if x.low=x.high then 1 else 2)
 else if x.kind=3 then (if x.max=0 then 1 else 2)
 else if x.kind=4 then min 2 x.syms.length
 else if x.kind=5 then lO v x.mems 1
 else if x.kind=6 then SS v x.mems 0
 else if x.kind=7\/x.kind=8 then (if x.max=0\/v x.elem.toNat=0 then 1 else 2)
 else if x.kind=9 then min 2 (1 + v x.elem.toNat)
 else 2
structure mD (N:Nat) (x:fA):Prop where
 mems:∀ m∈x.mems,0<=m.ty/\m.ty<N
 few:x.mems.length<=16
 elem:7<=x.kind->0<=x.elem/\x.elem<N
 key:x.kind=8->0<=x.key/\x.key<N
theorem MW {N:Nat} {v:uF} (hv:fM N v):∀ (l:List BB) (c:Int),(∀ m∈l,0<=m.ty/\m.ty<N)->0<=c/\c<=2->0<=lO v l c/\lO v l c<=2
 | [],c,_,hc=>hc
 | m :: r,c,hm,hc=>by
  have h1:=hm m yk;have h2:=hv m.ty.toNat (by omega);refine MW hv r _ (fun m' h=>hm m' (yp _ h)) ?_;have:0<=c * v m.ty.toNat:=Int.mul_nonneg hc.1 h2.1;omega
theorem s3 {N:Nat} {v:uF} (hv:fM N v):∀ (l:List BB) (c:Int),(∀ m∈l,0<=m.ty/\m.ty<N)->0<=c/\c<=2->0<=SS v l c/\SS v l c<=2
 | [],c,_,hc=>hc
 | m :: r,c,hm,hc=>by
  have h1:=hm m yk;have h2:=hv m.ty.toNat (by omega);refine s3 hv r _ (fun m' h=>hm m' (yp _ h)) ?_;omega
theorem cap_sum {N:Nat} {v:uF} (hv:fM N v):∀ (l:List BB) (c:Int),(∀ m∈l,0<=m.ty/\m.ty<N)->SS v l (min 2 c)=min 2 (LU v l c)
 | [],c,_=>rfl
 | m :: r,c,hm=>by
  have h1:=hm m yk;have h2:=hv m.ty.toNat (by omega);rw [SS,LU,<- cap_sum hv r _ (fun m' h=>hm m' (yp _ h))];congr 1;omega
theorem gW {a b c d:Int} (h1:0<=a) (h2:a<=b) (h3:0<=c) (h4:c<=d):a * c<=b * d:=Int.mul_le_mul h2 h4 h3 (by omega)
theorem qZ {N:Nat} {u v:uF} (hu:fM N u) (hv:fM N v) (dp:∀ j,j<N->u j<=v j):∀ (l:List BB) (c d:Int),(∀ m∈l,0<=m.ty/\m.ty<N)->0<=c->c<=d->d<=2->lO u l c<=lO v l d
 | [],c,d,_,_,h,_=>h
 | m :: r,c,d,hm,h0,h,hd=>by
  have h1:=hm m yk;have h2:=hu m.ty.toNat (by omega);have h4:=dp m.ty.toNat (by omega);have h5:=gW h0 h h2.1 h4;have h6:0<=c * u m.ty.toNat:=Int.mul_nonneg h0 h2.1;exact qZ hu hv dp r _ _ (fun m' h=>hm m' (yp _ h)) (by omega) (by omega) (by omega)
theorem kY {N:Nat} {u v:uF} (hu:fM N u) (hv:fM N v) (dp:∀ j,j<N->u j<=v j):∀ (l:List BB) (c d:Int),(∀ m∈l,0<=m.ty/\m.ty<N)->c<=d->SS u l c<=SS v l d
 | [],c,d,_,h=>h
 | m :: r,c,d,hm,h=>by
  have h1:=hm m yk;have h4:=dp m.ty.toNat (by omega);exact kY hu hv dp r _ _ (fun m' h=>hm m' (yp _ h)) (by omega)
theorem E3 {N:Nat} {v:uF} (hv:fM N v) {x:fA} (hx:mD N x):0<=KG x v/\KG x v<=2:=by
 unfold KG
 repeat' split
 all_goals first
  | omega
  | exact MW hv _ _ hx.mems (by omega)
  | exact s3 hv _ _ hx.mems (by omega)
  | (have:=hx.elem (by omega); have:=hv x.elem.toNat (by omega); omega)
theorem CO {N:Nat} {v:uF} (hv:fM N v) {x:fA} (hx:mD N x) (hk:x.kind≠8):min 2 (kF x v)=KG x v:=by
 unfold KG kF;by_cases h5:x.kind=5
 ·have:=MW hv x.mems 1 hx.mems (by omega);simp [h5];omega
 ·by_cases h6:x.kind=6
  ·have:=cap_sum hv x.mems 0 hx.mems;simp [h6];exact this.symm
  ·by_cases h7:x.kind=7
   ·simp [h7]; split <;> rfl
   ·simp only [h5,h6,h7,hk,if_false,or_self]
    repeat' split
    all_goals rfl
theorem mV {v:uF} {x:fA} (hk:x.kind=8):min 2 (kF x v)=if x.max=0\/v x.elem.toNat=0\/v x.key.toNat=0 then 1 else 2:=by
 simp [kF,hk];split <;> rfl
theorem cntR_8 {v:uF} {x:fA} (hk:x.kind=8):KG x v=if x.max=0\/v x.elem.toNat=0 then 1 else 2:=by simp [KG,hk]
theorem lY {N:Nat} {u v:uF} (hu:fM N u) (hv:fM N v) (dp:∀ j,j<N->u j<=v j) {x:fA} (hx:mD N x):KG x u<=KG x v:=by
 have he:7<=x.kind->0<=u x.elem.toNat/\u x.elem.toNat<=v x.elem.toNat:=fun h=>by
  have:=hx.elem h;exact ⟨(hu _ (by omega)).1,dp _ (by omega)⟩
 unfold KG;by_cases h5:x.kind=5
 ·simp [h5]; exact qZ hu hv dp _ _ _ hx.mems (by omega) (by omega) (by omega)
 ·by_cases h6:x.kind=6
  ·simp [h6]; exact kY hu hv dp _ _ _ hx.mems (by omega)
  ·by_cases h7:x.kind=7\/x.kind=8
   ·have:=he (by omega);have h2:¬ x.kind=2:=by omega
    have h3:¬ x.kind=3:=by omega
    have h4:¬ x.kind=4:=by omega
    simp only [h2,h3,h4,h5,h6,h7,if_true,if_false];split <;> split <;> omega
   ·by_cases h9:x.kind=9
    ·have:=he (by omega);simp [h9]; omega
    ·simp only [h5,h6,h7,h9,if_false]
     repeat' split
     all_goals omega
def FP (S:List fA) (i:Nat) (v:uF):Int:=match S[i]? with
 | some x=>min 2 (kF x v)
 | none=>0
def FR (S:List fA) (i:Nat) (v:uF):Int:=match S[i]? with
 | some x=>KG x v
 | none=>0
theorem W2 {S:List fA} (hS:∀ x∈S,mD S.length x):pY S.length (FR S):=by
 refine ⟨fun u v hu hv dp i hi=>?_,fun u hu i hi=>?_⟩
 ·unfold FR;rw [y4 hi];exact lY hu hv dp (hS _ (y6 _))
 ·unfold FR;rw [y4 hi];exact E3 hu (hS _ (y6 _))
theorem FP_rng {N:Nat} {v:uF} (hv:fM N v) {x:fA} (hx:mD N x):0<=min 2 (kF x v)/\min 2 (kF x v)<=2:=by
 by_cases h8:x.kind=8
 ·rw [mV h8]; split <;> omega
 ·rw [CO hv hx h8]; exact E3 hv hx
theorem Q2 {S:List fA} (hS:∀ x∈S,mD S.length x):pY S.length (FP S):=by
 refine ⟨fun u v hu hv dp i hi=>?_,fun u hu i hi=>?_⟩
 ·unfold FP;rw [y4 hi];have hx:=hS _ (y6 hi);simp only;by_cases h8:S[i].kind=8
  ·rw [mV h8,mV h8];have h1:=hx.elem (by omega);have h2:=hx.key h8;have:=hu S[i].elem.toNat (by omega);have:=dp S[i].elem.toNat (by omega);have:=hu S[i].key.toNat (by omega);have:=dp S[i].key.toNat (by omega);split <;> split <;> omega
  ·rw [CO hu hx h8,CO hv hx h8];exact lY hu hv dp hx
 ·unfold FP;rw [y4 hi];exact FP_rng hu (hS _ (y6 _))
theorem FPR {S:List fA} (hS:∀ x∈S,mD S.length x) (hk:∀ x∈S,x.kind=8->∀ v,fM S.length v->1<=FP S x.key.toNat v) {v w:uF} (hv:CP S.length (FP S) v) (hvf:∀ j,j<S.length->FP S j v=v j) (hw:CP S.length (FR S) w) (hwf:∀ j,j<S.length->FR S j w=w j):∀ j,j<S.length->v j=w j:=by
 have e:∀ j,j<S.length->FR S j v=FP S j v:=fun j hj=>by
  unfold FR FP;rw [y4 hj];have hx:=hS _ (y6 hj);simp only;by_cases h8:S[j].kind=8
  ·rw [mV h8,cntR_8 h8];have h2:=hx.key h8;have:=hk _ (y6 hj) h8 v hv.rng;rw [hvf _ (by omega)] at this;have:¬ v S[j].key.toNat=0:=by omega
   simp [this]
  ·exact (CO hv.rng hx h8).symm
 have ab:∀ u,fM S.length u->∀ j,j<S.length->FP S j u<=FR S j u:=fun u hu j hj=>by
  unfold FR FP;rw [y4 hj];have hx:=hS _ (y6 hj);simp only;by_cases h8:S[j].kind=8
  ·rw [mV h8,cntR_8 h8]; split <;> split <;> omega
  ·rw [CO hu hx h8]; exact Int.le_refl _
 have h1:∀ j,j<S.length->w j<=v j:=hw.least v hv.rng fun j hj=>by rw [e j hj,hvf j hj]; exact Int.le_refl _
 have h2:∀ j,j<S.length->v j<=w j:=hv.least w hw.rng fun j hj=>by rw [<- hwf j hj]; exact ab w hw.rng j hj
 intro j hj;have:=h1 j hj;have:=h2 j hj;omega
section
variable {N:Nat} {v:uF} (hv:fM N v) {x:fA} (hx:mD N x)
include N v hv x hx
theorem cr_ev1 (h:x.kind=1):gA 207 [.agg (eA x),.bl (FC N v)] (.int .i64 (KG x v)):=by
 refine wA (c:=FA) rfl rfl ?_;simp [FA,-V,-y3,-y0,J,eA,h,KG]
theorem cr_ev2 (h:x.kind=2):gA 207 [.agg (eA x),.bl (FC N v)] (.int .i64 (KG x v)):=by
 refine wA (c:=FA) rfl rfl ?_;by_cases c1:x.low=x.high
 ·simp [FA,-V,-y3,-y0,J,eA,h,KG,c1]
 ·simp [FA,-V,-y3,-y0,J,eA,h,KG,c1]
theorem cr_ev3 (h:x.kind=3):gA 207 [.agg (eA x),.bl (FC N v)] (.int .i64 (KG x v)):=by
 refine wA (c:=FA) rfl rfl ?_;by_cases c1:x.max=0
 ·simp [FA,-V,-y3,-y0,J,eA,h,KG,c1]
 ·simp [FA,-V,-y3,-y0,J,eA,h,KG,c1]
theorem cr_ev4 (h:x.kind=4):gA 207 [.agg (eA x),.bl (FC N v)] (.int .i64 (KG x v)):=by
 refine wA (c:=FA) rfl rfl ?_;simp [FA,-V,-y3,-y0,J,eA,h,KG]
theorem cr_ev7 (h:x.kind=7):gA 207 [.agg (eA x),.bl (FC N v)] (.int .i64 (KG x v)):=by
 refine wA (c:=FA) rfl rfl ?_;have zc:=hx.elem (by omega);have gel:=NE v zc;have ic:=zc.1;by_cases c1:x.max=0
 ·simp [FA,-V,-y3,-y0,J,eA,h,KG,c1]
 ·by_cases c2:v x.elem.toNat=0
  ·simp [FA,-V,-y3,-y0,J,eA,h,KG,c1,c2,gel,ic]
  ·simp [FA,-V,-y3,-y0,J,eA,h,KG,c1,c2,gel,ic]
theorem cr_ev8 (h:x.kind=8):gA 207 [.agg (eA x),.bl (FC N v)] (.int .i64 (KG x v)):=by
 refine wA (c:=FA) rfl rfl ?_;have zc:=hx.elem (by omega);have gel:=NE v zc;have ic:=zc.1;by_cases c1:x.max=0
 ·simp [FA,-V,-y3,-y0,J,eA,h,KG,c1]
 ·by_cases c2:v x.elem.toNat=0
  ·simp [FA,-V,-y3,-y0,J,eA,h,KG,c1,c2,gel,ic]
  ·simp [FA,-V,-y3,-y0,J,eA,h,KG,c1,c2,gel,ic]
theorem cr_ev9 (h:x.kind=9):gA 207 [.agg (eA x),.bl (FC N v)] (.int .i64 (KG x v)):=by
 refine wA (c:=FA) rfl rfl ?_;have zc:=hx.elem (by omega);have gel:=NE v zc;have ic:=zc.1;have ve:=hv x.elem.toNat (by omega);have hw:IntKind.i64.wrap (1 + v x.elem.toNat)=1 + v x.elem.toNat:=IntWalk.i64_in _ (by omega);simp [FA,-V,-y3,-y0,J,eA,h,KG,gel,ic,hw]
theorem cr_ev5 (h:x.kind=5):gA 207 [.agg (eA x),.bl (FC N v)] (.int .i64 (KG x v)):=by
 refine wA (c:=FA) rfl rfl ?_;simp [FA,-V,-y3,-y0,J,eA,h,KG];refine xA x.mems.length (fun i s=>(s.env 1).v=.bl (FC N v)/\(s.env 2).v=.ptr 2 1 0/\s.mem 2 1=some (kA x)/\(s.env 6).v=.int .i64 i/\∃ a,(s.env 5).v=.int .i64 a/\lO v (x.mems.drop i) a=lO v x.mems 1/\0<=a/\a<=2)
  (fun e s=>e=.exit 1/\(s.env 5).v=.int .i64 (lO v x.mems 1)) (fun i hi s k h' ih hk=>?_) _ _ ?_ (fun e s h'=>?_)
 ·obtain ⟨e1,e2,e3,e4,a,ea,hs,hb⟩:=h';refine tA ?_;by_cases da:i<x.mems.length
  ·have fa:(i:Int)<x.mems.length:=by omega
   have g1:(x.mems.map nA)[i]?=some (nA x.mems[i]):=by simp [da]
   have hw:=ZA (i:=i) (by have:=hx.few; omega);have jn:=hx.mems x.mems[i] (y6 _);rw [yb da,lO] at hs;generalize x.mems[i]=m at *
   have ux:=hv m.ty.toNat (by omega);have gm:=NE v jn;have xl:=jn.1;have ah:=Int.mul_nonneg hb.1 ux.1;have hm3:a * v m.ty.toNat<=2 * 2:=gW hb.1 hb.2 ux.1 ux.2;have ci:IntKind.i64.wrap (a * v m.ty.toNat)=a * v m.ty.toNat:=IntWalk.i64_in _ (by omega);simp only [nA] at g1;simp [eK,-V,-y3,-y0,J,e1,e2,e3,e4,ea,fa,g1,gm,xl,hw,ci];refine ih da _ ⟨?_,?_,?_,?_,min 2 (a * v m.ty.toNat),?_,hs,by omega⟩ <;> simp [e1,e2,e3]
  ·have fa:¬ (i:Int)<x.mems.length:=by omega
   simp [eK,-V,-y3,-y0,J,e1,e2,e3,e4,fa];rw [ye (by omega),lO] at hs;exact hk _ _ ⟨rfl,by simp [ea,hs]⟩
 ·simp [eA,h]
 ·obtain ⟨rfl,ea⟩:=h';simp [-V,-y3,-y0,J,ea]
theorem cr_ev6 (h:x.kind=6):gA 207 [.agg (eA x),.bl (FC N v)] (.int .i64 (KG x v)):=by
 refine wA (c:=FA) rfl rfl ?_;simp [FA,-V,-y3,-y0,J,eA,h,KG];refine xA x.mems.length (fun i s=>(s.env 1).v=.bl (FC N v)/\(s.env 2).v=.ptr 2 1 0/\s.mem 2 1=some (kA x)/\(s.env 8).v=.int .i64 i/\∃ a,(s.env 7).v=.int .i64 a/\SS v (x.mems.drop i) a=SS v x.mems 0/\0<=a/\a<=2)
  (fun e s=>e=.exit 3/\(s.env 7).v=.int .i64 (SS v x.mems 0)) (fun i hi s k h' ih hk=>?_) _ _ ?_ (fun e s h'=>?_)
 ·obtain ⟨e1,e2,e3,e4,a,ea,hs,hb⟩:=h';refine tA ?_;by_cases da:i<x.mems.length
  ·have fa:(i:Int)<x.mems.length:=by omega
   have g1:(x.mems.map nA)[i]?=some (nA x.mems[i]):=by simp [da]
   have hw:=ZA (i:=i) (by have:=hx.few; omega);have jn:=hx.mems x.mems[i] (y6 _);rw [yb da,SS] at hs;generalize x.mems[i]=m at *
   have ux:=hv m.ty.toNat (by omega);have gm:=NE v jn;have xl:=jn.1;have ci:IntKind.i64.wrap (a + v m.ty.toNat)=a + v m.ty.toNat:=IntWalk.i64_in _ (by omega);simp only [nA] at g1;simp [wK,-V,-y3,-y0,J,e1,e2,e3,e4,ea,fa,g1,gm,xl,hw,ci];refine ih da _ ⟨?_,?_,?_,?_,min 2 (a + v m.ty.toNat),?_,hs,by omega⟩ <;> simp [e1,e2,e3]
  ·have fa:¬ (i:Int)<x.mems.length:=by omega
   simp [wK,-V,-y3,-y0,J,e1,e2,e3,e4,fa];rw [ye (by omega),SS] at hs;exact hk _ _ ⟨rfl,by simp [ea,hs]⟩
 ·simp [eA,h]
 ·obtain ⟨rfl,ea⟩:=h';simp [-V,-y3,-y0,J,ea]
theorem cr_ev (hk:1<=x.kind/\x.kind<=9):gA 207 [.agg (eA x),.bl (FC N v)] (.int .i64 (KG x v)):=by
 rcases kinds x.kind with e | e | e | e | e | e | e | e | e | e
 ·exact cr_ev1 hv hx e
 ·exact cr_ev2 hv hx e
 ·exact cr_ev3 hv hx e
 ·exact cr_ev4 hv hx e
 ·exact cr_ev5 hv hx e
 ·exact cr_ev6 hv hx e
 ·exact cr_ev7 hv hx e
 ·exact cr_ev8 hv hx e
 ·exact cr_ev9 hv hx e
 ·exact absurd hk e
end
section
variable {N:Nat} {v:uF} (hv:fM N v) {x:fA} (hx:mD N x)
include N v hv x hx
theorem cp_ev1 (h:x.kind=1):gA 205 [.agg (eA x),.bl (FC N v)] (.int .i64 (kF x v)):=by
 refine wA (c:=QA) rfl rfl ?_;simp [QA,-V,-y3,-y0,J,eA,h,kF]
theorem cp_ev2 (h:x.kind=2):gA 205 [.agg (eA x),.bl (FC N v)] (.int .i64 (kF x v)):=by
 refine wA (c:=QA) rfl rfl ?_;by_cases c1:x.low=x.high
 ·simp [QA,-V,-y3,-y0,J,eA,h,kF,c1]
 ·simp [QA,-V,-y3,-y0,J,eA,h,kF,c1]
theorem cp_ev3 (h:x.kind=3):gA 205 [.agg (eA x),.bl (FC N v)] (.int .i64 (kF x v)):=by
 refine wA (c:=QA) rfl rfl ?_;by_cases c1:x.max=0
 ·simp [QA,-V,-y3,-y0,J,eA,h,kF,c1]
 ·simp [QA,-V,-y3,-y0,J,eA,h,kF,c1]
theorem cp_ev4 (h:x.kind=4):gA 205 [.agg (eA x),.bl (FC N v)] (.int .i64 (kF x v)):=by
 refine wA (c:=QA) rfl rfl ?_;simp [QA,-V,-y3,-y0,J,eA,h,kF]
theorem cp_ev7 (h:x.kind=7):gA 205 [.agg (eA x),.bl (FC N v)] (.int .i64 (kF x v)):=by
 refine wA (c:=QA) rfl rfl ?_;have zc:=hx.elem (by omega);have gel:=NE v zc;have ic:=zc.1;by_cases c1:x.max=0
 ·simp [QA,-V,-y3,-y0,J,eA,h,kF,c1]
 ·by_cases c2:v x.elem.toNat=0
  ·simp [QA,-V,-y3,-y0,J,eA,h,kF,c1,c2,gel,ic]
  ·simp [QA,-V,-y3,-y0,J,eA,h,kF,c1,c2,gel,ic]
theorem cp_ev8 (h:x.kind=8):gA 205 [.agg (eA x),.bl (FC N v)] (.int .i64 (kF x v)):=by
 refine wA (c:=QA) rfl rfl ?_;have zc:=hx.elem (by omega);have gel:=NE v zc;have ic:=zc.1;have zh:=hx.key h;have gkl:=NE v zh;have xj:=zh.1;by_cases c1:x.max=0
 ·simp [QA,-V,-y3,-y0,J,eA,h,kF,c1]
 ·by_cases c2:v x.elem.toNat=0
  ·simp [QA,-V,-y3,-y0,J,eA,h,kF,c1,c2,gel,ic]
  ·by_cases c3:v x.key.toNat=0
   ·simp [QA,-V,-y3,-y0,J,eA,h,kF,c1,c2,c3,gel,ic,gkl,xj]
   ·simp [QA,-V,-y3,-y0,J,eA,h,kF,c1,c2,c3,gel,ic,gkl,xj]
theorem cp_ev9 (h:x.kind=9):gA 205 [.agg (eA x),.bl (FC N v)] (.int .i64 (kF x v)):=by
 refine wA (c:=QA) rfl rfl ?_;have zc:=hx.elem (by omega);have gel:=NE v zc;have ic:=zc.1;have ve:=hv x.elem.toNat (by omega);have hw:IntKind.i64.wrap (1 + v x.elem.toNat)=1 + v x.elem.toNat:=IntWalk.i64_in _ (by omega);simp [QA,-V,-y3,-y0,J,eA,h,kF,gel,ic,hw]
theorem cp_ev5 (h:x.kind=5):gA 205 [.agg (eA x),.bl (FC N v)] (.int .i64 (kF x v)):=by
 refine wA (c:=QA) rfl rfl ?_;simp [QA,-V,-y3,-y0,J,eA,h,kF];refine xA x.mems.length (fun i s=>(s.env 1).v=.bl (FC N v)/\(s.env 33).v=.sl x.mn (x.mems.map nA)/\(s.env 34).v=.int .i64 x.mems.length/\(s.env 35).v=.int .i64 i/\∃ a,(s.env 5).v=.int .i64 a/\lO v (x.mems.drop i) a=lO v x.mems 1/\0<=a/\a<=2)
  (fun e s=>e=.exit 1/\(s.env 5).v=.int .i64 (lO v x.mems 1)) (fun i hi s k h' ih hk=>?_) _ _ ?_ (fun e s h'=>?_)
 ·obtain ⟨e1,e2,e3,e4,a,ea,hs,hb⟩:=h';refine tA ?_;by_cases da:i<x.mems.length
  ·have fa:(i:Int)<x.mems.length:=by omega
   have g1:(x.mems.map nA)[i]?=some (nA x.mems[i]):=by simp [da]
   have hw:=ZA (i:=i) (by have:=hx.few; omega);have jn:=hx.mems x.mems[i] (y6 _);rw [yb da,lO] at hs;generalize x.mems[i]=m at *
   have ux:=hv m.ty.toNat (by omega);have gm:=NE v jn;have xl:=jn.1;have ah:=Int.mul_nonneg hb.1 ux.1;have hm3:a * v m.ty.toNat<=2 * 2:=gW hb.1 hb.2 ux.1 ux.2;have ci:IntKind.i64.wrap (a * v m.ty.toNat)=a * v m.ty.toNat:=IntWalk.i64_in _ (by omega);simp only [nA] at g1;simp [UI,-V,-y3,-y0,J,e1,e2,e3,e4,ea,fa,g1,gm,xl,hw,ci];refine ih da _ ⟨?_,?_,?_,?_,min 2 (a * v m.ty.toNat),?_,hs,by omega⟩ <;> simp [e1,e2,e3]
  ·have fa:¬ (i:Int)<x.mems.length:=by omega
   simp [UI,-V,-y3,-y0,J,e1,e2,e3,e4,fa];rw [ye (by omega),lO] at hs;exact hk _ _ ⟨rfl,by simp [ea,hs]⟩
 ·simp [eA,h]
 ·obtain ⟨rfl,ea⟩:=h';simp [-V,-y3,-y0,J,ea]
theorem cp_ev6 (h:x.kind=6):gA 205 [.agg (eA x),.bl (FC N v)] (.int .i64 (kF x v)):=by
 refine wA (c:=QA) rfl rfl ?_;simp [QA,-V,-y3,-y0,J,eA,h,kF];refine xA x.mems.length (fun i s=>(s.env 1).v=.bl (FC N v)/\(s.env 52).v=.sl x.mn (x.mems.map nA)/\(s.env 53).v=.int .i64 x.mems.length/\(s.env 54).v=.int .i64 i/\∃ a,(s.env 8).v=.int .i64 a/\LU v (x.mems.drop i) a=LU v x.mems 0/\0<=a/\a<=2 * i)
  (fun e s=>e=.exit 3/\(s.env 8).v=.int .i64 (LU v x.mems 0)) (fun i hi s k h' ih hk=>?_) _ _ ?_ (fun e s h'=>?_)
 ·obtain ⟨e1,e2,e3,e4,a,ea,hs,hb⟩:=h';refine tA ?_;by_cases da:i<x.mems.length
  ·have fa:(i:Int)<x.mems.length:=by omega
   have g1:(x.mems.map nA)[i]?=some (nA x.mems[i]):=by simp [da]
   have hw:=ZA (i:=i) (by have:=hx.few; omega);have jn:=hx.mems x.mems[i] (y6 _);rw [yb da,LU] at hs;generalize x.mems[i]=m at *
   have ux:=hv m.ty.toNat (by omega);have gm:=NE v jn;have xl:=jn.1;have ci:IntKind.i64.wrap (a + v m.ty.toNat)=a + v m.ty.toNat:=IntWalk.i64_in _ (by have:=hx.few; omega);simp only [nA] at g1;simp [TI,-V,-y3,-y0,J,e1,e2,e3,e4,ea,fa,g1,gm,xl,hw,ci];refine ih da _ ⟨?_,?_,?_,?_,a + v m.ty.toNat,?_,hs,by omega⟩ <;> simp [e1,e2,e3]
  ·have fa:¬ (i:Int)<x.mems.length:=by omega
   simp [TI,-V,-y3,-y0,J,e1,e2,e3,e4,fa];rw [ye (by omega),LU] at hs;exact hk _ _ ⟨rfl,by simp [ea,hs]⟩
 ·simp [eA,h]
 ·obtain ⟨rfl,ea⟩:=h';simp [-V,-y3,-y0,J,ea]
theorem cp_ev (hk:1<=x.kind/\x.kind<=9):gA 205 [.agg (eA x),.bl (FC N v)] (.int .i64 (kF x v)):=by
 rcases kinds x.kind with e | e | e | e | e | e | e | e | e | e
 ·exact cp_ev1 hv hx e
 ·exact cp_ev2 hv hx e
 ·exact cp_ev3 hv hx e
 ·exact cp_ev4 hv hx e
 ·exact cp_ev5 hv hx e
 ·exact cp_ev6 hv hx e
 ·exact cp_ev7 hv hx e
 ·exact cp_ev8 hv hx e
 ·exact cp_ev9 hv hx e
 ·exact absurd hk e
end
theorem JR {l:List BB} (h:aB l []=true):l=[]:=by
 cases l with
 | nil=>rfl
 | cons=>simp [aB] at h
theorem good_few {t:fA} (h:bB t=true):t.mems.length<=16:=by
 have hk:=dK h;unfold bB PH fA.left at h;rcases kinds t.kind with e | e | e | e | e | e | e | e | e | e
 all_goals first | exact absurd hk e | skip
 all_goals simp [e,fA.same,CB,dH] at h
 all_goals first
  | (obtain ⟨⟨_,h⟩,_⟩:=h; omega)
  | (have:=JR h.2; rw [this]; simp)
  | (have:=JR h.2.2; rw [this]; simp)
  | omega
theorem TD {S:List fA} (h:valid S=0):∀ x∈S,mD S.length x:=fun x hx=>by
 obtain ⟨j,hj,rfl⟩:=yB hx;obtain ⟨h1,h2⟩:=aH (MF h j hj);generalize S[j]=t at *
 have use:∀ u∈t.usesL,0<=u/\u<S.length:=fun u hu=>by
  have:=List.any_eq_false.1 h2 u hu;simp [mB] at this;omega
 refine ⟨fun m hm=>use _ ?_,good_few h1,fun h7=>use _ ?_,fun h8=>BZ h8 h2⟩
 ·unfold fA.usesL;exact List.mem_append_left _ (List.mem_append_left _ (yN hm))
 ·unfold fA.usesL;rw [if_pos h7];exact List.mem_append_right _ (by simp)
theorem NI {S:List fA} (h:valid S=0):S.length<=32:=by
 unfold valid at h;by_cases dv:32<S.length
 ·rw [if_pos dv] at h; cases h
 ·omega
theorem vec0 (N:Nat):(yD N [AV.int .i64 0]).flatten.map (fun v=>(⟨v,.no⟩:qA))=sA (FC N fun _=>0):=by
 unfold sA;congr 1;congr 1;apply List.ext_getElem?;intro i;by_cases h:i<N
 ·simp [FC,h]
 ·simp [FC,h]
theorem vec0' (N:Nat):yD N (⟨AV.int .i64 0,.no⟩:qA)=sA (FC N fun _=>0):=by
 rw [<- vec0];simp
theorem iV (N:Nat) (v:uF):aE (sA (FC N v)) 1 0 N=some (FC N v):=by
 have:=GG (WS N v) (vecC_free N v)
 rwa [ES] at this
theorem vec_load (N:Nat) (v:uF) {i:Nat} (hi:i<N):MA false 1 i (sA (FC N v))=some ⟨.int .i64 (v i),.no⟩:=T5 (WS N v) (by have:=NE v (t:=(i:Int)) (N:=N) (by omega); simpa using this) 1
theorem vec_at (N:Nat) (v:uF) {i:Nat} (hi:i<N):(sA (FC N v))[i]?=some ⟨.int .i64 (v i),.no⟩:=R5 (WS N v) (by have:=NE v (t:=(i:Int)) (N:=N) (by omega); simpa using this)
theorem zZ (N:Nat) (v w:uF) {i:Nat} (hi:i<N) {x:Int} (hx:w i=x) (h:∀ j,j≠i->w j=v j):mA false 1 i (sA (FC N v)) (.int .i64 x) .no=some (sA (FC N w)):=by
 rw [I1 (WS N v) (by rw [ES]; exact hi) rfl,vecC_set v w hx h]
theorem lfp {N:Nat} {F:Nat->uF->Int} (G:pY N F):∃ w,CP N F w/\∀ j,j<N->F j w=w j:=by
 have:∀ (k:Nat) (v:uF),CP N F v->2 * (N:Int) - cM N v<=k->∃ w,CP N F w/\∀ j,j<N->F j w=w j:=by
  intro k
  induction k with
  | zero =>
   intro v hv hk;refine ⟨v,hv,fun j hj=>Classical.byContradiction fun na=>?_⟩;have h1:=tV _ N (CP.upd G hv hj).rng;rw [cP F v j N hj] at h1;have:=hv.post j hj;omega
  | succ k ih =>
   intro v hv hk;by_cases h:∀ j,j<N->F j v=v j
   ·exact ⟨v,hv,h⟩
   ·obtain ⟨j,hj⟩:=Classical.not_forall.1 h;obtain ⟨hj,na⟩:=Classical.not_imp.1 hj;refine ih (upd F v j) (CP.upd G hv hj) ?_;rw [cP F v j N hj];have:=hv.post j hj;omega
 exact this (2 * N) _ (CP.zero G) (by have:=G1 (fun _=>0) N (fun j _=>⟨Int.le_refl _,by show (0:Int)<=2; decide⟩); omega)
theorem W0 {N:Nat} {F:Nat->uF->Int} {v w:uF} (hv:CP N F v) (fv:∀ j,j<N->F j v=v j) (hw:CP N F w) (fw:∀ j,j<N->F j w=w j):∀ j,j<N->v j=w j:=fun j hj=>by
 have h1:=hv.least w hw.rng (fun j hj=>by rw [fw j hj]; exact Int.le_refl _) j hj;have h2:=hw.least v hv.rng (fun j hj=>by rw [fv j hj]; exact Int.le_refl _) j hj;omega
theorem nM {N:Nat} {v w:uF} (h:∀ j,j<N->v j=w j):FC N v=FC N w:=by
 unfold FC;exact yq fun j hj=>by rw [h j (List.mem_range.1 hj)]
theorem counts_ev (s:SG) (h0:valid s.types=0) {w:uF} (hw:CP s.types.length (FP s.types) w) (fw:∀ j,j<s.types.length->FP s.types j w=w j):gA 174 [.agg (WA s)] (.sl false (FC s.types.length w)):=by
 have hW:=TD h0;have hN:=NI h0;have hG:=Q2 hW;have mt:∀ x∈s.types,1<=x.kind/\x.kind<=9:=fun x hx=>by
  obtain ⟨j,hj,rfl⟩:=yB hx;exact dK (aH (MF h0 j hj)).1
 clear h0;simp only [WA];generalize s.types=S at *
 generalize s.nl=b at *
 obtain ⟨N,fj⟩:∃ N,N=S.length:=⟨_,rfl⟩;rw [<- fj] at hW hN hG hw fw ⊢;have ka:eB 8 N=true:=by rw [EA]; omega
 have mf:(N:Int)=(S.length:Int):=by omega
 refine wA (c:=xH) rfl rfl ?_;have hb8:N * 8<=140737488355328:=by omega
 have hb1:N<=140737488355328:=by omega
 simp [xH,-V,-y3,-y0,J,-MA,-mA,wB,uB,PA,AA,<- fj,hb8,hb1];refine xA (2 * N + 1) (fun r σ=>(σ.env 1).v=.ptr 1 1 0/\σ.mem 1 1=some [⟨.sl b (S.map eA),.no⟩]/\(σ.env 3).v=.ref 11 2 1 0 N N/\∃ v,σ.mem 11 2=some (sA (FC N v))/\CP N (FP S) v/\((σ.env 4).v=.bool true/\(r:Int)<=cM N v\/(σ.env 4).v=.bool false/\∀ j,j<N->FP S j v=v j))
  (fun e σ=>e=.exit 0/\(σ.env 3).v=.ref 11 2 1 0 N N/\∃ v,σ.mem 11 2=some (sA (FC N v))/\CP N (FP S) v/\∀ j,j<N->FP S j v=v j) (fun r hr σ k h ih hk=>?_) _ _ ?_ (fun e σ h=>?_)
 ·obtain ⟨e1,m1,e3,v0,m3,hv0,db⟩:=h;refine tA ?_;rcases db with ⟨e4,hsum⟩ | ⟨e4,hfix⟩
  case inr =>
   simp [DH,-V,-y3,-y0,J,-MA,-mA,wB,uB,PA,AA,e4];exact hk _ _ ⟨rfl,by simp [e3],v0,by simp [m3],hv0,hfix⟩
  have hrN:r<2 * N + 1:=by
   have:=tV v0 N hv0.rng;omega
  simp [DH,-V,-y3,-y0,J,-MA,-mA,wB,uB,PA,AA,e1,m1,e4,<- fj];refine xA N (fun i σ=>(σ.env 1).v=.ptr 1 1 0/\σ.mem 1 1=some [⟨.sl b (S.map eA),.no⟩]/\(σ.env 3).v=.ref 11 2 1 0 N N/\(σ.env 14).v=.sl b (S.map eA)/\(σ.env 15).v=.int .i64 N/\(σ.env 16).v=.int .i64 i/\∃ v,σ.mem 11 2=some (sA (FC N v))/\CP N (FP S) v/\((σ.env 4).v=.bool false/\v=v0/\(∀ j,j<i->FP S j v=v j)\/(σ.env 4).v=.bool true/\cM N v0 + 1<=cM N v))
   (fun e σ=>e=.exit 2/\(σ.env 1).v=.ptr 1 1 0/\σ.mem 1 1=some [⟨.sl b (S.map eA),.no⟩]/\(σ.env 3).v=.ref 11 2 1 0 N N/\∃ v,σ.mem 11 2=some (sA (FC N v))/\CP N (FP S) v/\((σ.env 4).v=.bool false/\(∀ j,j<N->FP S j v=v j)\/(σ.env 4).v=.bool true/\cM N v0 + 1<=cM N v)) (fun i hi σ k' h zx tc=>?_) _ _ ?_ (fun e σ h=>?_)
  ·obtain ⟨f1,n1,f3,rj,gj,ik,v,n3,hv,db⟩:=h;refine tA ?_;by_cases da:i<N
   ·have fa:(i:Int)<N:=by omega
    have gk:i<S.length:=by omega
    have g1:(S.map eA)[i]?=some (eA S[i]):=by simp [gk]
    have oc:=ZA (i:=i);have hc:=cp_ev hv.rng (hW _ (y6 gk)) (mt _ (y6 gk));have hF:FP S i v=min 2 (kF S[i] v):=by unfold FP; rw [y4 gk]
    generalize S[i]=x at *
    simp only [eA] at g1;simp only [gA,eA] at hc;have zc:=iV N v;have pt:=vec_load N v da;have sc:=vec_at N v da;have ju:=hv.post i da;have hup:=CP.upd hG hv da;have wk:=cP (FP S) v i N da;have su:=zZ N v (upd (FP S) v i) da (x:=FP S i v) (by simp [upd]) (fun j hj=>by simp [upd,hj]);rw [hF] at ju wk su;by_cases na:min 2 (kF x v)=v i
    ·rcases db with ⟨f4,rfl,hj⟩ | ⟨f4,cq⟩
     ·simp [nE,-V,-y3,-y0,J,-MA,-mA,wB,uB,PA,AA,f1,n1,f3,rj,gj,ik,n3,fa,g1,zc,hc,pt,sc,oc,da,na];refine zx da _ ⟨?_,?_,?_,?_,?_,?_,v,?_,hv,.inl ⟨?_,rfl,fun j hj'=>?_⟩⟩
      case refine_9=>
       rcases Nat.lt_succ_iff_lt_or_eq.1 hj' with h | rfl
       ·exact hj j h
       ·exact hF.trans na
      all_goals simp [f1,n1,f3,rj,gj,n3,f4]
     ·simp [nE,-V,-y3,-y0,J,-MA,-mA,wB,uB,PA,AA,f1,n1,f3,rj,gj,ik,n3,fa,g1,zc,hc,pt,sc,oc,da,na];refine zx da _ ⟨?_,?_,?_,?_,?_,?_,v,?_,hv,.inr ⟨?_,cq⟩⟩
      all_goals simp [f1,n1,f3,rj,gj,n3,f4]
    ·simp [nE,-V,-y3,-y0,J,-MA,-mA,wB,uB,PA,AA,f1,n1,f3,rj,gj,ik,n3,fa,g1,zc,hc,pt,sc,oc,da,na,su];refine zx da _ ⟨?_,?_,?_,?_,?_,?_,upd (FP S) v i,?_,hup,.inr ⟨?_,?_⟩⟩
     case refine_9 =>
      rcases db with ⟨f4,rfl,hj⟩ | ⟨f4,cq⟩ <;> omega
     all_goals simp [f1,n1,f3,rj,gj,n3]
   ·have fa:¬ (i:Int)<N:=by omega
    have ij:i=N:=by omega
    simp [nE,-V,-y3,-y0,J,-MA,-mA,wB,uB,PA,AA,gj,ik,fa];refine tc _ _ ⟨rfl,by simp [f1],by simp [n1],by simp [f3],v,by simp [n3],hv,?_⟩;rcases db with ⟨f4,rfl,hj⟩ | ⟨f4,cq⟩
    ·exact .inl ⟨by simp [f4],ij ▸ hj⟩
    ·exact .inr ⟨by simp [f4],cq⟩
  ·refine ⟨?_,?_,?_,?_,?_,?_,v0,?_,hv0,.inl ⟨?_,rfl,fun j hj=>absurd hj (by omega)⟩⟩
   all_goals simp [e1,m1,e3,m3]
  ·obtain ⟨rfl,e1,m1,e3,v,m3,hv,db⟩:=h;simp [-V,-y3,-y0,J,-MA,-mA,wB,uB,PA,AA];refine ih hrN _ ⟨by simp [e1],by simp [m1],by simp [e3],v,by simp [m3],hv,?_⟩;rcases db with ⟨e4,hf⟩ | ⟨e4,hs⟩
   ·exact .inr ⟨by simp [e4],hf⟩
   ·exact .inl ⟨by simp [e4],by omega⟩
 ·refine ⟨?_,?_,?_,fun _=>0,?_,CP.zero hG,.inl ⟨?_,?_⟩⟩
  case refine_4=>simp [vec0']
  case refine_6=>exact G1 _ N (fun j _=>⟨Int.le_refl _,by show (0:Int)<=2; decide⟩)
  all_goals simp
 ·obtain ⟨rfl,e3,v,m3,hv,hf⟩:=h;have zc:=iV N v;rw [nM (W0 hv hf hw fw)] at zc;rw [nM (W0 hv hf hw fw)] at m3;simp [-V,-y3,-y0,J,-MA,-mA,wB,uB,PA,AA,e3,m3,zc]
theorem R7 (s:SG) (h0:valid s.types=0) {w:uF} (hw:CP s.types.length (FR s.types) w) (fw:∀ j,j<s.types.length->FR s.types j w=w j):gA 176 [.agg (WA s)] (.sl false (FC s.types.length w)):=by
 have hW:=TD h0;have hN:=NI h0;have hG:=W2 hW;have mt:∀ x∈s.types,1<=x.kind/\x.kind<=9:=fun x hx=>by
  obtain ⟨j,hj,rfl⟩:=yB hx;exact dK (aH (MF h0 j hj)).1
 clear h0;simp only [WA];generalize s.types=S at *
 generalize s.nl=b at *
 obtain ⟨N,fj⟩:∃ N,N=S.length:=⟨_,rfl⟩;rw [<- fj] at hW hN hG hw fw ⊢;have hb8:N * 8<=140737488355328:=by omega
 have hb1:N<=140737488355328:=by omega
 have ci:IntKind.i64.wrap (2 * (N:Int))=2 * N:=IntWalk.i64_in _ (by omega);refine wA (c:=gJ) rfl rfl ?_;simp [gJ,-V,-y3,-y0,J,-MA,-mA,wB,uB,PA,AA,<- fj,hb8,hb1];refine xA (2 * N + 1) (fun r σ=>(σ.env 1).v=.ptr 1 1 0/\σ.mem 1 1=some [⟨.sl b (S.map eA),.no⟩]/\(σ.env 3).v=.ref 9 2 1 0 N N/\(σ.env 4).v=.int .i64 r/\∃ v,σ.mem 9 2=some (sA (FC N v))/\CP N (FR S) v/\((r:Int)<=cM N v\/∀ j,j<N->FR S j v=v j))
  (fun e σ=>e=.exit 0/\(σ.env 3).v=.ref 9 2 1 0 N N/\∃ v,σ.mem 9 2=some (sA (FC N v))/\CP N (FR S) v/\∀ j,j<N->FR S j v=v j) (fun r hr σ k h ih hk=>?_) _ _ ?_ (fun e σ h=>?_)
 ·obtain ⟨e1,m1,e3,e4,v0,m3,hv0,db⟩:=h;refine tA ?_;by_cases hrN:r<2 * N + 1
  case neg =>
   have fa:¬ (r:Int)<=2 * N:=by omega
   simp [kJ,-V,-y3,-y0,J,-MA,-mA,wB,uB,PA,AA,e1,m1,e4,<- fj,ci,fa];refine hk _ _ ⟨rfl,by simp [e3],v0,by simp [m3],hv0,?_⟩;rcases db with h | h
   ·have:=tV v0 N hv0.rng;omega
   ·exact h
  have fa:(r:Int)<=2 * N:=by omega
  have gw:=ZA (i:=r);simp [kJ,-V,-y3,-y0,J,-MA,-mA,wB,uB,PA,AA,e1,m1,e4,<- fj,ci,fa];refine xA N (fun i σ=>(σ.env 1).v=.ptr 1 1 0/\σ.mem 1 1=some [⟨.sl b (S.map eA),.no⟩]/\(σ.env 3).v=.ref 9 2 1 0 N N/\(σ.env 4).v=.int .i64 r/\(σ.env 5).v=.int .i64 i/\∃ v,σ.mem 9 2=some (sA (FC N v))/\CP N (FR S) v/\((∀ j,j<N->FR S j v0=v0 j)->v=v0)/\(v=v0/\(∀ j,j<i->FR S j v=v j)\/cM N v0 + 1<=cM N v))
   (fun e σ=>e=.exit 2/\(σ.env 1).v=.ptr 1 1 0/\σ.mem 1 1=some [⟨.sl b (S.map eA),.no⟩]/\(σ.env 3).v=.ref 9 2 1 0 N N/\(σ.env 4).v=.int .i64 r/\∃ v,σ.mem 9 2=some (sA (FC N v))/\CP N (FR S) v/\((∀ j,j<N->FR S j v=v j)\/(r:Int) + 1<=cM N v)) (fun i hi σ k' h zx tc=>?_) _ _ ?_ (fun e σ h=>?_)
  ·obtain ⟨f1,n1,f3,f4,f5,v,n3,hv,my,ru⟩:=h;refine tA ?_;by_cases da:i<N
   ·have fa:(i:Int)<N:=by omega
    have gk:i<S.length:=by omega
    have g1:(S.map eA)[i]?=some (eA S[i]):=by simp [gk]
    have oc:=ZA (i:=i);have hc:=cr_ev hv.rng (hW _ (y6 gk)) (mt _ (y6 gk));have hF:FR S i v=KG S[i] v:=by unfold FR; rw [y4 gk]
    generalize S[i]=x at *
    simp only [eA] at g1;simp only [gA,eA] at hc;have zc:=iV N v;have ju:=hv.post i da;have hup:=CP.upd hG hv da;have wk:=cP (FR S) v i N da;have su:=zZ N v (upd (FR S) v i) da (x:=FR S i v) (by simp [upd]) (fun j hj=>by simp [upd,hj]);have mj:FR S i v=v i->upd (FR S) v i=v:=upd_same;rw [hF] at ju wk su;have hltS':(i:Int)<S.length:=by omega
    simp [jJ,-V,-y3,-y0,J,-MA,-mA,wB,uB,PA,AA,f1,n1,f3,f4,f5,n3,hltS',g1,zc,hc,oc,da,su];refine zx da _ ⟨?_,?_,?_,?_,?_,upd (FR S) v i,?_,hup,?_,?_⟩
    case refine_7 =>
     intro sa;have e:=my sa;subst e;exact mj (sa i da)
    case refine_8 =>
     by_cases na:FR S i v=v i
     ·rw [mj na];rcases ru with ⟨rfl,hj⟩ | hs
      ·refine .inl ⟨rfl,fun j hj'=>?_⟩;rcases Nat.lt_succ_iff_lt_or_eq.1 hj' with h | rfl
       ·exact hj j h
       ·exact na
      ·exact .inr hs
     ·right;rw [hF] at na;rcases ru with ⟨rfl,hj⟩ | hs <;> omega
    all_goals simp [f1,n1,f3,f4]
   ·have fa:¬ (i:Int)<N:=by omega
    have ij:i=N:=by omega
    simp [jJ,-V,-y3,-y0,J,-MA,-mA,wB,uB,PA,AA,f1,n1,f5,<- fj,fa];refine tc _ _ ⟨rfl,by simp [f1],by simp [n1],by simp [f3],by simp [f4],v,by simp [n3],hv,?_⟩;rcases db with hr | sa
    ·rcases ru with ⟨rfl,hj⟩ | hs
     ·exact .inl (ij ▸ hj)
     ·exact .inr (by omega)
    ·rw [my sa]; exact .inl sa
  ·refine ⟨?_,?_,?_,?_,?_,v0,?_,hv0,fun _=>rfl,.inl ⟨rfl,fun j hj=>absurd hj (by omega)⟩⟩
   all_goals simp [e1,m1,e3,e4,m3]
  ·obtain ⟨rfl,f1,n1,f3,f4,v,n3,hv,ru⟩:=h;simp [-V,-y3,-y0,J,-MA,-mA,wB,uB,PA,AA,f4,gw];refine ih hrN _ ⟨by simp [f1],by simp [n1],by simp [f3],by simp,v,by simp [n3],hv,?_⟩;rcases ru with h | h
   ·exact .inr h
   ·exact .inl (by omega)
 ·refine ⟨?_,?_,?_,?_,fun _=>0,?_,CP.zero hG,.inl ?_⟩
  case refine_5=>simp [vec0']
  case refine_6=>exact G1 _ N (fun j _=>⟨Int.le_refl _,by show (0:Int)<=2; decide⟩)
  all_goals simp
 ·obtain ⟨rfl,e3,v,m3,hv,hf⟩:=h;have zc:=iV N v;rw [nM (W0 hv hf hw fw)] at zc;rw [nM (W0 hv hf hw fw)] at m3;simp [-V,-y3,-y0,J,-MA,-mA,wB,uB,PA,AA,e3,m3,zc]
theorem both_cnts (s:SG) (h0:valid s.types=0):∃ w:uF,CP s.types.length (FP s.types) w/\(∀ j,j<s.types.length->FP s.types j w=w j)/\gA 174 [.agg (WA s)] (.sl false (FC s.types.length w))/\gA 176 [.agg (WA s)] (.sl false (FC s.types.length w)):=by
 have hW:=TD h0;obtain ⟨v,hv,fv⟩:=lfp (Q2 hW);obtain ⟨w,hw,fw⟩:=lfp (W2 hW);have h1:=counts_ev s h0 hv fv;have h2:=R7 s h0 hw fw;refine ⟨v,hv,fv,h1,?_⟩;rw [nM (FPR hW ?_ hv fv hw fw)]
 ·exact h2
 ·intro x hx h8 u hu;obtain ⟨j,hj,rfl⟩:=yB hx;have he:=MF h0 j hj;obtain ⟨hg,ho⟩:=aH he;obtain ⟨k0,k1⟩:=BZ h8 ho;have da:s.types[j].key.toNat<s.types.length:=by omega
  have tb:1<=s.types[s.types[j].key.toNat].kind/\s.types[s.types[j].key.toNat].kind<=4:=by
   have hka:SI s.types s.types[j].key=s.types[s.types[j].key.toNat].kind:=by unfold SI; rw [y4 da]
   rw [<- hka];refine Classical.byContradiction fun hn=>?_
   unfold XC at he;rw [if_neg (by simp [hg])] at he;by_cases h2:s.types[j].named=true/\s.types[j].name∈(s.types.take j).map fA.name
   ·rw [if_pos h2] at he; cases he
   ·rw [if_neg h2,if_neg (by simp [ho]),if_pos ⟨h8,hn⟩] at he;cases he
  have hgk:=(aH (MF h0 _ da)).1;unfold FP;rw [y4 da];generalize s.types[s.types[j].key.toNat]=y at *
  have hy:y.kind=1\/y.kind=2\/y.kind=3\/y.kind=4:=by omega
  simp only;rcases hy with e | e | e | e
  ·simp [kF,e]
  ·simp [kF,e]; split <;> decide
  ·simp [kF,e]; split <;> decide
  ·have:0<y.syms.length:=by
    unfold bB PH aN at hgk;simp [e] at hgk;exact hgk.1.2.1
   simp [kF,e];omega
def fP (w:uF) (n:Nat):List (List AV):=(List.range n).map fun j=>[AV.bool (decide (0<w j))]
theorem KP (w:uF) (n:Nat):fP w (n + 1)=fP w n++[[AV.bool (decide (0<w n))]]:=by simp [fP,J]
theorem p5 (w:uF) (n:Nat):lB 1 (fP w n)=true:=cC _ _ _ fun _=>rfl
theorem dS (w:uF) (n:Nat):(fP w n).length=n:=by simp [fP]
theorem s5 (w:uF) {n i:Nat} (h:i<n):(fP w n)[i]?=some [.bool (decide (0<w i))]:=by simp [fP,h]
noncomputable def finA (S:List fA) (w:uF):AV:=if xE S=0 then .tup [.sl (decide (S.length=0)) (fP w S.length),.int .i64 0] else .tup [.sl true [],.int .i64 (xE S)]
theorem BL {S:List fA} (h:xE S=0):valid S=0:=by
 unfold xE at h;by_cases h0:valid S=0
 ·exact h0
 ·rw [if_neg h0] at h; exact absurd h h0
theorem finite_ev (s:SG) (hs:s.fine) (pd:s.d64) {w:uF} (hw:xE s.types=0->fM s.types.length w/\gA 174 [.agg (WA s)] (.sl false (FC s.types.length w))):gA 144 [.agg (WA s)] (finA s.types w):=by
 have hr:=right_ev s hs pd;refine wA (c:=DF) rfl rfl ?_;unfold finA;simp only [gA,WA] at hr hw;by_cases h0:xE s.types=0
 case neg =>
  rw [if_neg h0];simp [DF,-V,-y3,-y0,J,WA,hr,h0]
 have hN:=NI (BL h0);obtain ⟨hrng,hc⟩:=hw h0;rw [if_pos h0];rw [h0] at hr;simp only [WA];generalize s.types=S at *
 generalize s.nl=b at *
 obtain ⟨N,fj⟩:∃ N,N=S.length:=⟨_,rfl⟩;rw [<- fj] at hN hrng hc ⊢;have uu:=ES N w;simp [DF,-V,-y3,-y0,J,WA,hr,hc,uu];refine xA N (fun i σ=>(σ.env 14).v=.sl false (FC N w)/\(σ.env 15).v=.int .i64 N/\(σ.env 16).v=.int .i64 i/\(σ.env 5).v=.sl (decide (i=0)) (fP w i)/\(i=0/\(σ.env 5).a=.ex\/¬ i=0/\(σ.env 5).a=.own 24 4))
  (fun e σ=>e=.exit 0/\(σ.env 5).v=.sl (decide (N=0)) (fP w N)) (fun i hi σ k h ih hk=>?_) _ _ ?_ (fun e σ h=>?_)
 ·obtain ⟨il,ue,wd,e5,an⟩:=h;refine tA ?_;by_cases da:i<N
  ·have fa:(i:Int)<N:=by omega
   have g1:(FC N w)[i]?=some [.int .i64 (w i)]:=by have:=NE w (t:=(i:Int)) (N:=N) (by omega); simpa using this
   have rg:=ZA (i:=i);have q:=p5 w i;have ql:=dS w i;have ka:eB 1 (i + 1)=true:=by rw [EA]; omega
   rcases an with ⟨a0,a5⟩ | ⟨a0,a5⟩
   ·simp [EF,-V,-y3,-y0,J,il,ue,wd,e5,a5,fa,g1,q,ql,rg,ka];refine ih da _ ⟨?_,?_,?_,?_,?_⟩ <;> simp [il,ue,KP,An.strip]
   ·simp [EF,-V,-y3,-y0,J,il,ue,wd,e5,a0,a5,fa,g1,q,ql,rg,ka];refine ih da _ ⟨?_,?_,?_,?_,?_⟩ <;> simp [il,ue,KP,An.strip]
  ·have fa:¬ (i:Int)<N:=by omega
   have ij:i=N:=by omega
   simp [EF,-V,-y3,-y0,J,ue,wd,fa];exact hk _ _ ⟨rfl,by rw [<- ij]; simp [e5]⟩
 ·simp [fP]
 ·obtain ⟨rfl,e5⟩:=h;simp [-V,-y3,-y0,J,e5]
theorem O7 (s:SG) (hs:s.fine) (pd:s.d64) {w:uF} (hw:xE s.types=0->fM s.types.length w/\gA 176 [.agg (WA s)] (.sl false (FC s.types.length w))):gA 145 [.agg (WA s)] (finA s.types w):=by
 have hr:=rerror_ev s hs pd;refine wA (c:=uH) rfl rfl ?_;unfold finA;simp only [gA,WA] at hr hw;by_cases h0:xE s.types=0
 case neg =>
  rw [if_neg h0];simp [uH,-V,-y3,-y0,J,WA,hr,h0]
 have hN:=NI (BL h0);obtain ⟨hrng,hc⟩:=hw h0;rw [if_pos h0];rw [h0] at hr;simp only [WA];generalize s.types=S at *
 generalize s.nl=b at *
 obtain ⟨N,fj⟩:∃ N,N=S.length:=⟨_,rfl⟩;rw [<- fj] at hN hrng hc ⊢;have uu:=ES N w;simp [uH,-V,-y3,-y0,J,WA,hr,hc];refine xA N (fun i σ=>(σ.env 5).v=.sl false (FC N w)/\(σ.env 7).v=.int .i64 i/\(σ.env 6).v=.sl (decide (i=0)) (fP w i)/\(i=0/\(σ.env 6).a=.ex\/¬ i=0/\(σ.env 6).a=.own 28 4))
  (fun e σ=>e=.exit 0/\(σ.env 6).v=.sl (decide (N=0)) (fP w N)) (fun i hi σ k h ih hk=>?_) _ _ ?_ (fun e σ h=>?_)
 ·obtain ⟨e5,e7,e6,an⟩:=h;refine tA ?_;by_cases da:i<N
  ·have fa:(i:Int)<N:=by omega
   have g1:(FC N w)[i]?=some [.int .i64 (w i)]:=by have:=NE w (t:=(i:Int)) (N:=N) (by omega); simpa using this
   have rg:=ZA (i:=i);have q:=p5 w i;have ql:=dS w i;have ka:eB 1 (i + 1)=true:=by rw [EA]; omega
   rcases an with ⟨a0,a5⟩ | ⟨a0,a5⟩
   ·simp [MG,-V,-y3,-y0,J,e5,e7,e6,a5,fa,uu,g1,q,ql,rg,ka];refine ih da _ ⟨?_,?_,?_,?_⟩ <;> simp [e5,KP,An.strip]
   ·simp [MG,-V,-y3,-y0,J,e5,e7,e6,a0,a5,fa,uu,g1,q,ql,rg,ka];refine ih da _ ⟨?_,?_,?_,?_⟩ <;> simp [e5,KP,An.strip]
  ·have fa:¬ (i:Int)<N:=by omega
   have ij:i=N:=by omega
   simp [MG,-V,-y3,-y0,J,e5,e7,uu,fa];exact hk _ _ ⟨rfl,by rw [<- ij]; simp [e6]⟩
 ·simp [fP]
 ·obtain ⟨rfl,e5⟩:=h;simp [-V,-y3,-y0,J,e5]
def SH (w:uF):Nat->Bool
 | 0=>true
 | n + 1=>SH w n&&decide (0<w n)
theorem jV {w:uF}:∀ {n:Nat} (i:Nat),i<n->¬ 0<w i->SH w n=false
 | 0,i,h,_=>by omega
 | n + 1,i,h,hn=>by
  unfold SH;by_cases e:i=n
  ·subst e; simp [hn]
  ·rw [jV i (by omega) hn]; rfl
noncomputable def GT (S:List fA) (w:uF):Int:=if xE S=0 then (if SH w S.length=true then 0 else 10) else xE S
theorem sound_ev (s:SG) (hs:s.fine) (pd:s.d64) {w:uF} (hw:xE s.types=0->fM s.types.length w/\gA 174 [.agg (WA s)] (.sl false (FC s.types.length w))):gA 95 [.agg (WA s)] (.int .i64 (GT s.types w)):=by
 have hf:=finite_ev s hs pd hw;refine wA (c:=cG) rfl rfl ?_;unfold finA at hf;unfold GT;simp only [gA,WA] at hf;by_cases h0:xE s.types=0
 case neg =>
  rw [if_neg h0] at hf ⊢;simp [cG,-V,-y3,-y0,J,WA,hf,h0]
 have hN:=NI (BL h0);clear hw;rw [if_pos h0] at hf ⊢;simp only [WA];generalize s.types=S at *
 generalize s.nl=b at *
 obtain ⟨N,fj⟩:∃ N,N=S.length:=⟨_,rfl⟩;rw [<- fj] at hN hf ⊢;have uu:=dS w N;simp [cG,-V,-y3,-y0,J,WA,hf,uu];refine xA N (fun i σ=>(σ.env 15).v=.sl (decide (N=0)) (fP w N)/\(σ.env 16).v=.int .i64 N/\(σ.env 17).v=.int .i64 i/\SH w i=true)
  (fun e σ=>(e=.exit 0/\SH w N=true)\/(e=.ret/\SH w N=false/\(σ.env 2).v=.int .i64 10)) (fun i hi σ k h ih hk=>?_) _ _ ?_ (fun e σ h=>?_)
 ·obtain ⟨ue,wd,mh,hp⟩:=h;refine tA ?_;by_cases da:i<N
  ·have fa:(i:Int)<N:=by omega
   have g1:=s5 w da;have rg:=ZA (i:=i);by_cases fb:0<w i
   ·rw [decide_eq_true fb] at g1;simp [uG,-V,-y3,-y0,J,ue,wd,mh,fa,g1,rg];refine ih da _ ⟨?_,?_,?_,by rw [SH,hp,decide_eq_true fb]; rfl⟩ <;> simp [ue,wd]
   ·rw [decide_eq_false fb] at g1;simp [uG,-V,-y3,-y0,J,ue,wd,mh,fa,g1];exact hk _ _ (.inr ⟨rfl,jV i da fb,by simp⟩)
  ·have fa:¬ (i:Int)<N:=by omega
   have ij:i=N:=by omega
   simp [uG,-V,-y3,-y0,J,wd,mh,fa];exact hk _ _ (.inl ⟨rfl,ij ▸ hp⟩)
 ·simp [SH]
 ·rcases h with ⟨rfl,h1⟩ | ⟨rfl,h1,h2⟩
  ·simp [-V,-y3,-y0,J,h1]
  ·simp [-V,-y3,-y0,J,h1,h2]
theorem rsound_ev (s:SG) (hs:s.fine) (pd:s.d64) {w:uF} (hw:xE s.types=0->fM s.types.length w/\gA 176 [.agg (WA s)] (.sl false (FC s.types.length w))):gA 97 [.agg (WA s)] (.int .i64 (GT s.types w)):=by
 have hf:=O7 s hs pd hw;refine wA (c:=NH) rfl rfl ?_;unfold finA at hf;unfold GT;simp only [gA,WA] at hf;by_cases h0:xE s.types=0
 case neg =>
  rw [if_neg h0] at hf ⊢;simp [NH,-V,-y3,-y0,J,WA,hf,h0]
 have hN:=NI (BL h0);clear hw;rw [if_pos h0] at hf ⊢;simp only [WA];generalize s.types=S at *
 generalize s.nl=b at *
 obtain ⟨N,fj⟩:∃ N,N=S.length:=⟨_,rfl⟩;rw [<- fj] at hN hf ⊢;have uu:=dS w N;simp [NH,-V,-y3,-y0,J,WA,hf];refine xA N (fun i σ=>(σ.env 3).v=.sl (decide (N=0)) (fP w N)/\(σ.env 5).v=.int .i64 i/\SH w i=true)
  (fun e σ=>(e=.exit 0/\SH w N=true)\/(e=.ret/\SH w N=false/\(σ.env 2).v=.int .i64 10)) (fun i hi σ k h ih hk=>?_) _ _ ?_ (fun e σ h=>?_)
 ·obtain ⟨e3,e5,hp⟩:=h;refine tA ?_;by_cases da:i<N
  ·have fa:(i:Int)<N:=by omega
   have g1:=s5 w da;have rg:=ZA (i:=i);by_cases fb:0<w i
   ·rw [decide_eq_true fb] at g1;simp [mH,-V,-y3,-y0,J,e3,e5,fa,uu,g1,rg];refine ih da _ ⟨?_,?_,by rw [SH,hp,decide_eq_true fb]; rfl⟩ <;> simp [e3]
   ·rw [decide_eq_false fb] at g1;simp [mH,-V,-y3,-y0,J,e3,e5,fa,uu,g1];exact hk _ _ (.inr ⟨rfl,jV i da fb,by simp⟩)
  ·have fa:¬ (i:Int)<N:=by omega
   have ij:i=N:=by omega
   simp [mH,-V,-y3,-y0,J,e3,e5,uu,fa];exact hk _ _ (.inl ⟨rfl,ij ▸ hp⟩)
 ·simp [SH]
 ·rcases h with ⟨rfl,h1⟩ | ⟨rfl,h1,h2⟩
  ·simp [-V,-y3,-y0,J,h1]
  ·simp [-V,-y3,-y0,J,h1,h2]
end Go.Proofs.YtbnlmgncbgaepaaGreat
