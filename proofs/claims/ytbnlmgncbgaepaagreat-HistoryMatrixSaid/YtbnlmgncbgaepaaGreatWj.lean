/- A part of the proof. -/
import Derived.Test.YtbnlmgncbgaepaaGreatWi
set_option linter.all false
set_option maxRecDepth 100000
set_option maxHeartbeats 8000000
open Option renaming bind_some → V
open List renaming range_succ → J, map_map → y0, getElem?_eq_getElem → y5, getElem_mem → y6, drop_eq_getElem_cons → y9, drop_eq_nil_of_le → ye, mem_cons_self → yk, map_congr_left → yl, mem_cons_of_mem → yq, getElem_of_mem → yx, replicate → yA, mem_map_of_mem → yX
open Int renaming toNat_lt → y3
namespace Go.Proofs.YtbnlmgncbgaepaaGreat
open Go
section
abbrev Vec:=Nat->Int
def inR (N:Nat) (v:Vec):Prop:=∀ j,j<N->0<=v j/\v j<=2
structure Grows (N:Nat) (F:Nat->Vec->Int):Prop where
 mono:∀ u v,inR N u->inR N v->(∀ j,j<N->u j<=v j)->∀ i,i<N->F i u<=F i v
 rng:∀ u,inR N u->∀ i,i<N->0<=F i u/\F i u<=2
def upd (F:Nat->Vec->Int) (v:Vec) (i:Nat):Vec:=fun j=>if j=i then F i v else v j
structure Low (N:Nat) (F:Nat->Vec->Int) (v:Vec):Prop where
 rng:inR N v
 post:∀ j,j<N->v j<=F j v
 least:∀ m,inR N m->(∀ j,j<N->F j m<=m j)->∀ j,j<N->v j<=m j
def sumV:Nat->Vec->Int
 | 0,_=>0
 | n + 1,v=>sumV n v + v n
theorem sumV_le (v:Vec):∀ N,inR N v->sumV N v<=2 * N
 | 0,_=>by simp [sumV]
 | n + 1,h=>by
  have:=sumV_le v n fun j hj=>h j (by omega)
  have:=h n (by omega);simp only [sumV];omega
theorem sumV_0 (v:Vec):∀ N,inR N v->0<=sumV N v
 | 0,_=>by simp [sumV]
 | n + 1,h=>by
  have:=sumV_0 v n fun j hj=>h j (by omega)
  have:=h n (by omega);simp only [sumV];omega
theorem sumV_same (v w:Vec):∀ N,(∀ j,j<N->v j=w j)->sumV N v=sumV N w
 | 0,_=>rfl
 | n + 1,h=>by simp only [sumV,sumV_same v w n fun j hj=>h j (by omega),h n (by omega)]
theorem qaf (F:Nat->Vec->Int) (v:Vec) (i:Nat):∀ N,i<N->sumV N (upd F v i)=sumV N v + (F i v - v i)
 | 0,h=>by omega
 | n + 1,h=>by
  simp only [sumV];by_cases e:i=n
  ·subst e;rw [sumV_same (upd F v i) v i fun j hj=>by simp [upd,show ¬ j=i from by omega]];simp only [upd,if_true];omega
  ·rw [qaf F v i n (by omega)];have:upd F v i n=v n:=by simp [upd,show ¬ n=i from fun e'=>e e'.symm]
   omega
section
variable {N:Nat} {F:Nat->Vec->Int}
theorem Low.zero (G:Grows N F):Low N F (fun _=>0):=by
 refine ⟨fun j hj=>by omega,fun j hj=>(G.rng _ (fun j hj=>by omega) j hj).1,fun m hm _ j hj=>(hm j hj).1⟩
theorem upd_ge {v:Vec} (h:Low N F v) {i:Nat} (hi:i<N) (j:Nat):v j<=upd F v i j:=by
 unfold upd;split
 ·rename_i e; subst e; exact h.post _ hi
 ·exact Int.le_refl _
theorem upd_rng (G:Grows N F) {v:Vec} (h:Low N F v) {i:Nat} (hi:i<N):inR N (upd F v i):=fun j hj=>by
 unfold upd;split
 ·exact G.rng v h.rng i hi
 ·exact h.rng j hj
theorem Low.upd (G:Grows N F) {v:Vec} (h:Low N F v) {i:Nat} (hi:i<N):Low N F (upd F v i):=by
 have hr:=upd_rng G h hi;refine ⟨hr,fun j hj=>?_,fun m hm hp j hj=>?_⟩
 ·have hm:=G.mono v (Go.Proofs.YtbnlmgncbgaepaaGreat.upd F v i) h.rng hr (fun j _=>upd_ge h hi j) j hj;unfold Go.Proofs.YtbnlmgncbgaepaaGreat.upd at hm ⊢;by_cases e:j=i
  ·subst e; simp only [if_true]; exact hm
  ·simp only [if_neg e]; have:=h.post j hj; omega
 ·unfold Go.Proofs.YtbnlmgncbgaepaaGreat.upd;split
  ·rename_i e; subst e;have:=G.mono v m h.rng hm (h.least m hm hp) j hj;have:=hp j hj;omega
  ·exact h.least m hm hp j hj
theorem upd_same {v:Vec} {i:Nat} (h:F i v=v i):upd F v i=v:=by
 funext j;unfold upd;split
 ·rename_i e; subst e; exact h
 ·rfl
end
end
def vecC (N:Nat) (v:Vec):List (List AV):=(List.range N).map fun i=>[AV.int .i64 (v i)]
theorem qbR (N:Nat) (v:Vec):(vecC N v).length=N:=by simp [vecC]
theorem qbQ (N:Nat) (v:Vec):q13 1 (vecC N v)=true:=q1a _ _ _ fun _=>rfl
theorem vecC_free (N:Nat) (v:Vec):q2l (vecC N v)=true:=q6E _ _ fun _=>rfl
theorem q31 {N:Nat} (v:Vec) {t:Int} (h:0<=t/\t<N):(vecC N v)[t.toNat]?=some [.int .i64 (v t.toNat)]:=by
 have:t.toNat<N:=by omega
 simp [vecC,this]
theorem vecC_set {N:Nat} (v w:Vec) {i:Nat} {x:Int} (hi:w i=x) (h:∀ j,j≠i->w j=v j):(vecC N v).set i [.int .i64 x]=vecC N w:=by
 apply List.ext_getElem?;intro j;by_cases e:j=i
 ·subst e;by_cases hj:j<N
  ·simp [vecC,hj,hi]
  ·simp [vecC,hj]
 ·rw [List.getElem?_set_ne (fun e'=>e e'.symm)];by_cases hj:j<N
  ·simp [vecC,hj,h j e]
  ·simp [vecC,hj]
def recF (v:Vec):List Mem->Int->Int
 | [],c=>c
 | m :: r,c=>recF v r (min 2 (c * v m.ty.toNat))
def sumF (v:Vec):List Mem->Int->Int
 | [],c=>c
 | m :: r,c=>sumF v r (c + v m.ty.toNat)
def capF (v:Vec):List Mem->Int->Int
 | [],c=>c
 | m :: r,c=>capF v r (min 2 (c + v m.ty.toNat))
def cntP (x:Typ) (v:Vec):Int :=
 if x.kind=2 then (if x.low=x.high then 1 else 2)
 else if x.kind=3 then (if x.max=0 then 1 else 2)
 else if x.kind=4 then x.syms.length
 else if x.kind=5 then recF v x.mems 1
 else if x.kind=6 then sumF v x.mems 0
 else if x.kind=7 then (if x.max=0\/v x.elem.toNat=0 then 1 else 2)
 else if x.kind=8 then (if x.max=0\/v x.elem.toNat=0\/v x.key.toNat=0 then 1 else 2)
 else if x.kind=9 then 1 + v x.elem.toNat
 else 2
def cntR (x:Typ) (v:Vec):Int :=
 if x.kind=2 then (if x.low=x.high then 1 else 2)
 else if x.kind=3 then (if x.max=0 then 1 else 2)
 else if x.kind=4 then min 2 x.syms.length
 else if x.kind=5 then recF v x.mems 1
 else if x.kind=6 then capF v x.mems 0
 else if x.kind=7\/x.kind=8 then (if x.max=0\/v x.elem.toNat=0 then 1 else 2)
 else if x.kind=9 then min 2 (1 + v x.elem.toNat)
 else 2
structure q2o (N:Nat) (x:Typ):Prop where
 mems:∀ m∈x.mems,0<=m.ty/\m.ty<N
 few:x.mems.length<=16
 elem:7<=x.kind->0<=x.elem/\x.elem<N
 key:x.kind=8->0<=x.key/\x.key<N
theorem recF_rng {N:Nat} {v:Vec} (hv:inR N v):∀ (l:List Mem) (c:Int),(∀ m∈l,0<=m.ty/\m.ty<N)->0<=c/\c<=2->0<=recF v l c/\recF v l c<=2
 | [],c,_,hc=>hc
 | m :: r,c,hm,hc=>by
  have h1:=hm m yk;have h2:=hv m.ty.toNat (by omega);refine recF_rng hv r _ (fun m' h=>hm m' (yq _ h)) ?_;have:0<=c * v m.ty.toNat:=Int.mul_nonneg hc.1 h2.1;omega
theorem capF_rng {N:Nat} {v:Vec} (hv:inR N v):∀ (l:List Mem) (c:Int),(∀ m∈l,0<=m.ty/\m.ty<N)->0<=c/\c<=2->0<=capF v l c/\capF v l c<=2
 | [],c,_,hc=>hc
 | m :: r,c,hm,hc=>by
  have h1:=hm m yk;have h2:=hv m.ty.toNat (by omega);refine capF_rng hv r _ (fun m' h=>hm m' (yq _ h)) ?_;omega
theorem cap_sum {N:Nat} {v:Vec} (hv:inR N v):∀ (l:List Mem) (c:Int),(∀ m∈l,0<=m.ty/\m.ty<N)->capF v l (min 2 c)=min 2 (sumF v l c)
 | [],c,_=>rfl
 | m :: r,c,hm=>by
  have h1:=hm m yk;have h2:=hv m.ty.toNat (by omega);rw [capF,sumF,<- cap_sum hv r _ (fun m' h=>hm m' (yq _ h))];congr 1;omega
theorem mul_mono {a b c d:Int} (h1:0<=a) (h2:a<=b) (h3:0<=c) (h4:c<=d):a * c<=b * d:=Int.mul_le_mul h2 h4 h3 (by omega)
theorem recF_mono {N:Nat} {u v:Vec} (hu:inR N u) (hv:inR N v) (ko:∀ j,j<N->u j<=v j):∀ (l:List Mem) (c d:Int),(∀ m∈l,0<=m.ty/\m.ty<N)->0<=c->c<=d->d<=2->recF u l c<=recF v l d
 | [],c,d,_,_,h,_=>h
 | m :: r,c,d,hm,h0,h,hd=>by
  have h1:=hm m yk;have h2:=hu m.ty.toNat (by omega);have h4:=ko m.ty.toNat (by omega);have h5:=mul_mono h0 h h2.1 h4;have h6:0<=c * u m.ty.toNat:=Int.mul_nonneg h0 h2.1;exact recF_mono hu hv ko r _ _ (fun m' h=>hm m' (yq _ h)) (by omega) (by omega) (by omega)
theorem capF_mono {N:Nat} {u v:Vec} (hu:inR N u) (hv:inR N v) (ko:∀ j,j<N->u j<=v j):∀ (l:List Mem) (c d:Int),(∀ m∈l,0<=m.ty/\m.ty<N)->c<=d->capF u l c<=capF v l d
 | [],c,d,_,h=>h
 | m :: r,c,d,hm,h=>by
  have h1:=hm m yk;have h4:=ko m.ty.toNat (by omega);exact capF_mono hu hv ko r _ _ (fun m' h=>hm m' (yq _ h)) (by omega)
theorem cntR_rng {N:Nat} {v:Vec} (hv:inR N v) {x:Typ} (hx:q2o N x):0<=cntR x v/\cntR x v<=2:=by
 unfold cntR
 repeat' split
 all_goals first
  | omega
  | exact recF_rng hv _ _ hx.mems (by omega)
  | exact capF_rng hv _ _ hx.mems (by omega)
  | (have:=hx.elem (by omega); have:=hv x.elem.toNat (by omega); omega)
theorem q9L {N:Nat} {v:Vec} (hv:inR N v) {x:Typ} (hx:q2o N x) (hk:x.kind≠8):min 2 (cntP x v)=cntR x v:=by
 unfold cntR cntP;by_cases h5:x.kind=5
 ·have:=recF_rng hv x.mems 1 hx.mems (by omega);simp [h5];omega
 ·by_cases h6:x.kind=6
  ·have:=cap_sum hv x.mems 0 hx.mems;simp [h6];exact this.symm
  ·by_cases h7:x.kind=7
   ·simp [h7]; split <;> rfl
   ·simp only [h5,h6,h7,hk,if_false,or_self]
    repeat' split
    all_goals rfl
theorem cntP_8 {v:Vec} {x:Typ} (hk:x.kind=8):min 2 (cntP x v)=if x.max=0\/v x.elem.toNat=0\/v x.key.toNat=0 then 1 else 2:=by
 simp [cntP,hk];split <;> rfl
theorem cntR_8 {v:Vec} {x:Typ} (hk:x.kind=8):cntR x v=if x.max=0\/v x.elem.toNat=0 then 1 else 2:=by simp [cntR,hk]
theorem cntR_mono {N:Nat} {u v:Vec} (hu:inR N u) (hv:inR N v) (ko:∀ j,j<N->u j<=v j) {x:Typ} (hx:q2o N x):cntR x u<=cntR x v:=by
 have he:7<=x.kind->0<=u x.elem.toNat/\u x.elem.toNat<=v x.elem.toNat:=fun h=>by
  have:=hx.elem h;exact ⟨(hu _ (by omega)).1,ko _ (by omega)⟩
 unfold cntR;by_cases h5:x.kind=5
 ·simp [h5]; exact recF_mono hu hv ko _ _ _ hx.mems (by omega) (by omega) (by omega)
 ·by_cases h6:x.kind=6
  ·simp [h6]; exact capF_mono hu hv ko _ _ _ hx.mems (by omega)
  ·by_cases h7:x.kind=7\/x.kind=8
   ·have:=he (by omega);have h2:¬ x.kind=2:=by omega
    have h3:¬ x.kind=3:=by omega
    have h4:¬ x.kind=4:=by omega
    simp only [h2,h3,h4,h5,h6,h7,if_true,if_false];split <;> split <;> omega
   ·by_cases h9:x.kind=9
    ·have:=he (by omega);simp [h9]; omega
    ·simp only [h5,h6,h7,h9,if_false]
     repeat' split
     all_goals omega
def FP (S:List Typ) (i:Nat) (v:Vec):Int:=match S[i]? with
 | some x=>min 2 (cntP x v)
 | none=>0
def FR (S:List Typ) (i:Nat) (v:Vec):Int:=match S[i]? with
 | some x=>cntR x v
 | none=>0
theorem FR_grows {S:List Typ} (hS:∀ x∈S,q2o S.length x):Grows S.length (FR S):=by
 refine ⟨fun u v hu hv ko i hi=>?_,fun u hu i hi=>?_⟩
 ·unfold FR;rw [y5 hi];exact cntR_mono hu hv ko (hS _ (y6 _))
 ·unfold FR;rw [y5 hi];exact cntR_rng hu (hS _ (y6 _))
theorem FP_rng {N:Nat} {v:Vec} (hv:inR N v) {x:Typ} (hx:q2o N x):0<=min 2 (cntP x v)/\min 2 (cntP x v)<=2:=by
 by_cases h8:x.kind=8
 ·rw [cntP_8 h8]; split <;> omega
 ·rw [q9L hv hx h8]; exact cntR_rng hv hx
theorem FP_grows {S:List Typ} (hS:∀ x∈S,q2o S.length x):Grows S.length (FP S):=by
 refine ⟨fun u v hu hv ko i hi=>?_,fun u hu i hi=>?_⟩
 ·unfold FP;rw [y5 hi];have hx:=hS _ (y6 hi);simp only;by_cases h8:S[i].kind=8
  ·rw [cntP_8 h8,cntP_8 h8];have h1:=hx.elem (by omega);have h2:=hx.key h8;have:=hu S[i].elem.toNat (by omega);have:=ko S[i].elem.toNat (by omega);have:=hu S[i].key.toNat (by omega);have:=ko S[i].key.toNat (by omega);split <;> split <;> omega
  ·rw [q9L hu hx h8,q9L hv hx h8];exact cntR_mono hu hv ko hx
 ·unfold FP;rw [y5 hi];exact FP_rng hu (hS _ (y6 _))
theorem FPR {S:List Typ} (hS:∀ x∈S,q2o S.length x) (hk:∀ x∈S,x.kind=8->∀ v,inR S.length v->1<=FP S x.key.toNat v) {v w:Vec} (hv:Low S.length (FP S) v) (tF:∀ j,j<S.length->FP S j v=v j) (hw:Low S.length (FR S) w) (zP:∀ j,j<S.length->FR S j w=w j):∀ j,j<S.length->v j=w j:=by
 have e:∀ j,j<S.length->FR S j v=FP S j v:=fun j hj=>by
  unfold FR FP;rw [y5 hj];have hx:=hS _ (y6 hj);simp only;by_cases h8:S[j].kind=8
  ·rw [cntP_8 h8,cntR_8 h8];have h2:=hx.key h8;have:=hk _ (y6 hj) h8 v hv.rng;rw [tF _ (by omega)] at this;have:¬ v S[j].key.toNat=0:=by omega
   simp [this]
  ·exact (q9L hv.rng hx h8).symm
 have wb:∀ u,inR S.length u->∀ j,j<S.length->FP S j u<=FR S j u:=fun u hu j hj=>by
  unfold FR FP;rw [y5 hj];have hx:=hS _ (y6 hj);simp only;by_cases h8:S[j].kind=8
  ·rw [cntP_8 h8,cntR_8 h8]; split <;> split <;> omega
  ·rw [q9L hu hx h8]; exact Int.le_refl _
 have h1:∀ j,j<S.length->w j<=v j:=hw.least v hv.rng fun j hj=>by rw [e j hj,tF j hj]; exact Int.le_refl _
 have h2:∀ j,j<S.length->v j<=w j:=hv.least w hw.rng fun j hj=>by rw [<- zP j hj]; exact wb w hw.rng j hj
 intro j hj;have:=h1 j hj;have:=h2 j hj;omega
section
variable {N:Nat} {v:Vec} (hv:inR N v) {x:Typ} (hx:q2o N x)
include N v hv x hx
theorem cr_ev1 (h:x.kind=1):evA 207 [.agg (typC x),.bl (vecC N v)] (.int .i64 (cntR x v)):=by
 refine q00 (c:=q0i) rfl rfl ?_;simp [q0i,-V,-y3,-y0,J,typC,h,cntR]
theorem cr_ev2 (h:x.kind=2):evA 207 [.agg (typC x),.bl (vecC N v)] (.int .i64 (cntR x v)):=by
 refine q00 (c:=q0i) rfl rfl ?_;by_cases c1:x.low=x.high
 ·simp [q0i,-V,-y3,-y0,J,typC,h,cntR,c1]
 ·simp [q0i,-V,-y3,-y0,J,typC,h,cntR,c1]
theorem cr_ev3 (h:x.kind=3):evA 207 [.agg (typC x),.bl (vecC N v)] (.int .i64 (cntR x v)):=by
 refine q00 (c:=q0i) rfl rfl ?_;by_cases c1:x.max=0
 ·simp [q0i,-V,-y3,-y0,J,typC,h,cntR,c1]
 ·simp [q0i,-V,-y3,-y0,J,typC,h,cntR,c1]
theorem cr_ev4 (h:x.kind=4):evA 207 [.agg (typC x),.bl (vecC N v)] (.int .i64 (cntR x v)):=by
 refine q00 (c:=q0i) rfl rfl ?_;simp [q0i,-V,-y3,-y0,J,typC,h,cntR]
theorem cr_ev7 (h:x.kind=7):evA 207 [.agg (typC x),.bl (vecC N v)] (.int .i64 (cntR x v)):=by
 refine q00 (c:=q0i) rfl rfl ?_;have sc:=hx.elem (by omega);have gel:=q31 v sc;have md:=sc.1;by_cases c1:x.max=0
 ·simp [q0i,-V,-y3,-y0,J,typC,h,cntR,c1]
 ·by_cases c2:v x.elem.toNat=0
  ·simp [q0i,-V,-y3,-y0,J,typC,h,cntR,c1,c2,gel,md]
  ·simp [q0i,-V,-y3,-y0,J,typC,h,cntR,c1,c2,gel,md]
theorem cr_ev8 (h:x.kind=8):evA 207 [.agg (typC x),.bl (vecC N v)] (.int .i64 (cntR x v)):=by
 refine q00 (c:=q0i) rfl rfl ?_;have sc:=hx.elem (by omega);have gel:=q31 v sc;have md:=sc.1;by_cases c1:x.max=0
 ·simp [q0i,-V,-y3,-y0,J,typC,h,cntR,c1]
 ·by_cases c2:v x.elem.toNat=0
  ·simp [q0i,-V,-y3,-y0,J,typC,h,cntR,c1,c2,gel,md]
  ·simp [q0i,-V,-y3,-y0,J,typC,h,cntR,c1,c2,gel,md]
theorem cr_ev9 (h:x.kind=9):evA 207 [.agg (typC x),.bl (vecC N v)] (.int .i64 (cntR x v)):=by
 refine q00 (c:=q0i) rfl rfl ?_;have sc:=hx.elem (by omega);have gel:=q31 v sc;have md:=sc.1;have ve:=hv x.elem.toNat (by omega);have hw:IntKind.i64.wrap (1 + v x.elem.toNat)=1 + v x.elem.toNat:=IntWalk.i64_in _ (by omega);simp [q0i,-V,-y3,-y0,J,typC,h,cntR,gel,md,hw]
theorem cr_ev5 (h:x.kind=5):evA 207 [.agg (typC x),.bl (vecC N v)] (.int .i64 (cntR x v)):=by
 refine q00 (c:=q0i) rfl rfl ?_;simp [q0i,-V,-y3,-y0,J,typC,h,cntR];refine q06 x.mems.length (fun i s=>(s.env 1).v=.bl (vecC N v)/\(s.env 2).v=.ptr 2 1 0/\s.mem 2 1=some (q0b x)/\(s.env 6).v=.int .i64 i/\∃ a,(s.env 5).v=.int .i64 a/\recF v (x.mems.drop i) a=recF v x.mems 1/\0<=a/\a<=2)
  (fun e s=>e=.exit 1/\(s.env 5).v=.int .i64 (recF v x.mems 1)) (fun i hi s k h' ih hk=>?_) _ _ ?_ (fun e s h'=>?_)
 ·obtain ⟨e1,e2,e3,e4,a,ea,hs,hb⟩:=h';refine q02 ?_;by_cases fa:i<x.mems.length
  ·have ga:(i:Int)<x.mems.length:=by omega
   have g1:(x.mems.map memC)[i]?=some (memC x.mems[i]):=by simp [fa]
   have hw:=q0s (i:=i) (by have:=hx.few; omega);have im:=hx.mems x.mems[i] (y6 _);rw [y9 fa,recF] at hs;generalize x.mems[i]=m at *
   have pw:=hv m.ty.toNat (by omega);have gm:=q31 v im;have al:=im.1;have nh:=Int.mul_nonneg hb.1 pw.1;have fP:a * v m.ty.toNat<=2 * 2:=mul_mono hb.1 hb.2 pw.1 pw.2;have xh:IntKind.i64.wrap (a * v m.ty.toNat)=a * v m.ty.toNat:=IntWalk.i64_in _ (by omega);simp only [memC] at g1;simp [q5N,-V,-y3,-y0,J,e1,e2,e3,e4,ea,ga,g1,gm,al,hw,xh];refine ih fa _ ⟨?_,?_,?_,?_,min 2 (a * v m.ty.toNat),?_,hs,by omega⟩ <;> simp [e1,e2,e3]
  ·have ga:¬ (i:Int)<x.mems.length:=by omega
   simp [q5N,-V,-y3,-y0,J,e1,e2,e3,e4,ga];rw [ye (by omega),recF] at hs;exact hk _ _ ⟨rfl,by simp [ea,hs]⟩
 ·simp [typC,h]
 ·obtain ⟨rfl,ea⟩:=h';simp [-V,-y3,-y0,J,ea]
theorem cr_ev6 (h:x.kind=6):evA 207 [.agg (typC x),.bl (vecC N v)] (.int .i64 (cntR x v)):=by
 refine q00 (c:=q0i) rfl rfl ?_;simp [q0i,-V,-y3,-y0,J,typC,h,cntR];refine q06 x.mems.length (fun i s=>(s.env 1).v=.bl (vecC N v)/\(s.env 2).v=.ptr 2 1 0/\s.mem 2 1=some (q0b x)/\(s.env 8).v=.int .i64 i/\∃ a,(s.env 7).v=.int .i64 a/\capF v (x.mems.drop i) a=capF v x.mems 0/\0<=a/\a<=2)
  (fun e s=>e=.exit 3/\(s.env 7).v=.int .i64 (capF v x.mems 0)) (fun i hi s k h' ih hk=>?_) _ _ ?_ (fun e s h'=>?_)
 ·obtain ⟨e1,e2,e3,e4,a,ea,hs,hb⟩:=h';refine q02 ?_;by_cases fa:i<x.mems.length
  ·have ga:(i:Int)<x.mems.length:=by omega
   have g1:(x.mems.map memC)[i]?=some (memC x.mems[i]):=by simp [fa]
   have hw:=q0s (i:=i) (by have:=hx.few; omega);have im:=hx.mems x.mems[i] (y6 _);rw [y9 fa,capF] at hs;generalize x.mems[i]=m at *
   have pw:=hv m.ty.toNat (by omega);have gm:=q31 v im;have al:=im.1;have xh:IntKind.i64.wrap (a + v m.ty.toNat)=a + v m.ty.toNat:=IntWalk.i64_in _ (by omega);simp only [memC] at g1;simp [q5M,-V,-y3,-y0,J,e1,e2,e3,e4,ea,ga,g1,gm,al,hw,xh];refine ih fa _ ⟨?_,?_,?_,?_,min 2 (a + v m.ty.toNat),?_,hs,by omega⟩ <;> simp [e1,e2,e3]
  ·have ga:¬ (i:Int)<x.mems.length:=by omega
   simp [q5M,-V,-y3,-y0,J,e1,e2,e3,e4,ga];rw [ye (by omega),capF] at hs;exact hk _ _ ⟨rfl,by simp [ea,hs]⟩
 ·simp [typC,h]
 ·obtain ⟨rfl,ea⟩:=h';simp [-V,-y3,-y0,J,ea]
theorem cr_ev (hk:1<=x.kind/\x.kind<=9):evA 207 [.agg (typC x),.bl (vecC N v)] (.int .i64 (cntR x v)):=by
 rcases kinds x.kind with e | e | e | e | e | e | e | e | e | e
 ·exact cr_ev1 hv hx e
 ·exact cr_ev2 hv hx e
 ·exact cr_ev3 hv hx e
 ·exact cr_ev4 hv hx e
 ·exact cr_ev5 hv hx e
 ·exact cr_ev6 hv hx e
 ·exact cr_ev7 hv hx e
 ·exact cr_ev8 hv hx e
 ·exact cr_ev9 hv hx e
 ·exact absurd hk e
end
section
variable {N:Nat} {v:Vec} (hv:inR N v) {x:Typ} (hx:q2o N x)
include N v hv x hx
theorem cp_ev1 (h:x.kind=1):evA 205 [.agg (typC x),.bl (vecC N v)] (.int .i64 (cntP x v)):=by
 refine q00 (c:=q0a) rfl rfl ?_;simp [q0a,-V,-y3,-y0,J,typC,h,cntP]
theorem cp_ev2 (h:x.kind=2):evA 205 [.agg (typC x),.bl (vecC N v)] (.int .i64 (cntP x v)):=by
 refine q00 (c:=q0a) rfl rfl ?_;by_cases c1:x.low=x.high
 ·simp [q0a,-V,-y3,-y0,J,typC,h,cntP,c1]
 ·simp [q0a,-V,-y3,-y0,J,typC,h,cntP,c1]
theorem cp_ev3 (h:x.kind=3):evA 205 [.agg (typC x),.bl (vecC N v)] (.int .i64 (cntP x v)):=by
 refine q00 (c:=q0a) rfl rfl ?_;by_cases c1:x.max=0
 ·simp [q0a,-V,-y3,-y0,J,typC,h,cntP,c1]
 ·simp [q0a,-V,-y3,-y0,J,typC,h,cntP,c1]
theorem cp_ev4 (h:x.kind=4):evA 205 [.agg (typC x),.bl (vecC N v)] (.int .i64 (cntP x v)):=by
 refine q00 (c:=q0a) rfl rfl ?_;simp [q0a,-V,-y3,-y0,J,typC,h,cntP]
theorem cp_ev7 (h:x.kind=7):evA 205 [.agg (typC x),.bl (vecC N v)] (.int .i64 (cntP x v)):=by
 refine q00 (c:=q0a) rfl rfl ?_;have sc:=hx.elem (by omega);have gel:=q31 v sc;have md:=sc.1;by_cases c1:x.max=0
 ·simp [q0a,-V,-y3,-y0,J,typC,h,cntP,c1]
 ·by_cases c2:v x.elem.toNat=0
  ·simp [q0a,-V,-y3,-y0,J,typC,h,cntP,c1,c2,gel,md]
  ·simp [q0a,-V,-y3,-y0,J,typC,h,cntP,c1,c2,gel,md]
theorem cp_ev8 (h:x.kind=8):evA 205 [.agg (typC x),.bl (vecC N v)] (.int .i64 (cntP x v)):=by
 refine q00 (c:=q0a) rfl rfl ?_;have sc:=hx.elem (by omega);have gel:=q31 v sc;have md:=sc.1;have kh:=hx.key h;have gkl:=q31 v kh;have th:=kh.1;by_cases c1:x.max=0
 ·simp [q0a,-V,-y3,-y0,J,typC,h,cntP,c1]
 ·by_cases c2:v x.elem.toNat=0
  ·simp [q0a,-V,-y3,-y0,J,typC,h,cntP,c1,c2,gel,md]
  ·by_cases c3:v x.key.toNat=0
   ·simp [q0a,-V,-y3,-y0,J,typC,h,cntP,c1,c2,c3,gel,md,gkl,th]
   ·simp [q0a,-V,-y3,-y0,J,typC,h,cntP,c1,c2,c3,gel,md,gkl,th]
theorem cp_ev9 (h:x.kind=9):evA 205 [.agg (typC x),.bl (vecC N v)] (.int .i64 (cntP x v)):=by
 refine q00 (c:=q0a) rfl rfl ?_;have sc:=hx.elem (by omega);have gel:=q31 v sc;have md:=sc.1;have ve:=hv x.elem.toNat (by omega);have hw:IntKind.i64.wrap (1 + v x.elem.toNat)=1 + v x.elem.toNat:=IntWalk.i64_in _ (by omega);simp [q0a,-V,-y3,-y0,J,typC,h,cntP,gel,md,hw]
theorem cp_ev5 (h:x.kind=5):evA 205 [.agg (typC x),.bl (vecC N v)] (.int .i64 (cntP x v)):=by
 refine q00 (c:=q0a) rfl rfl ?_;simp [q0a,-V,-y3,-y0,J,typC,h,cntP];refine q06 x.mems.length (fun i s=>(s.env 1).v=.bl (vecC N v)/\(s.env 33).v=.sl x.mn (x.mems.map memC)/\(s.env 34).v=.int .i64 x.mems.length/\(s.env 35).v=.int .i64 i/\∃ a,(s.env 5).v=.int .i64 a/\recF v (x.mems.drop i) a=recF v x.mems 1/\0<=a/\a<=2)
  (fun e s=>e=.exit 1/\(s.env 5).v=.int .i64 (recF v x.mems 1)) (fun i hi s k h' ih hk=>?_) _ _ ?_ (fun e s h'=>?_)
 ·obtain ⟨e1,e2,e3,e4,a,ea,hs,hb⟩:=h';refine q02 ?_;by_cases fa:i<x.mems.length
  ·have ga:(i:Int)<x.mems.length:=by omega
   have g1:(x.mems.map memC)[i]?=some (memC x.mems[i]):=by simp [fa]
   have hw:=q0s (i:=i) (by have:=hx.few; omega);have im:=hx.mems x.mems[i] (y6 _);rw [y9 fa,recF] at hs;generalize x.mems[i]=m at *
   have pw:=hv m.ty.toNat (by omega);have gm:=q31 v im;have al:=im.1;have nh:=Int.mul_nonneg hb.1 pw.1;have fP:a * v m.ty.toNat<=2 * 2:=mul_mono hb.1 hb.2 pw.1 pw.2;have xh:IntKind.i64.wrap (a * v m.ty.toNat)=a * v m.ty.toNat:=IntWalk.i64_in _ (by omega);simp only [memC] at g1;simp [q4w,-V,-y3,-y0,J,e1,e2,e3,e4,ea,ga,g1,gm,al,hw,xh];refine ih fa _ ⟨?_,?_,?_,?_,min 2 (a * v m.ty.toNat),?_,hs,by omega⟩ <;> simp [e1,e2,e3]
  ·have ga:¬ (i:Int)<x.mems.length:=by omega
   simp [q4w,-V,-y3,-y0,J,e1,e2,e3,e4,ga];rw [ye (by omega),recF] at hs;exact hk _ _ ⟨rfl,by simp [ea,hs]⟩
 ·simp [typC,h]
 ·obtain ⟨rfl,ea⟩:=h';simp [-V,-y3,-y0,J,ea]
theorem cp_ev6 (h:x.kind=6):evA 205 [.agg (typC x),.bl (vecC N v)] (.int .i64 (cntP x v)):=by
 refine q00 (c:=q0a) rfl rfl ?_;simp [q0a,-V,-y3,-y0,J,typC,h,cntP];refine q06 x.mems.length (fun i s=>(s.env 1).v=.bl (vecC N v)/\(s.env 52).v=.sl x.mn (x.mems.map memC)/\(s.env 53).v=.int .i64 x.mems.length/\(s.env 54).v=.int .i64 i/\∃ a,(s.env 8).v=.int .i64 a/\sumF v (x.mems.drop i) a=sumF v x.mems 0/\0<=a/\a<=2 * i)
  (fun e s=>e=.exit 3/\(s.env 8).v=.int .i64 (sumF v x.mems 0)) (fun i hi s k h' ih hk=>?_) _ _ ?_ (fun e s h'=>?_)
 ·obtain ⟨e1,e2,e3,e4,a,ea,hs,hb⟩:=h';refine q02 ?_;by_cases fa:i<x.mems.length
  ·have ga:(i:Int)<x.mems.length:=by omega
   have g1:(x.mems.map memC)[i]?=some (memC x.mems[i]):=by simp [fa]
   have hw:=q0s (i:=i) (by have:=hx.few; omega);have im:=hx.mems x.mems[i] (y6 _);rw [y9 fa,sumF] at hs;generalize x.mems[i]=m at *
   have pw:=hv m.ty.toNat (by omega);have gm:=q31 v im;have al:=im.1;have xh:IntKind.i64.wrap (a + v m.ty.toNat)=a + v m.ty.toNat:=IntWalk.i64_in _ (by have:=hx.few; omega);simp only [memC] at g1;simp [q4v,-V,-y3,-y0,J,e1,e2,e3,e4,ea,ga,g1,gm,al,hw,xh];refine ih fa _ ⟨?_,?_,?_,?_,a + v m.ty.toNat,?_,hs,by omega⟩ <;> simp [e1,e2,e3]
  ·have ga:¬ (i:Int)<x.mems.length:=by omega
   simp [q4v,-V,-y3,-y0,J,e1,e2,e3,e4,ga];rw [ye (by omega),sumF] at hs;exact hk _ _ ⟨rfl,by simp [ea,hs]⟩
 ·simp [typC,h]
 ·obtain ⟨rfl,ea⟩:=h';simp [-V,-y3,-y0,J,ea]
theorem cp_ev (hk:1<=x.kind/\x.kind<=9):evA 205 [.agg (typC x),.bl (vecC N v)] (.int .i64 (cntP x v)):=by
 rcases kinds x.kind with e | e | e | e | e | e | e | e | e | e
 ·exact cp_ev1 hv hx e
 ·exact cp_ev2 hv hx e
 ·exact cp_ev3 hv hx e
 ·exact cp_ev4 hv hx e
 ·exact cp_ev5 hv hx e
 ·exact cp_ev6 hv hx e
 ·exact cp_ev7 hv hx e
 ·exact cp_ev8 hv hx e
 ·exact cp_ev9 hv hx e
 ·exact absurd hk e
end
theorem qb1 {l:List Mem} (h:q0A l []=true):l=[]:=by
 cases l with
 | nil=>rfl
 | cons=>simp [q0A] at h
theorem good_few {t:Typ} (h:q0L t=true):t.mems.length<=16:=by
 have hk:=q6G h;unfold q0L q6R Typ.left at h;rcases kinds t.kind with e | e | e | e | e | e | e | e | e | e
 all_goals first | exact absurd hk e | skip
 all_goals simp [e,Typ.same,q1S,q5B] at h
 all_goals first
  | (obtain ⟨⟨_,h⟩,_⟩:=h; omega)
  | (have:=qb1 h.2; rw [this]; simp)
  | (have:=qb1 h.2.2; rw [this]; simp)
  | omega
theorem q1R {S:List Typ} (h:valid S=0):∀ x∈S,q2o S.length x:=fun x hx=>by
 obtain ⟨j,hj,rfl⟩:=yx hx;obtain ⟨h1,h2⟩:=q4W (q3E h j hj);generalize S[j]=t at *
 have use:∀ u∈t.usesL,0<=u/\u<S.length:=fun u hu=>by
  have:=List.any_eq_false.1 h2 u hu;simp [q0O] at this;omega
 refine ⟨fun m hm=>use _ ?_,good_few h1,fun h7=>use _ ?_,fun h8=>key_in h8 h2⟩
 ·unfold Typ.usesL;exact List.mem_append_left _ (List.mem_append_left _ (yX hm))
 ·unfold Typ.usesL;rw [if_pos h7];exact List.mem_append_right _ (by simp)
theorem q5I {S:List Typ} (h:valid S=0):S.length<=32:=by
 unfold valid at h;by_cases nu:32<S.length
 ·rw [if_pos nu] at h; cases h
 ·omega
theorem vec0 (N:Nat):(yA N [AV.int .i64 0]).flatten.map (fun v=>(⟨v,.no⟩:Slot))=q0c (vecC N fun _=>0):=by
 unfold q0c;congr 1;congr 1;apply List.ext_getElem?;intro i;by_cases h:i<N
 ·simp [vecC,h]
 ·simp [vecC,h]
theorem vec0' (N:Nat):yA N (⟨AV.int .i64 0,.no⟩:Slot)=q0c (vecC N fun _=>0):=by
 rw [<- vec0];simp
theorem vec_els (N:Nat) (v:Vec):q2R (q0c (vecC N v)) 1 0 N=some (vecC N v):=by
 have:=q50 (qbQ N v) (vecC_free N v)
 rwa [qbR] at this
theorem vec_load (N:Nat) (v:Vec) {i:Nat} (hi:i<N):q0Y false 1 i (q0c (vecC N v))=some ⟨.int .i64 (v i),.no⟩:=rowOf_load1 (qbQ N v) (by have:=q31 v (t:=(i:Int)) (N:=N) (by omega); simpa using this) 1
theorem vec_at (N:Nat) (v:Vec) {i:Nat} (hi:i<N):(q0c (vecC N v))[i]?=some ⟨.int .i64 (v i),.no⟩:=rowOf_at (qbQ N v) (by have:=q31 v (t:=(i:Int)) (N:=N) (by omega); simpa using this)
theorem vec_store (N:Nat) (v w:Vec) {i:Nat} (hi:i<N) {x:Int} (hx:w i=x) (h:∀ j,j≠i->w j=v j):q0f false 1 i (q0c (vecC N v)) (.int .i64 x) .no=some (q0c (vecC N w)):=by
 rw [rowOf_store1 (qbQ N v) (by rw [qbR]; exact hi) rfl,vecC_set v w hx h]
theorem lfp {N:Nat} {F:Nat->Vec->Int} (G:Grows N F):∃ w,Low N F w/\∀ j,j<N->F j w=w j:=by
 have:∀ (k:Nat) (v:Vec),Low N F v->2 * (N:Int) - sumV N v<=k->∃ w,Low N F w/\∀ j,j<N->F j w=w j:=by
  intro k
  induction k with
  | zero =>
   intro v hv hk;refine ⟨v,hv,fun j hj=>Classical.byContradiction fun oa=>?_⟩;have h1:=sumV_le _ N (Low.upd G hv hj).rng;rw [qaf F v j N hj] at h1;have:=hv.post j hj;omega
  | succ k ih =>
   intro v hv hk;by_cases h:∀ j,j<N->F j v=v j
   ·exact ⟨v,hv,h⟩
   ·obtain ⟨j,hj⟩:=Classical.not_forall.1 h;obtain ⟨hj,oa⟩:=Classical.not_imp.1 hj;refine ih (upd F v j) (Low.upd G hv hj) ?_;rw [qaf F v j N hj];have:=hv.post j hj;omega
 exact this (2 * N) _ (Low.zero G) (by have:=sumV_0 (fun _=>0) N (fun j _=>⟨Int.le_refl _,by show (0:Int)<=2; decide⟩); omega)
theorem lfp_eq {N:Nat} {F:Nat->Vec->Int} {v w:Vec} (hv:Low N F v) (fv:∀ j,j<N->F j v=v j) (hw:Low N F w) (fw:∀ j,j<N->F j w=w j):∀ j,j<N->v j=w j:=fun j hj=>by
 have h1:=hv.least w hw.rng (fun j hj=>by rw [fw j hj]; exact Int.le_refl _) j hj;have h2:=hw.least v hv.rng (fun j hj=>by rw [fv j hj]; exact Int.le_refl _) j hj;omega
theorem q7C {N:Nat} {v w:Vec} (h:∀ j,j<N->v j=w j):vecC N v=vecC N w:=by
 unfold vecC;exact yl fun j hj=>by rw [h j (List.mem_range.1 hj)]
theorem counts_ev (s:Sch) (h0:valid s.types=0) {w:Vec} (hw:Low s.types.length (FP s.types) w) (fw:∀ j,j<s.types.length->FP s.types j w=w j):evA 174 [.agg (schC s)] (.sl false (vecC s.types.length w)):=by
 have hW:=q1R h0;have hN:=q5I h0;have hG:=FP_grows hW;have wr:∀ x∈s.types,1<=x.kind/\x.kind<=9:=fun x hx=>by
  obtain ⟨j,hj,rfl⟩:=yx hx;exact q6G (q4W (q3E h0 j hj)).1
 clear h0;simp only [schC];generalize s.types=S at *
 generalize s.nl=b at *
 obtain ⟨N,si⟩:∃ N,N=S.length:=⟨_,rfl⟩;rw [<- si] at hW hN hG hw fw ⊢;have ba:q0G 8 N=true:=by rw [q0d]; omega
 have df:(N:Int)=(S.length:Int):=by omega
 refine q00 (c:=q3X) rfl rfl ?_;have eH:N * 8<=140737488355328:=by omega
 have uy:N<=140737488355328:=by omega
 simp [q3X,-V,-y3,-y0,J,-q0Y,-q0f,q0K,q0S,q0o,q0p,<- si,eH,uy];refine q06 (2 * N + 1) (fun r σ=>(σ.env 1).v=.ptr 1 1 0/\σ.mem 1 1=some [⟨.sl b (S.map typC),.no⟩]/\(σ.env 3).v=.ref 11 2 1 0 N N/\∃ v,σ.mem 11 2=some (q0c (vecC N v))/\Low N (FP S) v/\((σ.env 4).v=.bool true/\(r:Int)<=sumV N v\/(σ.env 4).v=.bool false/\∀ j,j<N->FP S j v=v j))
  (fun e σ=>e=.exit 0/\(σ.env 3).v=.ref 11 2 1 0 N N/\∃ v,σ.mem 11 2=some (q0c (vecC N v))/\Low N (FP S) v/\∀ j,j<N->FP S j v=v j) (fun r hr σ k h ih hk=>?_) _ _ ?_ (fun e σ h=>?_)
 ·obtain ⟨e1,m1,e3,v0,m3,lA,za⟩:=h;refine q02 ?_;rcases za with ⟨e4,hsum⟩ | ⟨e4,lH⟩
  case inr =>
   simp [q4b,-V,-y3,-y0,J,-q0Y,-q0f,q0K,q0S,q0o,q0p,e4];exact hk _ _ ⟨rfl,by simp [e3],v0,by simp [m3],lA,lH⟩
  have xI:r<2 * N + 1:=by
   have:=sumV_le v0 N lA.rng;omega
  simp [q4b,-V,-y3,-y0,J,-q0Y,-q0f,q0K,q0S,q0o,q0p,e1,m1,e4,<- si];refine q06 N (fun i σ=>(σ.env 1).v=.ptr 1 1 0/\σ.mem 1 1=some [⟨.sl b (S.map typC),.no⟩]/\(σ.env 3).v=.ref 11 2 1 0 N N/\(σ.env 14).v=.sl b (S.map typC)/\(σ.env 15).v=.int .i64 N/\(σ.env 16).v=.int .i64 i/\∃ v,σ.mem 11 2=some (q0c (vecC N v))/\Low N (FP S) v/\((σ.env 4).v=.bool false/\v=v0/\(∀ j,j<i->FP S j v=v j)\/(σ.env 4).v=.bool true/\sumV N v0 + 1<=sumV N v))
   (fun e σ=>e=.exit 2/\(σ.env 1).v=.ptr 1 1 0/\σ.mem 1 1=some [⟨.sl b (S.map typC),.no⟩]/\(σ.env 3).v=.ref 11 2 1 0 N N/\∃ v,σ.mem 11 2=some (q0c (vecC N v))/\Low N (FP S) v/\((σ.env 4).v=.bool false/\(∀ j,j<N->FP S j v=v j)\/(σ.env 4).v=.bool true/\sumV N v0 + 1<=sumV N v)) (fun i hi σ k' h tw zc=>?_) _ _ ?_ (fun e σ h=>?_)
  ·obtain ⟨f1,n1,f3,f14,f15,f16,v,n3,hv,za⟩:=h;refine q02 ?_;by_cases fa:i<N
   ·have ga:(i:Int)<N:=by omega
    have pj:i<S.length:=by omega
    have g1:(S.map typC)[i]?=some (typC S[i]):=by simp [pj]
    have uc:=q0s (i:=i);have hc:=cp_ev hv.rng (hW _ (y6 pj)) (wr _ (y6 pj));have hF:FP S i v=min 2 (cntP S[i] v):=by unfold FP; rw [y5 pj]
    generalize S[i]=x at *
    simp only [typC] at g1;simp only [evA,typC] at hc;have sc:=vec_els N v;have zr:=vec_load N v fa;have wc:=vec_at N v fa;have rt:=hv.post i fa;have kJ:=Low.upd hG hv fa;have lw:=qaf (FP S) v i N fa;have fu:=vec_store N v (upd (FP S) v i) fa (x:=FP S i v) (by simp [upd]) (fun j hj=>by simp [upd,hj]);rw [hF] at rt lw fu;by_cases oa:min 2 (cntP x v)=v i
    ·rcases za with ⟨f4,rfl,hj⟩ | ⟨f4,kp⟩
     ·simp [q2a,-V,-y3,-y0,J,-q0Y,-q0f,q0K,q0S,q0o,q0p,f1,n1,f3,f14,f15,f16,n3,ga,g1,sc,hc,zr,wc,uc,fa,oa];refine tw fa _ ⟨?_,?_,?_,?_,?_,?_,v,?_,hv,.inl ⟨?_,rfl,fun j eI=>?_⟩⟩
      case refine_9=>
       rcases Nat.lt_succ_iff_lt_or_eq.1 eI with h | rfl
       ·exact hj j h
       ·exact hF.trans oa
      all_goals simp [f1,n1,f3,f14,f15,n3,f4]
     ·simp [q2a,-V,-y3,-y0,J,-q0Y,-q0f,q0K,q0S,q0o,q0p,f1,n1,f3,f14,f15,f16,n3,ga,g1,sc,hc,zr,wc,uc,fa,oa];refine tw fa _ ⟨?_,?_,?_,?_,?_,?_,v,?_,hv,.inr ⟨?_,kp⟩⟩
      all_goals simp [f1,n1,f3,f14,f15,n3,f4]
    ·simp [q2a,-V,-y3,-y0,J,-q0Y,-q0f,q0K,q0S,q0o,q0p,f1,n1,f3,f14,f15,f16,n3,ga,g1,sc,hc,zr,wc,uc,fa,oa,fu];refine tw fa _ ⟨?_,?_,?_,?_,?_,?_,upd (FP S) v i,?_,kJ,.inr ⟨?_,?_⟩⟩
     case refine_9 =>
      rcases za with ⟨f4,rfl,hj⟩ | ⟨f4,kp⟩ <;> omega
     all_goals simp [f1,n1,f3,f14,f15,n3]
   ·have ga:¬ (i:Int)<N:=by omega
    have gj:i=N:=by omega
    simp [q2a,-V,-y3,-y0,J,-q0Y,-q0f,q0K,q0S,q0o,q0p,f15,f16,ga];refine zc _ _ ⟨rfl,by simp [f1],by simp [n1],by simp [f3],v,by simp [n3],hv,?_⟩;rcases za with ⟨f4,rfl,hj⟩ | ⟨f4,kp⟩
    ·exact .inl ⟨by simp [f4],gj ▸ hj⟩
    ·exact .inr ⟨by simp [f4],kp⟩
  ·refine ⟨?_,?_,?_,?_,?_,?_,v0,?_,lA,.inl ⟨?_,rfl,fun j hj=>absurd hj (by omega)⟩⟩
   all_goals simp [e1,m1,e3,m3]
  ·obtain ⟨rfl,e1,m1,e3,v,m3,hv,za⟩:=h;simp [-V,-y3,-y0,J,-q0Y,-q0f,q0K,q0S,q0o,q0p];refine ih xI _ ⟨by simp [e1],by simp [m1],by simp [e3],v,by simp [m3],hv,?_⟩;rcases za with ⟨e4,hf⟩ | ⟨e4,hs⟩
   ·exact .inr ⟨by simp [e4],hf⟩
   ·exact .inl ⟨by simp [e4],by omega⟩
 ·refine ⟨?_,?_,?_,fun _=>0,?_,Low.zero hG,.inl ⟨?_,?_⟩⟩
  case refine_4=>simp [vec0']
  case refine_6=>exact sumV_0 _ N (fun j _=>⟨Int.le_refl _,by show (0:Int)<=2; decide⟩)
  all_goals simp
 ·obtain ⟨rfl,e3,v,m3,hv,hf⟩:=h;have sc:=vec_els N v;rw [q7C (lfp_eq hv hf hw fw)] at sc;rw [q7C (lfp_eq hv hf hw fw)] at m3;simp [-V,-y3,-y0,J,-q0Y,-q0f,q0K,q0S,q0o,q0p,e3,m3,sc]
theorem rcounts_ev (s:Sch) (h0:valid s.types=0) {w:Vec} (hw:Low s.types.length (FR s.types) w) (fw:∀ j,j<s.types.length->FR s.types j w=w j):evA 176 [.agg (schC s)] (.sl false (vecC s.types.length w)):=by
 have hW:=q1R h0;have hN:=q5I h0;have hG:=FR_grows hW;have wr:∀ x∈s.types,1<=x.kind/\x.kind<=9:=fun x hx=>by
  obtain ⟨j,hj,rfl⟩:=yx hx;exact q6G (q4W (q3E h0 j hj)).1
 clear h0;simp only [schC];generalize s.types=S at *
 generalize s.nl=b at *
 obtain ⟨N,si⟩:∃ N,N=S.length:=⟨_,rfl⟩;rw [<- si] at hW hN hG hw fw ⊢;have eH:N * 8<=140737488355328:=by omega
 have uy:N<=140737488355328:=by omega
 have xh:IntKind.i64.wrap (2 * (N:Int))=2 * N:=IntWalk.i64_in _ (by omega);refine q00 (c:=q5k) rfl rfl ?_;simp [q5k,-V,-y3,-y0,J,-q0Y,-q0f,q0K,q0S,q0o,q0p,<- si,eH,uy];refine q06 (2 * N + 1) (fun r σ=>(σ.env 1).v=.ptr 1 1 0/\σ.mem 1 1=some [⟨.sl b (S.map typC),.no⟩]/\(σ.env 3).v=.ref 9 2 1 0 N N/\(σ.env 4).v=.int .i64 r/\∃ v,σ.mem 9 2=some (q0c (vecC N v))/\Low N (FR S) v/\((r:Int)<=sumV N v\/∀ j,j<N->FR S j v=v j))
  (fun e σ=>e=.exit 0/\(σ.env 3).v=.ref 9 2 1 0 N N/\∃ v,σ.mem 9 2=some (q0c (vecC N v))/\Low N (FR S) v/\∀ j,j<N->FR S j v=v j) (fun r hr σ k h ih hk=>?_) _ _ ?_ (fun e σ h=>?_)
 ·obtain ⟨e1,m1,e3,e4,v0,m3,lA,za⟩:=h;refine q02 ?_;by_cases xI:r<2 * N + 1
  case neg =>
   have ga:¬ (r:Int)<=2 * N:=by omega
   simp [q58,-V,-y3,-y0,J,-q0Y,-q0f,q0K,q0S,q0o,q0p,e1,m1,e4,<- si,xh,ga];refine hk _ _ ⟨rfl,by simp [e3],v0,by simp [m3],lA,?_⟩;rcases za with h | h
   ·have:=sumV_le v0 N lA.rng;omega
   ·exact h
  have ga:(r:Int)<=2 * N:=by omega
  have gv:=q0s (i:=r);simp [q58,-V,-y3,-y0,J,-q0Y,-q0f,q0K,q0S,q0o,q0p,e1,m1,e4,<- si,xh,ga];refine q06 N (fun i σ=>(σ.env 1).v=.ptr 1 1 0/\σ.mem 1 1=some [⟨.sl b (S.map typC),.no⟩]/\(σ.env 3).v=.ref 9 2 1 0 N N/\(σ.env 4).v=.int .i64 r/\(σ.env 5).v=.int .i64 i/\∃ v,σ.mem 9 2=some (q0c (vecC N v))/\Low N (FR S) v/\((∀ j,j<N->FR S j v0=v0 j)->v=v0)/\(v=v0/\(∀ j,j<i->FR S j v=v j)\/sumV N v0 + 1<=sumV N v))
   (fun e σ=>e=.exit 2/\(σ.env 1).v=.ptr 1 1 0/\σ.mem 1 1=some [⟨.sl b (S.map typC),.no⟩]/\(σ.env 3).v=.ref 9 2 1 0 N N/\(σ.env 4).v=.int .i64 r/\∃ v,σ.mem 9 2=some (q0c (vecC N v))/\Low N (FR S) v/\((∀ j,j<N->FR S j v=v j)\/(r:Int) + 1<=sumV N v)) (fun i hi σ k' h tw zc=>?_) _ _ ?_ (fun e σ h=>?_)
  ·obtain ⟨f1,n1,f3,f4,f5,v,n3,hv,ax,eu⟩:=h;refine q02 ?_;by_cases fa:i<N
   ·have ga:(i:Int)<N:=by omega
    have pj:i<S.length:=by omega
    have g1:(S.map typC)[i]?=some (typC S[i]):=by simp [pj]
    have uc:=q0s (i:=i);have hc:=cr_ev hv.rng (hW _ (y6 pj)) (wr _ (y6 pj));have hF:FR S i v=cntR S[i] v:=by unfold FR; rw [y5 pj]
    generalize S[i]=x at *
    simp only [typC] at g1;simp only [evA,typC] at hc;have sc:=vec_els N v;have rt:=hv.post i fa;have kJ:=Low.upd hG hv fa;have lw:=qaf (FR S) v i N fa;have fu:=vec_store N v (upd (FR S) v i) fa (x:=FR S i v) (by simp [upd]) (fun j hj=>by simp [upd,hj]);have aj:FR S i v=v i->upd (FR S) v i=v:=upd_same;rw [hF] at rt lw fu;have dD:(i:Int)<S.length:=by omega
    simp [q57,-V,-y3,-y0,J,-q0Y,-q0f,q0K,q0S,q0o,q0p,f1,n1,f3,f4,f5,n3,dD,g1,sc,hc,uc,fa,fu];refine tw fa _ ⟨?_,?_,?_,?_,?_,upd (FR S) v i,?_,kJ,?_,?_⟩
    case refine_7 =>
     intro ta;have e:=ax ta;subst e;exact aj (ta i fa)
    case refine_8 =>
     by_cases oa:FR S i v=v i
     ·rw [aj oa];rcases eu with ⟨rfl,hj⟩ | hs
      ·refine .inl ⟨rfl,fun j eI=>?_⟩;rcases Nat.lt_succ_iff_lt_or_eq.1 eI with h | rfl
       ·exact hj j h
       ·exact oa
      ·exact .inr hs
     ·right;rw [hF] at oa;rcases eu with ⟨rfl,hj⟩ | hs <;> omega
    all_goals simp [f1,n1,f3,f4]
   ·have ga:¬ (i:Int)<N:=by omega
    have gj:i=N:=by omega
    simp [q57,-V,-y3,-y0,J,-q0Y,-q0f,q0K,q0S,q0o,q0p,f1,n1,f5,<- si,ga];refine zc _ _ ⟨rfl,by simp [f1],by simp [n1],by simp [f3],by simp [f4],v,by simp [n3],hv,?_⟩;rcases za with hr | ta
    ·rcases eu with ⟨rfl,hj⟩ | hs
     ·exact .inl (gj ▸ hj)
     ·exact .inr (by omega)
    ·rw [ax ta]; exact .inl ta
  ·refine ⟨?_,?_,?_,?_,?_,v0,?_,lA,fun _=>rfl,.inl ⟨rfl,fun j hj=>absurd hj (by omega)⟩⟩
   all_goals simp [e1,m1,e3,e4,m3]
  ·obtain ⟨rfl,f1,n1,f3,f4,v,n3,hv,eu⟩:=h;simp [-V,-y3,-y0,J,-q0Y,-q0f,q0K,q0S,q0o,q0p,f4,gv];refine ih xI _ ⟨by simp [f1],by simp [n1],by simp [f3],by simp,v,by simp [n3],hv,?_⟩;rcases eu with h | h
   ·exact .inr h
   ·exact .inl (by omega)
 ·refine ⟨?_,?_,?_,?_,fun _=>0,?_,Low.zero hG,.inl ?_⟩
  case refine_5=>simp [vec0']
  case refine_6=>exact sumV_0 _ N (fun j _=>⟨Int.le_refl _,by show (0:Int)<=2; decide⟩)
  all_goals simp
 ·obtain ⟨rfl,e3,v,m3,hv,hf⟩:=h;have sc:=vec_els N v;rw [q7C (lfp_eq hv hf hw fw)] at sc;rw [q7C (lfp_eq hv hf hw fw)] at m3;simp [-V,-y3,-y0,J,-q0Y,-q0f,q0K,q0S,q0o,q0p,e3,m3,sc]
theorem both_cnts (s:Sch) (h0:valid s.types=0):∃ w:Vec,Low s.types.length (FP s.types) w/\(∀ j,j<s.types.length->FP s.types j w=w j)/\evA 174 [.agg (schC s)] (.sl false (vecC s.types.length w))/\evA 176 [.agg (schC s)] (.sl false (vecC s.types.length w)):=by
 have hW:=q1R h0;obtain ⟨v,hv,fv⟩:=lfp (FP_grows hW);obtain ⟨w,hw,fw⟩:=lfp (FR_grows hW);have h1:=counts_ev s h0 hv fv;have h2:=rcounts_ev s h0 hw fw;refine ⟨v,hv,fv,h1,?_⟩;rw [q7C (FPR hW ?_ hv fv hw fw)]
 ·exact h2
 ·intro x hx h8 u hu;obtain ⟨j,hj,rfl⟩:=yx hx;have he:=q3E h0 j hj;obtain ⟨hg,ho⟩:=q4W he;obtain ⟨k0,k1⟩:=key_in h8 ho;have fa:s.types[j].key.toNat<s.types.length:=by omega
  have sb:1<=s.types[s.types[j].key.toNat].kind/\s.types[s.types[j].key.toNat].kind<=4:=by
   have bI:q6H s.types s.types[j].key=s.types[s.types[j].key.toNat].kind:=by unfold q6H; rw [y5 fa]
   rw [<- bI];refine Classical.byContradiction fun hn=>?_
   unfold q22 at he;rw [if_neg (by simp [hg])] at he;by_cases h2:s.types[j].named=true/\s.types[j].name∈(s.types.take j).map Typ.name
   ·rw [if_pos h2] at he; cases he
   ·rw [if_neg h2,if_neg (by simp [ho]),if_pos ⟨h8,hn⟩] at he;cases he
  have tH:=(q4W (q3E h0 _ fa)).1;unfold FP;rw [y5 fa];generalize s.types[s.types[j].key.toNat]=y at *
  have hy:y.kind=1\/y.kind=2\/y.kind=3\/y.kind=4:=by omega
  simp only;rcases hy with e | e | e | e
  ·simp [cntP,e]
  ·simp [cntP,e]; split <;> decide
  ·simp [cntP,e]; split <;> decide
  ·have:0<y.syms.length:=by
    unfold q0L q6R q90 at tH;simp [e] at tH;exact tH.1.2.1
   simp [cntP,e];omega
def posV (w:Vec) (n:Nat):List (List AV):=(List.range n).map fun j=>[AV.bool (decide (0<w j))]
theorem qaa (w:Vec) (n:Nat):posV w (n + 1)=posV w n++[[AV.bool (decide (0<w n))]]:=by simp [posV,J]
theorem posV_els (w:Vec) (n:Nat):q13 1 (posV w n)=true:=q1a _ _ _ fun _=>rfl
theorem qbN (w:Vec) (n:Nat):(posV w n).length=n:=by simp [posV]
theorem posV_get (w:Vec) {n i:Nat} (h:i<n):(posV w n)[i]?=some [.bool (decide (0<w i))]:=by simp [posV,h]
noncomputable def finA (S:List Typ) (w:Vec):AV:=if q39 S=0 then .tup [.sl (decide (S.length=0)) (posV w S.length),.int .i64 0] else .tup [.sl true [],.int .i64 (q39 S)]
theorem q7t {S:List Typ} (h:q39 S=0):valid S=0:=by
 unfold q39 at h;by_cases h0:valid S=0
 ·exact h0
 ·rw [if_neg h0] at h; exact absurd h h0
theorem finite_ev (s:Sch) (hs:s.fine) (od:s.d64) {w:Vec} (hw:q39 s.types=0->inR s.types.length w/\evA 174 [.agg (schC s)] (.sl false (vecC s.types.length w))):evA 144 [.agg (schC s)] (finA s.types w):=by
 have hr:=right_ev s hs od;refine q00 (c:=q33) rfl rfl ?_;unfold finA;simp only [evA,schC] at hr hw;by_cases h0:q39 s.types=0
 case neg =>
  rw [if_neg h0];simp [q33,-V,-y3,-y0,J,schC,hr,h0]
 have hN:=q5I (q7t h0);obtain ⟨iA,hc⟩:=hw h0;rw [if_pos h0];rw [h0] at hr;simp only [schC];generalize s.types=S at *
 generalize s.nl=b at *
 obtain ⟨N,si⟩:∃ N,N=S.length:=⟨_,rfl⟩;rw [<- si] at hN iA hc ⊢;have cu:=qbR N w;simp [q33,-V,-y3,-y0,J,schC,hr,hc,cu];refine q06 N (fun i σ=>(σ.env 14).v=.sl false (vecC N w)/\(σ.env 15).v=.int .i64 N/\(σ.env 16).v=.int .i64 i/\(σ.env 5).v=.sl (decide (i=0)) (posV w i)/\(i=0/\(σ.env 5).a=.ex\/¬ i=0/\(σ.env 5).a=.own 24 4))
  (fun e σ=>e=.exit 0/\(σ.env 5).v=.sl (decide (N=0)) (posV w N)) (fun i hi σ k h ih hk=>?_) _ _ ?_ (fun e σ h=>?_)
 ·obtain ⟨kf,fc,oc,e5,an⟩:=h;refine q02 ?_;by_cases fa:i<N
  ·have ga:(i:Int)<N:=by omega
   have g1:(vecC N w)[i]?=some [.int .i64 (w i)]:=by have:=q31 w (t:=(i:Int)) (N:=N) (by omega); simpa using this
   have og:=q0s (i:=i);have q:=posV_els w i;have ql:=qbN w i;have ba:q0G 1 (i + 1)=true:=by rw [q0d]; omega
   rcases an with ⟨a0,a5⟩ | ⟨a0,a5⟩
   ·simp [q2U,-V,-y3,-y0,J,kf,fc,oc,e5,a5,ga,g1,q,ql,og,ba];refine ih fa _ ⟨?_,?_,?_,?_,?_⟩ <;> simp [kf,fc,qaa,An.strip]
   ·simp [q2U,-V,-y3,-y0,J,kf,fc,oc,e5,a0,a5,ga,g1,q,ql,og,ba];refine ih fa _ ⟨?_,?_,?_,?_,?_⟩ <;> simp [kf,fc,qaa,An.strip]
  ·have ga:¬ (i:Int)<N:=by omega
   have gj:i=N:=by omega
   simp [q2U,-V,-y3,-y0,J,fc,oc,ga];exact hk _ _ ⟨rfl,by rw [<- gj]; simp [e5]⟩
 ·simp [posV]
 ·obtain ⟨rfl,e5⟩:=h;simp [-V,-y3,-y0,J,e5]
theorem rfinite_ev (s:Sch) (hs:s.fine) (od:s.d64) {w:Vec} (hw:q39 s.types=0->inR s.types.length w/\evA 176 [.agg (schC s)] (.sl false (vecC s.types.length w))):evA 145 [.agg (schC s)] (finA s.types w):=by
 have hr:=rerror_ev s hs od;refine q00 (c:=q3T) rfl rfl ?_;unfold finA;simp only [evA,schC] at hr hw;by_cases h0:q39 s.types=0
 case neg =>
  rw [if_neg h0];simp [q3T,-V,-y3,-y0,J,schC,hr,h0]
 have hN:=q5I (q7t h0);obtain ⟨iA,hc⟩:=hw h0;rw [if_pos h0];rw [h0] at hr;simp only [schC];generalize s.types=S at *
 generalize s.nl=b at *
 obtain ⟨N,si⟩:∃ N,N=S.length:=⟨_,rfl⟩;rw [<- si] at hN iA hc ⊢;have cu:=qbR N w;simp [q3T,-V,-y3,-y0,J,schC,hr,hc];refine q06 N (fun i σ=>(σ.env 5).v=.sl false (vecC N w)/\(σ.env 7).v=.int .i64 i/\(σ.env 6).v=.sl (decide (i=0)) (posV w i)/\(i=0/\(σ.env 6).a=.ex\/¬ i=0/\(σ.env 6).a=.own 28 4))
  (fun e σ=>e=.exit 0/\(σ.env 6).v=.sl (decide (N=0)) (posV w N)) (fun i hi σ k h ih hk=>?_) _ _ ?_ (fun e σ h=>?_)
 ·obtain ⟨e5,e7,e6,an⟩:=h;refine q02 ?_;by_cases fa:i<N
  ·have ga:(i:Int)<N:=by omega
   have g1:(vecC N w)[i]?=some [.int .i64 (w i)]:=by have:=q31 w (t:=(i:Int)) (N:=N) (by omega); simpa using this
   have og:=q0s (i:=i);have q:=posV_els w i;have ql:=qbN w i;have ba:q0G 1 (i + 1)=true:=by rw [q0d]; omega
   rcases an with ⟨a0,a5⟩ | ⟨a0,a5⟩
   ·simp [q3L,-V,-y3,-y0,J,e5,e7,e6,a5,ga,cu,g1,q,ql,og,ba];refine ih fa _ ⟨?_,?_,?_,?_⟩ <;> simp [e5,qaa,An.strip]
   ·simp [q3L,-V,-y3,-y0,J,e5,e7,e6,a0,a5,ga,cu,g1,q,ql,og,ba];refine ih fa _ ⟨?_,?_,?_,?_⟩ <;> simp [e5,qaa,An.strip]
  ·have ga:¬ (i:Int)<N:=by omega
   have gj:i=N:=by omega
   simp [q3L,-V,-y3,-y0,J,e5,e7,cu,ga];exact hk _ _ ⟨rfl,by rw [<- gj]; simp [e6]⟩
 ·simp [posV]
 ·obtain ⟨rfl,e5⟩:=h;simp [-V,-y3,-y0,J,e5]
def q5X (w:Vec):Nat->Bool
 | 0=>true
 | n + 1=>q5X w n&&decide (0<w n)
theorem allPos_f {w:Vec}:∀ {n:Nat} (i:Nat),i<n->¬ 0<w i->q5X w n=false
 | 0,i,h,_=>by omega
 | n + 1,i,h,hn=>by
  unfold q5X;by_cases e:i=n
  ·subst e; simp [hn]
  ·rw [allPos_f i (by omega) hn]; rfl
noncomputable def soundE (S:List Typ) (w:Vec):Int:=if q39 S=0 then (if q5X w S.length=true then 0 else 10) else q39 S
theorem sound_ev (s:Sch) (hs:s.fine) (od:s.d64) {w:Vec} (hw:q39 s.types=0->inR s.types.length w/\evA 174 [.agg (schC s)] (.sl false (vecC s.types.length w))):evA 95 [.agg (schC s)] (.int .i64 (soundE s.types w)):=by
 have hf:=finite_ev s hs od hw;refine q00 (c:=q3s) rfl rfl ?_;unfold finA at hf;unfold soundE;simp only [evA,schC] at hf;by_cases h0:q39 s.types=0
 case neg =>
  rw [if_neg h0] at hf ⊢;simp [q3s,-V,-y3,-y0,J,schC,hf,h0]
 have hN:=q5I (q7t h0);clear hw;rw [if_pos h0] at hf ⊢;simp only [schC];generalize s.types=S at *
 generalize s.nl=b at *
 obtain ⟨N,si⟩:∃ N,N=S.length:=⟨_,rfl⟩;rw [<- si] at hN hf ⊢;have cu:=qbN w N;simp [q3s,-V,-y3,-y0,J,schC,hf,cu];refine q06 N (fun i σ=>(σ.env 15).v=.sl (decide (N=0)) (posV w N)/\(σ.env 16).v=.int .i64 N/\(σ.env 17).v=.int .i64 i/\q5X w i=true)
  (fun e σ=>(e=.exit 0/\q5X w N=true)\/(e=.ret/\q5X w N=false/\(σ.env 2).v=.int .i64 10)) (fun i hi σ k h ih hk=>?_) _ _ ?_ (fun e σ h=>?_)
 ·obtain ⟨fc,oc,dh,hp⟩:=h;refine q02 ?_;by_cases fa:i<N
  ·have ga:(i:Int)<N:=by omega
   have g1:=posV_get w fa;have og:=q0s (i:=i);by_cases ab:0<w i
   ·rw [decide_eq_true ab] at g1;simp [q3h,-V,-y3,-y0,J,fc,oc,dh,ga,g1,og];refine ih fa _ ⟨?_,?_,?_,by rw [q5X,hp,decide_eq_true ab]; rfl⟩ <;> simp [fc,oc]
   ·rw [decide_eq_false ab] at g1;simp [q3h,-V,-y3,-y0,J,fc,oc,dh,ga,g1];exact hk _ _ (.inr ⟨rfl,allPos_f i fa ab,by simp⟩)
  ·have ga:¬ (i:Int)<N:=by omega
   have gj:i=N:=by omega
   simp [q3h,-V,-y3,-y0,J,oc,dh,ga];exact hk _ _ (.inl ⟨rfl,gj ▸ hp⟩)
 ·simp [q5X]
 ·rcases h with ⟨rfl,h1⟩ | ⟨rfl,h1,h2⟩
  ·simp [-V,-y3,-y0,J,h1]
  ·simp [-V,-y3,-y0,J,h1,h2]
theorem rsound_ev (s:Sch) (hs:s.fine) (od:s.d64) {w:Vec} (hw:q39 s.types=0->inR s.types.length w/\evA 176 [.agg (schC s)] (.sl false (vecC s.types.length w))):evA 97 [.agg (schC s)] (.int .i64 (soundE s.types w)):=by
 have hf:=rfinite_ev s hs od hw;refine q00 (c:=q4G) rfl rfl ?_;unfold finA at hf;unfold soundE;simp only [evA,schC] at hf;by_cases h0:q39 s.types=0
 case neg =>
  rw [if_neg h0] at hf ⊢;simp [q4G,-V,-y3,-y0,J,schC,hf,h0]
 have hN:=q5I (q7t h0);clear hw;rw [if_pos h0] at hf ⊢;simp only [schC];generalize s.types=S at *
 generalize s.nl=b at *
 obtain ⟨N,si⟩:∃ N,N=S.length:=⟨_,rfl⟩;rw [<- si] at hN hf ⊢;have cu:=qbN w N;simp [q4G,-V,-y3,-y0,J,schC,hf];refine q06 N (fun i σ=>(σ.env 3).v=.sl (decide (N=0)) (posV w N)/\(σ.env 5).v=.int .i64 i/\q5X w i=true)
  (fun e σ=>(e=.exit 0/\q5X w N=true)\/(e=.ret/\q5X w N=false/\(σ.env 2).v=.int .i64 10)) (fun i hi σ k h ih hk=>?_) _ _ ?_ (fun e σ h=>?_)
 ·obtain ⟨e3,e5,hp⟩:=h;refine q02 ?_;by_cases fa:i<N
  ·have ga:(i:Int)<N:=by omega
   have g1:=posV_get w fa;have og:=q0s (i:=i);by_cases ab:0<w i
   ·rw [decide_eq_true ab] at g1;simp [q41,-V,-y3,-y0,J,e3,e5,ga,cu,g1,og];refine ih fa _ ⟨?_,?_,by rw [q5X,hp,decide_eq_true ab]; rfl⟩ <;> simp [e3]
   ·rw [decide_eq_false ab] at g1;simp [q41,-V,-y3,-y0,J,e3,e5,ga,cu,g1];exact hk _ _ (.inr ⟨rfl,allPos_f i fa ab,by simp⟩)
  ·have ga:¬ (i:Int)<N:=by omega
   have gj:i=N:=by omega
   simp [q41,-V,-y3,-y0,J,e3,e5,cu,ga];exact hk _ _ (.inl ⟨rfl,gj ▸ hp⟩)
 ·simp [q5X]
 ·rcases h with ⟨rfl,h1⟩ | ⟨rfl,h1,h2⟩
  ·simp [-V,-y3,-y0,J,h1]
  ·simp [-V,-y3,-y0,J,h1,h2]
end Go.Proofs.YtbnlmgncbgaepaaGreat
