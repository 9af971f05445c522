/- A part of the proof. -/
import Derived.Test.YtbnlmgncbgaepaaGreatYi
set_option linter.all false
set_option maxRecDepth 100000
set_option maxHeartbeats 8000000
open Option renaming bind_some → V
open List renaming range_succ → J, map_map → y0, getElem?_eq_getElem → y4, getElem_mem → y6, drop_eq_getElem_cons → y9, drop_eq_nil_of_le → ye, replicate → yg, mem_cons_self → yl, map_congr_left → ym, mem_cons_of_mem → yr, getElem_of_mem → yB, mem_map_of_mem → Y01
open Int renaming toNat_lt → y3
namespace Go.Proofs.YtbnlmgncbgaepaaGreat
open Go
section
abbrev GE:=Nat->Int
def iM (N:Nat) (v:GE):Prop:=∀ j,j<N->0<=v j/\v j<=2
structure dZ (N:Nat) (F:Nat->GE->Int):Prop where
 mono:∀ u v,iM N u->iM N v->(∀ j,j<N->u j<=v j)->∀ i,i<N->F i u<=F i v
 rng:∀ u,iM N u->∀ i,i<N->0<=F i u/\F i u<=2
def upd (F:Nat->GE->Int) (v:GE) (i:Nat):GE:=fun j=>if j=i then F i v else v j
structure aQ (N:Nat) (F:Nat->GE->Int) (v:GE):Prop where
 rng:iM N v
 post:∀ j,j<N->v j<=F j v
 least:∀ m,iM N m->(∀ j,j<N->F j m<=m j)->∀ j,j<N->v j<=m j
def fM:Nat->GE->Int
 | 0,_=>0
 | n + 1,v=>fM n v + v n
theorem aW (v:GE):∀ N,iM N v->fM N v<=2 * N
 | 0,_=>by simp [fM]
 | n + 1,h=>by
  have:=aW v n fun j hj=>h j (by omega)
  have:=h n (by omega);simp only [fM];omega
theorem A3 (v:GE):∀ N,iM N v->0<=fM N v
 | 0,_=>by simp [fM]
 | n + 1,h=>by
  have:=A3 v n fun j hj=>h j (by omega)
  have:=h n (by omega);simp only [fM];omega
theorem E1 (v w:GE):∀ N,(∀ j,j<N->v j=w j)->fM N v=fM N w
 | 0,_=>rfl
 | n + 1,h=>by simp only [fM,E1 v w n fun j hj=>h j (by omega),h n (by omega)]
theorem AP (F:Nat->GE->Int) (v:GE) (i:Nat):∀ N,i<N->fM N (upd F v i)=fM N v + (F i v - v i)
 | 0,h=>by omega
 | n + 1,h=>by
  simp only [fM];by_cases e:i=n
  ·subst e;rw [E1 (upd F v i) v i fun j hj=>by simp [upd,show ¬ j=i from by omega]];simp only [upd,if_true];omega
  ·rw [AP F v i n (by omega)];have:upd F v i n=v n:=by simp [upd,show ¬ n=i from fun e'=>e e'.symm]
   omega
section
variable {N:Nat} {F:Nat->GE->Int}
theorem aQ.zero (G:dZ N F):aQ N F (fun _=>0):=by
 refine ⟨fun j hj=>by omega,fun j hj=>(G.rng _ (fun j hj=>by omega) j hj).1,fun m hm _ j hj=>(hm j hj).1⟩
theorem upd_ge {v:GE} (h:aQ N F v) {i:Nat} (hi:i<N) (j:Nat):v j<=upd F v i j:=by
 unfold upd;split
 ·rename_i e; subst e; exact h.post _ hi
 ·exact Int.le_refl _
theorem upd_rng (G:dZ N F) {v:GE} (h:aQ N F v) {i:Nat} (hi:i<N):iM N (upd F v i):=fun j hj=>by
 unfold upd;split
 ·exact G.rng v h.rng i hi
 ·exact h.rng j hj
theorem aQ.upd (G:dZ N F) {v:GE} (h:aQ N F v) {i:Nat} (hi:i<N):aQ N F (upd F v i):=by
 have hr:=upd_rng G h hi;refine ⟨hr,fun j hj=>?_,fun m hm hp j hj=>?_⟩
 ·have hm:=G.mono v (Go.Proofs.YtbnlmgncbgaepaaGreat.upd F v i) h.rng hr (fun j _=>upd_ge h hi j) j hj;unfold Go.Proofs.YtbnlmgncbgaepaaGreat.upd at hm ⊢;by_cases e:j=i
  ·subst e; simp only [if_true]; exact hm
  ·simp only [if_neg e]; have:=h.post j hj; omega
 ·unfold Go.Proofs.YtbnlmgncbgaepaaGreat.upd;split
  ·rename_i e; subst e;have:=G.mono v m h.rng hm (h.least m hm hp) j hj;have:=hp j hj;omega
  ·exact h.least m hm hp j hj
theorem upd_same {v:GE} {i:Nat} (h:F i v=v i):upd F v i=v:=by
 funext j;unfold upd;split
 ·rename_i e; subst e; exact h
 ·rfl
end
end
def TC (N:Nat) (v:GE):List (List AV):=(List.range N).map fun i=>[AV.int .i64 (v i)]
theorem lT (N:Nat) (v:GE):(TC N v).length=N:=by simp [TC]
theorem jT (N:Nat) (v:GE):gB 1 (TC N v)=true:=tC _ _ _ fun _=>rfl
theorem vecC_free (N:Nat) (v:GE):nD (TC N v)=true:=KK _ _ fun _=>rfl
theorem AE {N:Nat} (v:GE) {t:Int} (h:0<=t/\t<N):(TC N v)[t.toNat]?=some [.int .i64 (v t.toNat)]:=by
 have:t.toNat<N:=by omega
 simp [TC,this]
theorem vecC_set {N:Nat} (v w:GE) {i:Nat} {x:Int} (hi:w i=x) (h:∀ j,j≠i->w j=v j):(TC N v).set i [.int .i64 x]=TC N w:=by
 apply List.ext_getElem?;intro j;by_cases e:j=i
 ·subst e;by_cases hj:j<N
  ·simp [TC,hj,hi]
  ·simp [TC,hj]
 ·rw [List.getElem?_set_ne (fun e'=>e e'.symm)];by_cases hj:j<N
  ·simp [TC,hj,h j e]
  ·simp [TC,hj]
def kO (v:GE):List uC->Int->Int
 | [],c=>c
 | m :: r,c=>kO v r (min 2 (c * v m.ty.toNat))
def CV (v:GE):List uC->Int->Int
 | [],c=>c
 | m :: r,c=>CV v r (c + v m.ty.toNat)
def UT (v:GE):List uC->Int->Int
 | [],c=>c
 | m :: r,c=>UT v r (min 2 (c + v m.ty.toNat))
def NE (x:dA) (v:GE):Int :=
 if x.kind=2 then (if x.low=x.high then 1 else 2)
 else if x.kind=3 then (if x.max=0 then 1 else 2)
 else if x.kind=4 then x.syms.length
 else if x.kind=5 then kO v x.mems 1
 else if x.kind=6 then CV v x.mems 0
 else if x.kind=7 then (if x.max=0\/v x.elem.toNat=0 then 1 else 2)
 else if x.kind=8 then (if x.max=0\/v x.elem.toNat=0\/v x.key.toNat=0 then 1 else 2)
 else if x.kind=9 then 1 + v x.elem.toNat
 else 2
def RG (x:dA) (v:GE):Int :=
 if x.kind=2 then (if x.low=x.high then 1 else 2)
 else if x.kind=3 then (if x.max=0 then 1 else 2)
 else if x.kind=4 then min 2 x.syms.length
 else if x.kind=5 then kO v x.mems 1
 else if x.kind=6 then UT v x.mems 0
 else if x.kind=7\/x.kind=8 then (if x.max=0\/v x.elem.toNat=0 then 1 else 2)
 else if x.kind=9 then min 2 (1 + v x.elem.toNat)
 else 2
structure dD (N:Nat) (x:dA):Prop where
 mems:∀ m∈x.mems,0<=m.ty/\m.ty<N
 few:x.mems.length<=16
 elem:7<=x.kind->0<=x.elem/\x.elem<N
 key:x.kind=8->0<=x.key/\x.key<N
theorem eY {N:Nat} {v:GE} (hv:iM N v):∀ (l:List uC) (c:Int),(∀ m∈l,0<=m.ty/\m.ty<N)->0<=c/\c<=2->0<=kO v l c/\kO v l c<=2
 | [],c,_,hc=>hc
 | m :: r,c,hm,hc=>by
  have h1:=hm m yl;have h2:=hv m.ty.toNat (by omega);refine eY hv r _ (fun m' h=>hm m' (yr _ h)) ?_;have:0<=c * v m.ty.toNat:=Int.mul_nonneg hc.1 h2.1;omega
theorem D6 {N:Nat} {v:GE} (hv:iM N v):∀ (l:List uC) (c:Int),(∀ m∈l,0<=m.ty/\m.ty<N)->0<=c/\c<=2->0<=UT v l c/\UT v l c<=2
 | [],c,_,hc=>hc
 | m :: r,c,hm,hc=>by
  have h1:=hm m yl;have h2:=hv m.ty.toNat (by omega);refine D6 hv r _ (fun m' h=>hm m' (yr _ h)) ?_;omega
theorem cap_sum {N:Nat} {v:GE} (hv:iM N v):∀ (l:List uC) (c:Int),(∀ m∈l,0<=m.ty/\m.ty<N)->UT v l (min 2 c)=min 2 (CV v l c)
 | [],c,_=>rfl
 | m :: r,c,hm=>by
  have h1:=hm m yl;have h2:=hv m.ty.toNat (by omega);rw [UT,CV,<- cap_sum hv r _ (fun m' h=>hm m' (yr _ h))];congr 1;omega
theorem zX {a b c d:Int} (h1:0<=a) (h2:a<=b) (h3:0<=c) (h4:c<=d):a * c<=b * d:=Int.mul_le_mul h2 h4 h3 (by omega)
theorem H0 {N:Nat} {u v:GE} (hu:iM N u) (hv:iM N v) (ao:∀ j,j<N->u j<=v j):∀ (l:List uC) (c d:Int),(∀ m∈l,0<=m.ty/\m.ty<N)->0<=c->c<=d->d<=2->kO u l c<=kO v l d
 | [],c,d,_,_,h,_=>h
 | m :: r,c,d,hm,h0,h,hd=>by
  have h1:=hm m yl;have h2:=hu m.ty.toNat (by omega);have h4:=ao m.ty.toNat (by omega);have h5:=zX h0 h h2.1 h4;have h6:0<=c * u m.ty.toNat:=Int.mul_nonneg h0 h2.1;exact H0 hu hv ao r _ _ (fun m' h=>hm m' (yr _ h)) (by omega) (by omega) (by omega)
theorem bZ {N:Nat} {u v:GE} (hu:iM N u) (hv:iM N v) (ao:∀ j,j<N->u j<=v j):∀ (l:List uC) (c d:Int),(∀ m∈l,0<=m.ty/\m.ty<N)->c<=d->UT u l c<=UT v l d
 | [],c,d,_,h=>h
 | m :: r,c,d,hm,h=>by
  have h1:=hm m yl;have h4:=ao m.ty.toNat (by omega);exact bZ hu hv ao r _ _ (fun m' h=>hm m' (yr _ h)) (by omega)
theorem K6 {N:Nat} {v:GE} (hv:iM N v) {x:dA} (hx:dD N x):0<=RG x v/\RG x v<=2:=by
 unfold RG
 repeat' split
 all_goals first
  | omega
  | exact eY hv _ _ hx.mems (by omega)
  | exact D6 hv _ _ hx.mems (by omega)
  | (have:=hx.elem (by omega); have:=hv x.elem.toNat (by omega); omega)
theorem iP {N:Nat} {v:GE} (hv:iM N v) {x:dA} (hx:dD N x) (hk:x.kind≠8):min 2 (NE x v)=RG x v:=by
 unfold RG NE;by_cases h5:x.kind=5
 ·have:=eY hv x.mems 1 hx.mems (by omega);simp [h5];omega
 ·by_cases h6:x.kind=6
  ·have:=cap_sum hv x.mems 0 hx.mems;simp [h6];exact this.symm
  ·by_cases h7:x.kind=7
   ·simp [h7]; split <;> rfl
   ·simp only [h5,h6,h7,hk,if_false,or_self]
    repeat' split
    all_goals rfl
theorem RW {v:GE} {x:dA} (hk:x.kind=8):min 2 (NE x v)=if x.max=0\/v x.elem.toNat=0\/v x.key.toNat=0 then 1 else 2:=by
 simp [NE,hk];split <;> rfl
theorem cntR_8 {v:GE} {x:dA} (hk:x.kind=8):RG x v=if x.max=0\/v x.elem.toNat=0 then 1 else 2:=by simp [RG,hk]
theorem nZ {N:Nat} {u v:GE} (hu:iM N u) (hv:iM N v) (ao:∀ j,j<N->u j<=v j) {x:dA} (hx:dD N x):RG x u<=RG x v:=by
 have he:7<=x.kind->0<=u x.elem.toNat/\u x.elem.toNat<=v x.elem.toNat:=fun h=>by
  have:=hx.elem h;exact ⟨(hu _ (by omega)).1,ao _ (by omega)⟩
 unfold RG;by_cases h5:x.kind=5
 ·simp [h5]; exact H0 hu hv ao _ _ _ hx.mems (by omega) (by omega) (by omega)
 ·by_cases h6:x.kind=6
  ·simp [h6]; exact bZ hu hv ao _ _ _ hx.mems (by omega)
  ·by_cases h7:x.kind=7\/x.kind=8
   ·have:=he (by omega);have h2:¬ x.kind=2:=by omega
    have h3:¬ x.kind=3:=by omega
    have h4:¬ x.kind=4:=by omega
    simp only [h2,h3,h4,h5,h6,h7,if_true,if_false];split <;> split <;> omega
   ·by_cases h9:x.kind=9
    ·have:=he (by omega);simp [h9]; omega
    ·simp only [h5,h6,h7,h9,if_false]
     repeat' split
     all_goals omega
def FP (S:List dA) (i:Nat) (v:GE):Int:=match S[i]? with
 | some x=>min 2 (NE x v)
 | none=>0
def FR (S:List dA) (i:Nat) (v:GE):Int:=match S[i]? with
 | some x=>RG x v
 | none=>0
theorem Z3 {S:List dA} (hS:∀ x∈S,dD S.length x):dZ S.length (FR S):=by
 refine ⟨fun u v hu hv ao i hi=>?_,fun u hu i hi=>?_⟩
 ·unfold FR;rw [y4 hi];exact nZ hu hv ao (hS _ (y6 _))
 ·unfold FR;rw [y4 hi];exact K6 hu (hS _ (y6 _))
theorem FP_rng {N:Nat} {v:GE} (hv:iM N v) {x:dA} (hx:dD N x):0<=min 2 (NE x v)/\min 2 (NE x v)<=2:=by
 by_cases h8:x.kind=8
 ·rw [RW h8]; split <;> omega
 ·rw [iP hv hx h8]; exact K6 hv hx
theorem L3 {S:List dA} (hS:∀ x∈S,dD S.length x):dZ S.length (FP S):=by
 refine ⟨fun u v hu hv ao i hi=>?_,fun u hu i hi=>?_⟩
 ·unfold FP;rw [y4 hi];have hx:=hS _ (y6 hi);simp only;by_cases h8:S[i].kind=8
  ·rw [RW h8,RW h8];have h1:=hx.elem (by omega);have h2:=hx.key h8;have:=hu S[i].elem.toNat (by omega);have:=ao S[i].elem.toNat (by omega);have:=hu S[i].key.toNat (by omega);have:=ao S[i].key.toNat (by omega);split <;> split <;> omega
  ·rw [iP hu hx h8,iP hv hx h8];exact nZ hu hv ao hx
 ·unfold FP;rw [y4 hi];exact FP_rng hu (hS _ (y6 _))
theorem FPR {S:List dA} (hS:∀ x∈S,dD S.length x) (hk:∀ x∈S,x.kind=8->∀ v,iM S.length v->1<=FP S x.key.toNat v) {v w:GE} (hv:aQ S.length (FP S) v) (hvf:∀ j,j<S.length->FP S j v=v j) (hw:aQ S.length (FR S) w) (hwf:∀ j,j<S.length->FR S j w=w j):∀ j,j<S.length->v j=w j:=by
 have e:∀ j,j<S.length->FR S j v=FP S j v:=fun j hj=>by
  unfold FR FP;rw [y4 hj];have hx:=hS _ (y6 hj);simp only;by_cases h8:S[j].kind=8
  ·rw [RW h8,cntR_8 h8];have h2:=hx.key h8;have:=hk _ (y6 hj) h8 v hv.rng;rw [hvf _ (by omega)] at this;have:¬ v S[j].key.toNat=0:=by omega
   simp [this]
  ·exact (iP hv.rng hx h8).symm
 have sb:∀ u,iM S.length u->∀ j,j<S.length->FP S j u<=FR S j u:=fun u hu j hj=>by
  unfold FR FP;rw [y4 hj];have hx:=hS _ (y6 hj);simp only;by_cases h8:S[j].kind=8
  ·rw [RW h8,cntR_8 h8]; split <;> split <;> omega
  ·rw [iP hu hx h8]; exact Int.le_refl _
 have h1:∀ j,j<S.length->w j<=v j:=hw.least v hv.rng fun j hj=>by rw [e j hj,hvf j hj]; exact Int.le_refl _
 have h2:∀ j,j<S.length->v j<=w j:=hv.least w hw.rng fun j hj=>by rw [<- hwf j hj]; exact sb w hw.rng j hj
 intro j hj;have:=h1 j hj;have:=h2 j hj;omega
section
variable {N:Nat} {v:GE} (hv:iM N v) {x:dA} (hx:dD N x)
include N v hv x hx
theorem cr_ev1 (h:x.kind=1):fA 207 [.agg (rA x),.bl (TC N v)] (.int .i64 (RG x v)):=by
 refine wA (c:=FA) rfl rfl ?_;simp [FA,-V,-y3,-y0,J,rA,h,RG]
theorem cr_ev2 (h:x.kind=2):fA 207 [.agg (rA x),.bl (TC N v)] (.int .i64 (RG x v)):=by
 refine wA (c:=FA) rfl rfl ?_;by_cases c1:x.low=x.high
 ·simp [FA,-V,-y3,-y0,J,rA,h,RG,c1]
 ·simp [FA,-V,-y3,-y0,J,rA,h,RG,c1]
theorem cr_ev3 (h:x.kind=3):fA 207 [.agg (rA x),.bl (TC N v)] (.int .i64 (RG x v)):=by
 refine wA (c:=FA) rfl rfl ?_;by_cases c1:x.max=0
 ·simp [FA,-V,-y3,-y0,J,rA,h,RG,c1]
 ·simp [FA,-V,-y3,-y0,J,rA,h,RG,c1]
theorem cr_ev4 (h:x.kind=4):fA 207 [.agg (rA x),.bl (TC N v)] (.int .i64 (RG x v)):=by
 refine wA (c:=FA) rfl rfl ?_;simp [FA,-V,-y3,-y0,J,rA,h,RG]
theorem cr_ev7 (h:x.kind=7):fA 207 [.agg (rA x),.bl (TC N v)] (.int .i64 (RG x v)):=by
 refine wA (c:=FA) rfl rfl ?_;have lc:=hx.elem (by omega);have gel:=AE v lc;have ld:=lc.1;by_cases c1:x.max=0
 ·simp [FA,-V,-y3,-y0,J,rA,h,RG,c1]
 ·by_cases c2:v x.elem.toNat=0
  ·simp [FA,-V,-y3,-y0,J,rA,h,RG,c1,c2,gel,ld]
  ·simp [FA,-V,-y3,-y0,J,rA,h,RG,c1,c2,gel,ld]
theorem cr_ev8 (h:x.kind=8):fA 207 [.agg (rA x),.bl (TC N v)] (.int .i64 (RG x v)):=by
 refine wA (c:=FA) rfl rfl ?_;have lc:=hx.elem (by omega);have gel:=AE v lc;have ld:=lc.1;by_cases c1:x.max=0
 ·simp [FA,-V,-y3,-y0,J,rA,h,RG,c1]
 ·by_cases c2:v x.elem.toNat=0
  ·simp [FA,-V,-y3,-y0,J,rA,h,RG,c1,c2,gel,ld]
  ·simp [FA,-V,-y3,-y0,J,rA,h,RG,c1,c2,gel,ld]
theorem cr_ev9 (h:x.kind=9):fA 207 [.agg (rA x),.bl (TC N v)] (.int .i64 (RG x v)):=by
 refine wA (c:=FA) rfl rfl ?_;have lc:=hx.elem (by omega);have gel:=AE v lc;have ld:=lc.1;have ve:=hv x.elem.toNat (by omega);have hw:IntKind.i64.wrap (1 + v x.elem.toNat)=1 + v x.elem.toNat:=IntWalk.i64_in _ (by omega);simp [FA,-V,-y3,-y0,J,rA,h,RG,gel,ld,hw]
theorem cr_ev5 (h:x.kind=5):fA 207 [.agg (rA x),.bl (TC N v)] (.int .i64 (RG x v)):=by
 refine wA (c:=FA) rfl rfl ?_;simp [FA,-V,-y3,-y0,J,rA,h,RG];refine lA x.mems.length (fun i s=>(s.env 1).v=.bl (TC N v)/\(s.env 2).v=.ptr 2 1 0/\s.mem 2 1=some (jA x)/\(s.env 6).v=.int .i64 i/\∃ a,(s.env 5).v=.int .i64 a/\kO v (x.mems.drop i) a=kO v x.mems 1/\0<=a/\a<=2)
  (fun e s=>e=.exit 1/\(s.env 5).v=.int .i64 (kO v x.mems 1)) (fun i hi s k h' ih hk=>?_) _ _ ?_ (fun e s h'=>?_)
 ·obtain ⟨e1,e2,e3,e4,a,ea,hs,hb⟩:=h';refine tA ?_;by_cases fa:i<x.mems.length
  ·have ga:(i:Int)<x.mems.length:=by omega
   have g1:(x.mems.map bA)[i]?=some (bA x.mems[i]):=by simp [fa]
   have hw:=ZA (i:=i) (by have:=hx.few; omega);have xl:=hx.mems x.mems[i] (y6 _);rw [y9 fa,kO] at hs;generalize x.mems[i]=m at *
   have nw:=hv m.ty.toNat (by omega);have gm:=AE v xl;have gl:=xl.1;have uf:=Int.mul_nonneg hb.1 nw.1;have hm3:a * v m.ty.toNat<=2 * 2:=zX hb.1 hb.2 nw.1 nw.2;have dh:IntKind.i64.wrap (a * v m.ty.toNat)=a * v m.ty.toNat:=IntWalk.i64_in _ (by omega);simp only [bA] at g1;simp [rK,-V,-y3,-y0,J,e1,e2,e3,e4,ea,ga,g1,gm,gl,hw,dh];refine ih fa _ ⟨?_,?_,?_,?_,min 2 (a * v m.ty.toNat),?_,hs,by omega⟩ <;> simp [e1,e2,e3]
  ·have ga:¬ (i:Int)<x.mems.length:=by omega
   simp [rK,-V,-y3,-y0,J,e1,e2,e3,e4,ga];rw [ye (by omega),kO] at hs;exact hk _ _ ⟨rfl,by simp [ea,hs]⟩
 ·simp [rA,h]
 ·obtain ⟨rfl,ea⟩:=h';simp [-V,-y3,-y0,J,ea]
theorem cr_ev6 (h:x.kind=6):fA 207 [.agg (rA x),.bl (TC N v)] (.int .i64 (RG x v)):=by
 refine wA (c:=FA) rfl rfl ?_;simp [FA,-V,-y3,-y0,J,rA,h,RG];refine lA x.mems.length (fun i s=>(s.env 1).v=.bl (TC N v)/\(s.env 2).v=.ptr 2 1 0/\s.mem 2 1=some (jA x)/\(s.env 8).v=.int .i64 i/\∃ a,(s.env 7).v=.int .i64 a/\UT v (x.mems.drop i) a=UT v x.mems 0/\0<=a/\a<=2)
  (fun e s=>e=.exit 3/\(s.env 7).v=.int .i64 (UT v x.mems 0)) (fun i hi s k h' ih hk=>?_) _ _ ?_ (fun e s h'=>?_)
 ·obtain ⟨e1,e2,e3,e4,a,ea,hs,hb⟩:=h';refine tA ?_;by_cases fa:i<x.mems.length
  ·have ga:(i:Int)<x.mems.length:=by omega
   have g1:(x.mems.map bA)[i]?=some (bA x.mems[i]):=by simp [fa]
   have hw:=ZA (i:=i) (by have:=hx.few; omega);have xl:=hx.mems x.mems[i] (y6 _);rw [y9 fa,UT] at hs;generalize x.mems[i]=m at *
   have nw:=hv m.ty.toNat (by omega);have gm:=AE v xl;have gl:=xl.1;have dh:IntKind.i64.wrap (a + v m.ty.toNat)=a + v m.ty.toNat:=IntWalk.i64_in _ (by omega);simp only [bA] at g1;simp [wK,-V,-y3,-y0,J,e1,e2,e3,e4,ea,ga,g1,gm,gl,hw,dh];refine ih fa _ ⟨?_,?_,?_,?_,min 2 (a + v m.ty.toNat),?_,hs,by omega⟩ <;> simp [e1,e2,e3]
  ·have ga:¬ (i:Int)<x.mems.length:=by omega
   simp [wK,-V,-y3,-y0,J,e1,e2,e3,e4,ga];rw [ye (by omega),UT] at hs;exact hk _ _ ⟨rfl,by simp [ea,hs]⟩
 ·simp [rA,h]
 ·obtain ⟨rfl,ea⟩:=h';simp [-V,-y3,-y0,J,ea]
theorem cr_ev (hk:1<=x.kind/\x.kind<=9):fA 207 [.agg (rA x),.bl (TC N v)] (.int .i64 (RG x v)):=by
 rcases kinds x.kind with e | e | e | e | e | e | e | e | e | e
 ·exact cr_ev1 hv hx e
 ·exact cr_ev2 hv hx e
 ·exact cr_ev3 hv hx e
 ·exact cr_ev4 hv hx e
 ·exact cr_ev5 hv hx e
 ·exact cr_ev6 hv hx e
 ·exact cr_ev7 hv hx e
 ·exact cr_ev8 hv hx e
 ·exact cr_ev9 hv hx e
 ·exact absurd hk e
end
section
variable {N:Nat} {v:GE} (hv:iM N v) {x:dA} (hx:dD N x)
include N v hv x hx
theorem cp_ev1 (h:x.kind=1):fA 205 [.agg (rA x),.bl (TC N v)] (.int .i64 (NE x v)):=by
 refine wA (c:=QA) rfl rfl ?_;simp [QA,-V,-y3,-y0,J,rA,h,NE]
theorem cp_ev2 (h:x.kind=2):fA 205 [.agg (rA x),.bl (TC N v)] (.int .i64 (NE x v)):=by
 refine wA (c:=QA) rfl rfl ?_;by_cases c1:x.low=x.high
 ·simp [QA,-V,-y3,-y0,J,rA,h,NE,c1]
 ·simp [QA,-V,-y3,-y0,J,rA,h,NE,c1]
theorem cp_ev3 (h:x.kind=3):fA 205 [.agg (rA x),.bl (TC N v)] (.int .i64 (NE x v)):=by
 refine wA (c:=QA) rfl rfl ?_;by_cases c1:x.max=0
 ·simp [QA,-V,-y3,-y0,J,rA,h,NE,c1]
 ·simp [QA,-V,-y3,-y0,J,rA,h,NE,c1]
theorem cp_ev4 (h:x.kind=4):fA 205 [.agg (rA x),.bl (TC N v)] (.int .i64 (NE x v)):=by
 refine wA (c:=QA) rfl rfl ?_;simp [QA,-V,-y3,-y0,J,rA,h,NE]
theorem cp_ev7 (h:x.kind=7):fA 205 [.agg (rA x),.bl (TC N v)] (.int .i64 (NE x v)):=by
 refine wA (c:=QA) rfl rfl ?_;have lc:=hx.elem (by omega);have gel:=AE v lc;have ld:=lc.1;by_cases c1:x.max=0
 ·simp [QA,-V,-y3,-y0,J,rA,h,NE,c1]
 ·by_cases c2:v x.elem.toNat=0
  ·simp [QA,-V,-y3,-y0,J,rA,h,NE,c1,c2,gel,ld]
  ·simp [QA,-V,-y3,-y0,J,rA,h,NE,c1,c2,gel,ld]
theorem cp_ev8 (h:x.kind=8):fA 205 [.agg (rA x),.bl (TC N v)] (.int .i64 (NE x v)):=by
 refine wA (c:=QA) rfl rfl ?_;have lc:=hx.elem (by omega);have gel:=AE v lc;have ld:=lc.1;have nj:=hx.key h;have gkl:=AE v nj;have ak:=nj.1;by_cases c1:x.max=0
 ·simp [QA,-V,-y3,-y0,J,rA,h,NE,c1]
 ·by_cases c2:v x.elem.toNat=0
  ·simp [QA,-V,-y3,-y0,J,rA,h,NE,c1,c2,gel,ld]
  ·by_cases c3:v x.key.toNat=0
   ·simp [QA,-V,-y3,-y0,J,rA,h,NE,c1,c2,c3,gel,ld,gkl,ak]
   ·simp [QA,-V,-y3,-y0,J,rA,h,NE,c1,c2,c3,gel,ld,gkl,ak]
theorem cp_ev9 (h:x.kind=9):fA 205 [.agg (rA x),.bl (TC N v)] (.int .i64 (NE x v)):=by
 refine wA (c:=QA) rfl rfl ?_;have lc:=hx.elem (by omega);have gel:=AE v lc;have ld:=lc.1;have ve:=hv x.elem.toNat (by omega);have hw:IntKind.i64.wrap (1 + v x.elem.toNat)=1 + v x.elem.toNat:=IntWalk.i64_in _ (by omega);simp [QA,-V,-y3,-y0,J,rA,h,NE,gel,ld,hw]
theorem cp_ev5 (h:x.kind=5):fA 205 [.agg (rA x),.bl (TC N v)] (.int .i64 (NE x v)):=by
 refine wA (c:=QA) rfl rfl ?_;simp [QA,-V,-y3,-y0,J,rA,h,NE];refine lA x.mems.length (fun i s=>(s.env 1).v=.bl (TC N v)/\(s.env 33).v=.sl x.mn (x.mems.map bA)/\(s.env 34).v=.int .i64 x.mems.length/\(s.env 35).v=.int .i64 i/\∃ a,(s.env 5).v=.int .i64 a/\kO v (x.mems.drop i) a=kO v x.mems 1/\0<=a/\a<=2)
  (fun e s=>e=.exit 1/\(s.env 5).v=.int .i64 (kO v x.mems 1)) (fun i hi s k h' ih hk=>?_) _ _ ?_ (fun e s h'=>?_)
 ·obtain ⟨e1,e2,e3,e4,a,ea,hs,hb⟩:=h';refine tA ?_;by_cases fa:i<x.mems.length
  ·have ga:(i:Int)<x.mems.length:=by omega
   have g1:(x.mems.map bA)[i]?=some (bA x.mems[i]):=by simp [fa]
   have hw:=ZA (i:=i) (by have:=hx.few; omega);have xl:=hx.mems x.mems[i] (y6 _);rw [y9 fa,kO] at hs;generalize x.mems[i]=m at *
   have nw:=hv m.ty.toNat (by omega);have gm:=AE v xl;have gl:=xl.1;have uf:=Int.mul_nonneg hb.1 nw.1;have hm3:a * v m.ty.toNat<=2 * 2:=zX hb.1 hb.2 nw.1 nw.2;have dh:IntKind.i64.wrap (a * v m.ty.toNat)=a * v m.ty.toNat:=IntWalk.i64_in _ (by omega);simp only [bA] at g1;simp [WI,-V,-y3,-y0,J,e1,e2,e3,e4,ea,ga,g1,gm,gl,hw,dh];refine ih fa _ ⟨?_,?_,?_,?_,min 2 (a * v m.ty.toNat),?_,hs,by omega⟩ <;> simp [e1,e2,e3]
  ·have ga:¬ (i:Int)<x.mems.length:=by omega
   simp [WI,-V,-y3,-y0,J,e1,e2,e3,e4,ga];rw [ye (by omega),kO] at hs;exact hk _ _ ⟨rfl,by simp [ea,hs]⟩
 ·simp [rA,h]
 ·obtain ⟨rfl,ea⟩:=h';simp [-V,-y3,-y0,J,ea]
theorem cp_ev6 (h:x.kind=6):fA 205 [.agg (rA x),.bl (TC N v)] (.int .i64 (NE x v)):=by
 refine wA (c:=QA) rfl rfl ?_;simp [QA,-V,-y3,-y0,J,rA,h,NE];refine lA x.mems.length (fun i s=>(s.env 1).v=.bl (TC N v)/\(s.env 52).v=.sl x.mn (x.mems.map bA)/\(s.env 53).v=.int .i64 x.mems.length/\(s.env 54).v=.int .i64 i/\∃ a,(s.env 8).v=.int .i64 a/\CV v (x.mems.drop i) a=CV v x.mems 0/\0<=a/\a<=2 * i)
  (fun e s=>e=.exit 3/\(s.env 8).v=.int .i64 (CV v x.mems 0)) (fun i hi s k h' ih hk=>?_) _ _ ?_ (fun e s h'=>?_)
 ·obtain ⟨e1,e2,e3,e4,a,ea,hs,hb⟩:=h';refine tA ?_;by_cases fa:i<x.mems.length
  ·have ga:(i:Int)<x.mems.length:=by omega
   have g1:(x.mems.map bA)[i]?=some (bA x.mems[i]):=by simp [fa]
   have hw:=ZA (i:=i) (by have:=hx.few; omega);have xl:=hx.mems x.mems[i] (y6 _);rw [y9 fa,CV] at hs;generalize x.mems[i]=m at *
   have nw:=hv m.ty.toNat (by omega);have gm:=AE v xl;have gl:=xl.1;have dh:IntKind.i64.wrap (a + v m.ty.toNat)=a + v m.ty.toNat:=IntWalk.i64_in _ (by have:=hx.few; omega);simp only [bA] at g1;simp [QI,-V,-y3,-y0,J,e1,e2,e3,e4,ea,ga,g1,gm,gl,hw,dh];refine ih fa _ ⟨?_,?_,?_,?_,a + v m.ty.toNat,?_,hs,by omega⟩ <;> simp [e1,e2,e3]
  ·have ga:¬ (i:Int)<x.mems.length:=by omega
   simp [QI,-V,-y3,-y0,J,e1,e2,e3,e4,ga];rw [ye (by omega),CV] at hs;exact hk _ _ ⟨rfl,by simp [ea,hs]⟩
 ·simp [rA,h]
 ·obtain ⟨rfl,ea⟩:=h';simp [-V,-y3,-y0,J,ea]
theorem cp_ev (hk:1<=x.kind/\x.kind<=9):fA 205 [.agg (rA x),.bl (TC N v)] (.int .i64 (NE x v)):=by
 rcases kinds x.kind with e | e | e | e | e | e | e | e | e | e
 ·exact cp_ev1 hv hx e
 ·exact cp_ev2 hv hx e
 ·exact cp_ev3 hv hx e
 ·exact cp_ev4 hv hx e
 ·exact cp_ev5 hv hx e
 ·exact cp_ev6 hv hx e
 ·exact cp_ev7 hv hx e
 ·exact cp_ev8 hv hx e
 ·exact cp_ev9 hv hx e
 ·exact absurd hk e
end
theorem RS {l:List uC} (h:lB l []=true):l=[]:=by
 cases l with
 | nil=>rfl
 | cons=>simp [lB] at h
theorem good_few {t:dA} (h:mB t=true):t.mems.length<=16:=by
 have hk:=pK h;unfold mB JI dA.left at h;rcases kinds t.kind with e | e | e | e | e | e | e | e | e | e
 all_goals first | exact absurd hk e | skip
 all_goals simp [e,dA.same,LB,II] at h
 all_goals first
  | (obtain ⟨⟨_,h⟩,_⟩:=h; omega)
  | (have:=RS h.2; rw [this]; simp)
  | (have:=RS h.2.2; rw [this]; simp)
  | omega
theorem ZD {S:List dA} (h:valid S=0):∀ x∈S,dD S.length x:=fun x hx=>by
 obtain ⟨j,hj,rfl⟩:=yB hx;obtain ⟨h1,h2⟩:=XH (WG h j hj);generalize S[j]=t at *
 have use:∀ u∈t.usesL,0<=u/\u<S.length:=fun u hu=>by
  have:=List.any_eq_false.1 h2 u hu;simp [cB] at this;omega
 refine ⟨fun m hm=>use _ ?_,good_few h1,fun h7=>use _ ?_,fun h8=>P2 h8 h2⟩
 ·unfold dA.usesL;exact List.mem_append_left _ (List.mem_append_left _ (Y01 hm))
 ·unfold dA.usesL;rw [if_pos h7];exact List.mem_append_right _ (by simp)
theorem KI {S:List dA} (h:valid S=0):S.length<=32:=by
 unfold valid at h;by_cases lu:32<S.length
 ·rw [if_pos lu] at h; cases h
 ·omega
theorem vec0 (N:Nat):(yg N [AV.int .i64 0]).flatten.map (fun v=>(⟨v,.no⟩:qA))=sA (TC N fun _=>0):=by
 unfold sA;congr 1;congr 1;apply List.ext_getElem?;intro i;by_cases h:i<N
 ·simp [TC,h]
 ·simp [TC,h]
theorem vec0' (N:Nat):yg N (⟨AV.int .i64 0,.no⟩:qA)=sA (TC N fun _=>0):=by
 rw [<- vec0];simp
theorem dW (N:Nat) (v:GE):sD (sA (TC N v)) 1 0 N=some (TC N v):=by
 have:=nG (jT N v) (vecC_free N v)
 rwa [lT] at this
theorem vec_load (N:Nat) (v:GE) {i:Nat} (hi:i<N):wB false 1 i (sA (TC N v))=some ⟨.int .i64 (v i),.no⟩:=R8 (jT N v) (by have:=AE v (t:=(i:Int)) (N:=N) (by omega); simpa using this) 1
theorem vec_at (N:Nat) (v:GE) {i:Nat} (hi:i<N):(sA (TC N v))[i]?=some ⟨.int .i64 (v i),.no⟩:=E8 (jT N v) (by have:=AE v (t:=(i:Int)) (N:=N) (by omega); simpa using this)
theorem P1 (N:Nat) (v w:GE) {i:Nat} (hi:i<N) {x:Int} (hx:w i=x) (h:∀ j,j≠i->w j=v j):mA false 1 i (sA (TC N v)) (.int .i64 x) .no=some (sA (TC N w)):=by
 rw [U3 (jT N v) (by rw [lT]; exact hi) rfl,vecC_set v w hx h]
theorem lfp {N:Nat} {F:Nat->GE->Int} (G:dZ N F):∃ w,aQ N F w/\∀ j,j<N->F j w=w j:=by
 have:∀ (k:Nat) (v:GE),aQ N F v->2 * (N:Int) - fM N v<=k->∃ w,aQ N F w/\∀ j,j<N->F j w=w j:=by
  intro k
  induction k with
  | zero =>
   intro v hv hk;refine ⟨v,hv,fun j hj=>Classical.byContradiction fun oa=>?_⟩;have h1:=aW _ N (aQ.upd G hv hj).rng;rw [AP F v j N hj] at h1;have:=hv.post j hj;omega
  | succ k ih =>
   intro v hv hk;by_cases h:∀ j,j<N->F j v=v j
   ·exact ⟨v,hv,h⟩
   ·obtain ⟨j,hj⟩:=Classical.not_forall.1 h;obtain ⟨hj,oa⟩:=Classical.not_imp.1 hj;refine ih (upd F v j) (aQ.upd G hv hj) ?_;rw [AP F v j N hj];have:=hv.post j hj;omega
 exact this (2 * N) _ (aQ.zero G) (by have:=A3 (fun _=>0) N (fun j _=>⟨Int.le_refl _,by show (0:Int)<=2; decide⟩); omega)
theorem J2 {N:Nat} {F:Nat->GE->Int} {v w:GE} (hv:aQ N F v) (fv:∀ j,j<N->F j v=v j) (hw:aQ N F w) (fw:∀ j,j<N->F j w=w j):∀ j,j<N->v j=w j:=fun j hj=>by
 have h1:=hv.least w hw.rng (fun j hj=>by rw [fw j hj]; exact Int.le_refl _) j hj;have h2:=hw.least v hv.rng (fun j hj=>by rw [fv j hj]; exact Int.le_refl _) j hj;omega
theorem jM {N:Nat} {v w:GE} (h:∀ j,j<N->v j=w j):TC N v=TC N w:=by
 unfold TC;exact ym fun j hj=>by rw [h j (List.mem_range.1 hj)]
theorem counts_ev (s:wI) (h0:valid s.types=0) {w:GE} (hw:aQ s.types.length (FP s.types) w) (fw:∀ j,j<s.types.length->FP s.types j w=w j):fA 174 [.agg (UA s)] (.sl false (TC s.types.length w)):=by
 have hW:=ZD h0;have hN:=KI h0;have hG:=L3 hW;have xr:∀ x∈s.types,1<=x.kind/\x.kind<=9:=fun x hx=>by
  obtain ⟨j,hj,rfl⟩:=yB hx;exact pK (XH (WG h0 j hj)).1
 clear h0;simp only [UA];generalize s.types=S at *
 generalize s.nl=b at *
 obtain ⟨N,ri⟩:∃ N,N=S.length:=⟨_,rfl⟩;rw [<- ri] at hW hN hG hw fw ⊢;have ja:uB 8 N=true:=by rw [TA]; omega
 have ff:(N:Int)=(S.length:Int):=by omega
 refine wA (c:=sH) rfl rfl ?_;have hb8:N * 8<=140737488355328:=by omega
 have ry:N<=140737488355328:=by omega
 simp [sH,-V,-y3,-y0,J,-wB,-mA,iB,kB,HA,JA,<- ri,hb8,ry];refine lA (2 * N + 1) (fun r σ=>(σ.env 1).v=.ptr 1 1 0/\σ.mem 1 1=some [⟨.sl b (S.map rA),.no⟩]/\(σ.env 3).v=.ref 11 2 1 0 N N/\∃ v,σ.mem 11 2=some (sA (TC N v))/\aQ N (FP S) v/\((σ.env 4).v=.bool true/\(r:Int)<=fM N v\/(σ.env 4).v=.bool false/\∀ j,j<N->FP S j v=v j))
  (fun e σ=>e=.exit 0/\(σ.env 3).v=.ref 11 2 1 0 N N/\∃ v,σ.mem 11 2=some (sA (TC N v))/\aQ N (FP S) v/\∀ j,j<N->FP S j v=v j) (fun r hr σ k h ih hk=>?_) _ _ ?_ (fun e σ h=>?_)
 ·obtain ⟨e1,m1,e3,v0,m3,hv0,jb⟩:=h;refine tA ?_;rcases jb with ⟨e4,hsum⟩ | ⟨e4,hfix⟩
  case inr =>
   simp [WH,-V,-y3,-y0,J,-wB,-mA,iB,kB,HA,JA,e4];exact hk _ _ ⟨rfl,by simp [e3],v0,by simp [m3],hv0,hfix⟩
  have hrN:r<2 * N + 1:=by
   have:=aW v0 N hv0.rng;omega
  simp [WH,-V,-y3,-y0,J,-wB,-mA,iB,kB,HA,JA,e1,m1,e4,<- ri];refine lA N (fun i σ=>(σ.env 1).v=.ptr 1 1 0/\σ.mem 1 1=some [⟨.sl b (S.map rA),.no⟩]/\(σ.env 3).v=.ref 11 2 1 0 N N/\(σ.env 14).v=.sl b (S.map rA)/\(σ.env 15).v=.int .i64 N/\(σ.env 16).v=.int .i64 i/\∃ v,σ.mem 11 2=some (sA (TC N v))/\aQ N (FP S) v/\((σ.env 4).v=.bool false/\v=v0/\(∀ j,j<i->FP S j v=v j)\/(σ.env 4).v=.bool true/\fM N v0 + 1<=fM N v))
   (fun e σ=>e=.exit 2/\(σ.env 1).v=.ptr 1 1 0/\σ.mem 1 1=some [⟨.sl b (S.map rA),.no⟩]/\(σ.env 3).v=.ref 11 2 1 0 N N/\∃ v,σ.mem 11 2=some (sA (TC N v))/\aQ N (FP S) v/\((σ.env 4).v=.bool false/\(∀ j,j<N->FP S j v=v j)\/(σ.env 4).v=.bool true/\fM N v0 + 1<=fM N v)) (fun i hi σ k' h sw zc=>?_) _ _ ?_ (fun e σ h=>?_)
  ·obtain ⟨f1,n1,f3,f14,f15,f16,v,n3,hv,jb⟩:=h;refine tA ?_;by_cases fa:i<N
   ·have ga:(i:Int)<N:=by omega
    have pj:i<S.length:=by omega
    have g1:(S.map rA)[i]?=some (rA S[i]):=by simp [pj]
    have uc:=ZA (i:=i);have hc:=cp_ev hv.rng (hW _ (y6 pj)) (xr _ (y6 pj));have hF:FP S i v=min 2 (NE S[i] v):=by unfold FP; rw [y4 pj]
    generalize S[i]=x at *
    simp only [rA] at g1;simp only [fA,rA] at hc;have lc:=dW N v;have bn:=vec_load N v fa;have wc:=vec_at N v fa;have tt:=hv.post i fa;have hup:=aQ.upd hG hv fa;have lw:=AP (FP S) v i N fa;have fu:=P1 N v (upd (FP S) v i) fa (x:=FP S i v) (by simp [upd]) (fun j hj=>by simp [upd,hj]);rw [hF] at tt lw fu;by_cases oa:min 2 (NE x v)=v i
    ·rcases jb with ⟨f4,rfl,hj⟩ | ⟨f4,zo⟩
     ·simp [sE,-V,-y3,-y0,J,-wB,-mA,iB,kB,HA,JA,f1,n1,f3,f14,f15,f16,n3,ga,g1,lc,hc,bn,wc,uc,fa,oa];refine sw fa _ ⟨?_,?_,?_,?_,?_,?_,v,?_,hv,.inl ⟨?_,rfl,fun j hj'=>?_⟩⟩
      case refine_9=>
       rcases Nat.lt_succ_iff_lt_or_eq.1 hj' with h | rfl
       ·exact hj j h
       ·exact hF.trans oa
      all_goals simp [f1,n1,f3,f14,f15,n3,f4]
     ·simp [sE,-V,-y3,-y0,J,-wB,-mA,iB,kB,HA,JA,f1,n1,f3,f14,f15,f16,n3,ga,g1,lc,hc,bn,wc,uc,fa,oa];refine sw fa _ ⟨?_,?_,?_,?_,?_,?_,v,?_,hv,.inr ⟨?_,zo⟩⟩
      all_goals simp [f1,n1,f3,f14,f15,n3,f4]
    ·simp [sE,-V,-y3,-y0,J,-wB,-mA,iB,kB,HA,JA,f1,n1,f3,f14,f15,f16,n3,ga,g1,lc,hc,bn,wc,uc,fa,oa,fu];refine sw fa _ ⟨?_,?_,?_,?_,?_,?_,upd (FP S) v i,?_,hup,.inr ⟨?_,?_⟩⟩
     case refine_9 =>
      rcases jb with ⟨f4,rfl,hj⟩ | ⟨f4,zo⟩ <;> omega
     all_goals simp [f1,n1,f3,f14,f15,n3]
   ·have ga:¬ (i:Int)<N:=by omega
    have gj:i=N:=by omega
    simp [sE,-V,-y3,-y0,J,-wB,-mA,iB,kB,HA,JA,f15,f16,ga];refine zc _ _ ⟨rfl,by simp [f1],by simp [n1],by simp [f3],v,by simp [n3],hv,?_⟩;rcases jb with ⟨f4,rfl,hj⟩ | ⟨f4,zo⟩
    ·exact .inl ⟨by simp [f4],gj ▸ hj⟩
    ·exact .inr ⟨by simp [f4],zo⟩
  ·refine ⟨?_,?_,?_,?_,?_,?_,v0,?_,hv0,.inl ⟨?_,rfl,fun j hj=>absurd hj (by omega)⟩⟩
   all_goals simp [e1,m1,e3,m3]
  ·obtain ⟨rfl,e1,m1,e3,v,m3,hv,jb⟩:=h;simp [-V,-y3,-y0,J,-wB,-mA,iB,kB,HA,JA];refine ih hrN _ ⟨by simp [e1],by simp [m1],by simp [e3],v,by simp [m3],hv,?_⟩;rcases jb with ⟨e4,hf⟩ | ⟨e4,hs⟩
   ·exact .inr ⟨by simp [e4],hf⟩
   ·exact .inl ⟨by simp [e4],by omega⟩
 ·refine ⟨?_,?_,?_,fun _=>0,?_,aQ.zero hG,.inl ⟨?_,?_⟩⟩
  case refine_4=>simp [vec0']
  case refine_6=>exact A3 _ N (fun j _=>⟨Int.le_refl _,by show (0:Int)<=2; decide⟩)
  all_goals simp
 ·obtain ⟨rfl,e3,v,m3,hv,hf⟩:=h;have lc:=dW N v;rw [jM (J2 hv hf hw fw)] at lc;rw [jM (J2 hv hf hw fw)] at m3;simp [-V,-y3,-y0,J,-wB,-mA,iB,kB,HA,JA,e3,m3,lc]
theorem rcounts_ev (s:wI) (h0:valid s.types=0) {w:GE} (hw:aQ s.types.length (FR s.types) w) (fw:∀ j,j<s.types.length->FR s.types j w=w j):fA 176 [.agg (UA s)] (.sl false (TC s.types.length w)):=by
 have hW:=ZD h0;have hN:=KI h0;have hG:=Z3 hW;have xr:∀ x∈s.types,1<=x.kind/\x.kind<=9:=fun x hx=>by
  obtain ⟨j,hj,rfl⟩:=yB hx;exact pK (XH (WG h0 j hj)).1
 clear h0;simp only [UA];generalize s.types=S at *
 generalize s.nl=b at *
 obtain ⟨N,ri⟩:∃ N,N=S.length:=⟨_,rfl⟩;rw [<- ri] at hW hN hG hw fw ⊢;have hb8:N * 8<=140737488355328:=by omega
 have ry:N<=140737488355328:=by omega
 have dh:IntKind.i64.wrap (2 * (N:Int))=2 * N:=IntWalk.i64_in _ (by omega);refine wA (c:=iJ) rfl rfl ?_;simp [iJ,-V,-y3,-y0,J,-wB,-mA,iB,kB,HA,JA,<- ri,hb8,ry];refine lA (2 * N + 1) (fun r σ=>(σ.env 1).v=.ptr 1 1 0/\σ.mem 1 1=some [⟨.sl b (S.map rA),.no⟩]/\(σ.env 3).v=.ref 9 2 1 0 N N/\(σ.env 4).v=.int .i64 r/\∃ v,σ.mem 9 2=some (sA (TC N v))/\aQ N (FR S) v/\((r:Int)<=fM N v\/∀ j,j<N->FR S j v=v j))
  (fun e σ=>e=.exit 0/\(σ.env 3).v=.ref 9 2 1 0 N N/\∃ v,σ.mem 9 2=some (sA (TC N v))/\aQ N (FR S) v/\∀ j,j<N->FR S j v=v j) (fun r hr σ k h ih hk=>?_) _ _ ?_ (fun e σ h=>?_)
 ·obtain ⟨e1,m1,e3,e4,v0,m3,hv0,jb⟩:=h;refine tA ?_;by_cases hrN:r<2 * N + 1
  case neg =>
   have ga:¬ (r:Int)<=2 * N:=by omega
   simp [aJ,-V,-y3,-y0,J,-wB,-mA,iB,kB,HA,JA,e1,m1,e4,<- ri,dh,ga];refine hk _ _ ⟨rfl,by simp [e3],v0,by simp [m3],hv0,?_⟩;rcases jb with h | h
   ·have:=aW v0 N hv0.rng;omega
   ·exact h
  have ga:(r:Int)<=2 * N:=by omega
  have gv:=ZA (i:=r);simp [aJ,-V,-y3,-y0,J,-wB,-mA,iB,kB,HA,JA,e1,m1,e4,<- ri,dh,ga];refine lA N (fun i σ=>(σ.env 1).v=.ptr 1 1 0/\σ.mem 1 1=some [⟨.sl b (S.map rA),.no⟩]/\(σ.env 3).v=.ref 9 2 1 0 N N/\(σ.env 4).v=.int .i64 r/\(σ.env 5).v=.int .i64 i/\∃ v,σ.mem 9 2=some (sA (TC N v))/\aQ N (FR S) v/\((∀ j,j<N->FR S j v0=v0 j)->v=v0)/\(v=v0/\(∀ j,j<i->FR S j v=v j)\/fM N v0 + 1<=fM N v))
   (fun e σ=>e=.exit 2/\(σ.env 1).v=.ptr 1 1 0/\σ.mem 1 1=some [⟨.sl b (S.map rA),.no⟩]/\(σ.env 3).v=.ref 9 2 1 0 N N/\(σ.env 4).v=.int .i64 r/\∃ v,σ.mem 9 2=some (sA (TC N v))/\aQ N (FR S) v/\((∀ j,j<N->FR S j v=v j)\/(r:Int) + 1<=fM N v)) (fun i hi σ k' h sw zc=>?_) _ _ ?_ (fun e σ h=>?_)
  ·obtain ⟨f1,n1,f3,f4,f5,v,n3,hv,bx,eu⟩:=h;refine tA ?_;by_cases fa:i<N
   ·have ga:(i:Int)<N:=by omega
    have pj:i<S.length:=by omega
    have g1:(S.map rA)[i]?=some (rA S[i]):=by simp [pj]
    have uc:=ZA (i:=i);have hc:=cr_ev hv.rng (hW _ (y6 pj)) (xr _ (y6 pj));have hF:FR S i v=RG S[i] v:=by unfold FR; rw [y4 pj]
    generalize S[i]=x at *
    simp only [rA] at g1;simp only [fA,rA] at hc;have lc:=dW N v;have tt:=hv.post i fa;have hup:=aQ.upd hG hv fa;have lw:=AP (FR S) v i N fa;have fu:=P1 N v (upd (FR S) v i) fa (x:=FR S i v) (by simp [upd]) (fun j hj=>by simp [upd,hj]);have aj:FR S i v=v i->upd (FR S) v i=v:=upd_same;rw [hF] at tt lw fu;have hltS':(i:Int)<S.length:=by omega
    simp [pJ,-V,-y3,-y0,J,-wB,-mA,iB,kB,HA,JA,f1,n1,f3,f4,f5,n3,hltS',g1,lc,hc,uc,fa,fu];refine sw fa _ ⟨?_,?_,?_,?_,?_,upd (FR S) v i,?_,hup,?_,?_⟩
    case refine_7 =>
     intro ta;have e:=bx ta;subst e;exact aj (ta i fa)
    case refine_8 =>
     by_cases oa:FR S i v=v i
     ·rw [aj oa];rcases eu with ⟨rfl,hj⟩ | hs
      ·refine .inl ⟨rfl,fun j hj'=>?_⟩;rcases Nat.lt_succ_iff_lt_or_eq.1 hj' with h | rfl
       ·exact hj j h
       ·exact oa
      ·exact .inr hs
     ·right;rw [hF] at oa;rcases eu with ⟨rfl,hj⟩ | hs <;> omega
    all_goals simp [f1,n1,f3,f4]
   ·have ga:¬ (i:Int)<N:=by omega
    have gj:i=N:=by omega
    simp [pJ,-V,-y3,-y0,J,-wB,-mA,iB,kB,HA,JA,f1,n1,f5,<- ri,ga];refine zc _ _ ⟨rfl,by simp [f1],by simp [n1],by simp [f3],by simp [f4],v,by simp [n3],hv,?_⟩;rcases jb with hr | ta
    ·rcases eu with ⟨rfl,hj⟩ | hs
     ·exact .inl (gj ▸ hj)
     ·exact .inr (by omega)
    ·rw [bx ta]; exact .inl ta
  ·refine ⟨?_,?_,?_,?_,?_,v0,?_,hv0,fun _=>rfl,.inl ⟨rfl,fun j hj=>absurd hj (by omega)⟩⟩
   all_goals simp [e1,m1,e3,e4,m3]
  ·obtain ⟨rfl,f1,n1,f3,f4,v,n3,hv,eu⟩:=h;simp [-V,-y3,-y0,J,-wB,-mA,iB,kB,HA,JA,f4,gv];refine ih hrN _ ⟨by simp [f1],by simp [n1],by simp [f3],by simp,v,by simp [n3],hv,?_⟩;rcases eu with h | h
   ·exact .inr h
   ·exact .inl (by omega)
 ·refine ⟨?_,?_,?_,?_,fun _=>0,?_,aQ.zero hG,.inl ?_⟩
  case refine_5=>simp [vec0']
  case refine_6=>exact A3 _ N (fun j _=>⟨Int.le_refl _,by show (0:Int)<=2; decide⟩)
  all_goals simp
 ·obtain ⟨rfl,e3,v,m3,hv,hf⟩:=h;have lc:=dW N v;rw [jM (J2 hv hf hw fw)] at lc;rw [jM (J2 hv hf hw fw)] at m3;simp [-V,-y3,-y0,J,-wB,-mA,iB,kB,HA,JA,e3,m3,lc]
theorem both_cnts (s:wI) (h0:valid s.types=0):∃ w:GE,aQ s.types.length (FP s.types) w/\(∀ j,j<s.types.length->FP s.types j w=w j)/\fA 174 [.agg (UA s)] (.sl false (TC s.types.length w))/\fA 176 [.agg (UA s)] (.sl false (TC s.types.length w)):=by
 have hW:=ZD h0;obtain ⟨v,hv,fv⟩:=lfp (L3 hW);obtain ⟨w,hw,fw⟩:=lfp (Z3 hW);have h1:=counts_ev s h0 hv fv;have h2:=rcounts_ev s h0 hw fw;refine ⟨v,hv,fv,h1,?_⟩;rw [jM (FPR hW ?_ hv fv hw fw)]
 ·exact h2
 ·intro x hx h8 u hu;obtain ⟨j,hj,rfl⟩:=yB hx;have he:=WG h0 j hj;obtain ⟨hg,ho⟩:=XH he;obtain ⟨k0,k1⟩:=P2 h8 ho;have fa:s.types[j].key.toNat<s.types.length:=by omega
  have ub:1<=s.types[s.types[j].key.toNat].kind/\s.types[s.types[j].key.toNat].kind<=4:=by
   have hka:RI s.types s.types[j].key=s.types[s.types[j].key.toNat].kind:=by unfold RI; rw [y4 fa]
   rw [<- hka];refine Classical.byContradiction fun hn=>?_
   unfold SC at he;rw [if_neg (by simp [hg])] at he;by_cases h2:s.types[j].named=true/\s.types[j].name∈(s.types.take j).map dA.name
   ·rw [if_pos h2] at he; cases he
   ·rw [if_neg h2,if_neg (by simp [ho]),if_pos ⟨h8,hn⟩] at he;cases he
  have hgk:=(XH (WG h0 _ fa)).1;unfold FP;rw [y4 fa];generalize s.types[s.types[j].key.toNat]=y at *
  have hy:y.kind=1\/y.kind=2\/y.kind=3\/y.kind=4:=by omega
  simp only;rcases hy with e | e | e | e
  ·simp [NE,e]
  ·simp [NE,e]; split <;> decide
  ·simp [NE,e]; split <;> decide
  ·have:0<y.syms.length:=by
    unfold mB JI tN at hgk;simp [e] at hgk;exact hgk.1.2.1
   simp [NE,e];omega
def EP (w:GE) (n:Nat):List (List AV):=(List.range n).map fun j=>[AV.bool (decide (0<w j))]
theorem eQ (w:GE) (n:Nat):EP w (n + 1)=EP w n++[[AV.bool (decide (0<w n))]]:=by simp [EP,J]
theorem l8 (w:GE) (n:Nat):gB 1 (EP w n)=true:=tC _ _ _ fun _=>rfl
theorem wT (w:GE) (n:Nat):(EP w n).length=n:=by simp [EP]
theorem z8 (w:GE) {n i:Nat} (h:i<n):(EP w n)[i]?=some [.bool (decide (0<w i))]:=by simp [EP,h]
noncomputable def finA (S:List dA) (w:GE):AV:=if uE S=0 then .tup [.sl (decide (S.length=0)) (EP w S.length),.int .i64 0] else .tup [.sl true [],.int .i64 (uE S)]
theorem DL {S:List dA} (h:uE S=0):valid S=0:=by
 unfold uE at h;by_cases h0:valid S=0
 ·exact h0
 ·rw [if_neg h0] at h; exact absurd h h0
theorem finite_ev (s:wI) (hs:s.fine) (nd:s.d64) {w:GE} (hw:uE s.types=0->iM s.types.length w/\fA 174 [.agg (UA s)] (.sl false (TC s.types.length w))):fA 144 [.agg (UA s)] (finA s.types w):=by
 have hr:=right_ev s hs nd;refine wA (c:=QF) rfl rfl ?_;unfold finA;simp only [fA,UA] at hr hw;by_cases h0:uE s.types=0
 case neg =>
  rw [if_neg h0];simp [QF,-V,-y3,-y0,J,UA,hr,h0]
 have hN:=KI (DL h0);obtain ⟨hrng,hc⟩:=hw h0;rw [if_pos h0];rw [h0] at hr;simp only [UA];generalize s.types=S at *
 generalize s.nl=b at *
 obtain ⟨N,ri⟩:∃ N,N=S.length:=⟨_,rfl⟩;rw [<- ri] at hN hrng hc ⊢;have au:=lT N w;simp [QF,-V,-y3,-y0,J,UA,hr,hc,au];refine lA N (fun i σ=>(σ.env 14).v=.sl false (TC N w)/\(σ.env 15).v=.int .i64 N/\(σ.env 16).v=.int .i64 i/\(σ.env 5).v=.sl (decide (i=0)) (EP w i)/\(i=0/\(σ.env 5).a=.ex\/¬ i=0/\(σ.env 5).a=.own 24 4))
  (fun e σ=>e=.exit 0/\(σ.env 5).v=.sl (decide (N=0)) (EP w N)) (fun i hi σ k h ih hk=>?_) _ _ ?_ (fun e σ h=>?_)
 ·obtain ⟨er,e15,e16,e5,an⟩:=h;refine tA ?_;by_cases fa:i<N
  ·have ga:(i:Int)<N:=by omega
   have g1:(TC N w)[i]?=some [.int .i64 (w i)]:=by have:=AE w (t:=(i:Int)) (N:=N) (by omega); simpa using this
   have ng:=ZA (i:=i);have q:=l8 w i;have ql:=wT w i;have ja:uB 1 (i + 1)=true:=by rw [TA]; omega
   rcases an with ⟨a0,a5⟩ | ⟨a0,a5⟩
   ·simp [gF,-V,-y3,-y0,J,er,e15,e16,e5,a5,ga,g1,q,ql,ng,ja];refine ih fa _ ⟨?_,?_,?_,?_,?_⟩ <;> simp [er,e15,eQ,An.strip]
   ·simp [gF,-V,-y3,-y0,J,er,e15,e16,e5,a0,a5,ga,g1,q,ql,ng,ja];refine ih fa _ ⟨?_,?_,?_,?_,?_⟩ <;> simp [er,e15,eQ,An.strip]
  ·have ga:¬ (i:Int)<N:=by omega
   have gj:i=N:=by omega
   simp [gF,-V,-y3,-y0,J,e15,e16,ga];exact hk _ _ ⟨rfl,by rw [<- gj]; simp [e5]⟩
 ·simp [EP]
 ·obtain ⟨rfl,e5⟩:=h;simp [-V,-y3,-y0,J,e5]
theorem rfinite_ev (s:wI) (hs:s.fine) (nd:s.d64) {w:GE} (hw:uE s.types=0->iM s.types.length w/\fA 176 [.agg (UA s)] (.sl false (TC s.types.length w))):fA 145 [.agg (UA s)] (finA s.types w):=by
 have hr:=rerror_ev s hs nd;refine wA (c:=ZG) rfl rfl ?_;unfold finA;simp only [fA,UA] at hr hw;by_cases h0:uE s.types=0
 case neg =>
  rw [if_neg h0];simp [ZG,-V,-y3,-y0,J,UA,hr,h0]
 have hN:=KI (DL h0);obtain ⟨hrng,hc⟩:=hw h0;rw [if_pos h0];rw [h0] at hr;simp only [UA];generalize s.types=S at *
 generalize s.nl=b at *
 obtain ⟨N,ri⟩:∃ N,N=S.length:=⟨_,rfl⟩;rw [<- ri] at hN hrng hc ⊢;have au:=lT N w;simp [ZG,-V,-y3,-y0,J,UA,hr,hc];refine lA N (fun i σ=>(σ.env 5).v=.sl false (TC N w)/\(σ.env 7).v=.int .i64 i/\(σ.env 6).v=.sl (decide (i=0)) (EP w i)/\(i=0/\(σ.env 6).a=.ex\/¬ i=0/\(σ.env 6).a=.own 28 4))
  (fun e σ=>e=.exit 0/\(σ.env 6).v=.sl (decide (N=0)) (EP w N)) (fun i hi σ k h ih hk=>?_) _ _ ?_ (fun e σ h=>?_)
 ·obtain ⟨e5,e7,e6,an⟩:=h;refine tA ?_;by_cases fa:i<N
  ·have ga:(i:Int)<N:=by omega
   have g1:(TC N w)[i]?=some [.int .i64 (w i)]:=by have:=AE w (t:=(i:Int)) (N:=N) (by omega); simpa using this
   have ng:=ZA (i:=i);have q:=l8 w i;have ql:=wT w i;have ja:uB 1 (i + 1)=true:=by rw [TA]; omega
   rcases an with ⟨a0,a5⟩ | ⟨a0,a5⟩
   ·simp [AG,-V,-y3,-y0,J,e5,e7,e6,a5,ga,au,g1,q,ql,ng,ja];refine ih fa _ ⟨?_,?_,?_,?_⟩ <;> simp [e5,eQ,An.strip]
   ·simp [AG,-V,-y3,-y0,J,e5,e7,e6,a0,a5,ga,au,g1,q,ql,ng,ja];refine ih fa _ ⟨?_,?_,?_,?_⟩ <;> simp [e5,eQ,An.strip]
  ·have ga:¬ (i:Int)<N:=by omega
   have gj:i=N:=by omega
   simp [AG,-V,-y3,-y0,J,e5,e7,au,ga];exact hk _ _ ⟨rfl,by rw [<- gj]; simp [e6]⟩
 ·simp [EP]
 ·obtain ⟨rfl,e5⟩:=h;simp [-V,-y3,-y0,J,e5]
def QH (w:GE):Nat->Bool
 | 0=>true
 | n + 1=>QH w n&&decide (0<w n)
theorem xW {w:GE}:∀ {n:Nat} (i:Nat),i<n->¬ 0<w i->QH w n=false
 | 0,i,h,_=>by omega
 | n + 1,i,h,hn=>by
  unfold QH;by_cases e:i=n
  ·subst e; simp [hn]
  ·rw [xW i (by omega) hn]; rfl
noncomputable def IU (S:List dA) (w:GE):Int:=if uE S=0 then (if QH w S.length=true then 0 else 10) else uE S
theorem sound_ev (s:wI) (hs:s.fine) (nd:s.d64) {w:GE} (hw:uE s.types=0->iM s.types.length w/\fA 174 [.agg (UA s)] (.sl false (TC s.types.length w))):fA 95 [.agg (UA s)] (.int .i64 (IU s.types w)):=by
 have hf:=finite_ev s hs nd hw;refine wA (c:=rG) rfl rfl ?_;unfold finA at hf;unfold IU;simp only [fA,UA] at hf;by_cases h0:uE s.types=0
 case neg =>
  rw [if_neg h0] at hf ⊢;simp [rG,-V,-y3,-y0,J,UA,hf,h0]
 have hN:=KI (DL h0);clear hw;rw [if_pos h0] at hf ⊢;simp only [UA];generalize s.types=S at *
 generalize s.nl=b at *
 obtain ⟨N,ri⟩:∃ N,N=S.length:=⟨_,rfl⟩;rw [<- ri] at hN hf ⊢;have au:=wT w N;simp [rG,-V,-y3,-y0,J,UA,hf,au];refine lA N (fun i σ=>(σ.env 15).v=.sl (decide (N=0)) (EP w N)/\(σ.env 16).v=.int .i64 N/\(σ.env 17).v=.int .i64 i/\QH w i=true)
  (fun e σ=>(e=.exit 0/\QH w N=true)\/(e=.ret/\QH w N=false/\(σ.env 2).v=.int .i64 10)) (fun i hi σ k h ih hk=>?_) _ _ ?_ (fun e σ h=>?_)
 ·obtain ⟨e15,e16,bh,hp⟩:=h;refine tA ?_;by_cases fa:i<N
  ·have ga:(i:Int)<N:=by omega
   have g1:=z8 w fa;have ng:=ZA (i:=i);by_cases db:0<w i
   ·rw [decide_eq_true db] at g1;simp [HF,-V,-y3,-y0,J,e15,e16,bh,ga,g1,ng];refine ih fa _ ⟨?_,?_,?_,by rw [QH,hp,decide_eq_true db]; rfl⟩ <;> simp [e15,e16]
   ·rw [decide_eq_false db] at g1;simp [HF,-V,-y3,-y0,J,e15,e16,bh,ga,g1];exact hk _ _ (.inr ⟨rfl,xW i fa db,by simp⟩)
  ·have ga:¬ (i:Int)<N:=by omega
   have gj:i=N:=by omega
   simp [HF,-V,-y3,-y0,J,e16,bh,ga];exact hk _ _ (.inl ⟨rfl,gj ▸ hp⟩)
 ·simp [QH]
 ·rcases h with ⟨rfl,h1⟩ | ⟨rfl,h1,h2⟩
  ·simp [-V,-y3,-y0,J,h1]
  ·simp [-V,-y3,-y0,J,h1,h2]
theorem rsound_ev (s:wI) (hs:s.fine) (nd:s.d64) {w:GE} (hw:uE s.types=0->iM s.types.length w/\fA 176 [.agg (UA s)] (.sl false (TC s.types.length w))):fA 97 [.agg (UA s)] (.int .i64 (IU s.types w)):=by
 have hf:=rfinite_ev s hs nd hw;refine wA (c:=FH) rfl rfl ?_;unfold finA at hf;unfold IU;simp only [fA,UA] at hf;by_cases h0:uE s.types=0
 case neg =>
  rw [if_neg h0] at hf ⊢;simp [FH,-V,-y3,-y0,J,UA,hf,h0]
 have hN:=KI (DL h0);clear hw;rw [if_pos h0] at hf ⊢;simp only [UA];generalize s.types=S at *
 generalize s.nl=b at *
 obtain ⟨N,ri⟩:∃ N,N=S.length:=⟨_,rfl⟩;rw [<- ri] at hN hf ⊢;have au:=wT w N;simp [FH,-V,-y3,-y0,J,UA,hf];refine lA N (fun i σ=>(σ.env 3).v=.sl (decide (N=0)) (EP w N)/\(σ.env 5).v=.int .i64 i/\QH w i=true)
  (fun e σ=>(e=.exit 0/\QH w N=true)\/(e=.ret/\QH w N=false/\(σ.env 2).v=.int .i64 10)) (fun i hi σ k h ih hk=>?_) _ _ ?_ (fun e σ h=>?_)
 ·obtain ⟨e3,e5,hp⟩:=h;refine tA ?_;by_cases fa:i<N
  ·have ga:(i:Int)<N:=by omega
   have g1:=z8 w fa;have ng:=ZA (i:=i);by_cases db:0<w i
   ·rw [decide_eq_true db] at g1;simp [jH,-V,-y3,-y0,J,e3,e5,ga,au,g1,ng];refine ih fa _ ⟨?_,?_,by rw [QH,hp,decide_eq_true db]; rfl⟩ <;> simp [e3]
   ·rw [decide_eq_false db] at g1;simp [jH,-V,-y3,-y0,J,e3,e5,ga,au,g1];exact hk _ _ (.inr ⟨rfl,xW i fa db,by simp⟩)
  ·have ga:¬ (i:Int)<N:=by omega
   have gj:i=N:=by omega
   simp [jH,-V,-y3,-y0,J,e3,e5,au,ga];exact hk _ _ (.inl ⟨rfl,gj ▸ hp⟩)
 ·simp [QH]
 ·rcases h with ⟨rfl,h1⟩ | ⟨rfl,h1,h2⟩
  ·simp [-V,-y3,-y0,J,h1]
  ·simp [-V,-y3,-y0,J,h1,h2]
end Go.Proofs.YtbnlmgncbgaepaaGreat
