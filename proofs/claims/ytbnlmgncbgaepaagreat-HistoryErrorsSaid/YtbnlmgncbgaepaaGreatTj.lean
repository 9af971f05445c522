/- A part of the proof. -/
import Derived.Test.YtbnlmgncbgaepaaGreatTi
set_option linter.all false
set_option maxRecDepth 100000
set_option maxHeartbeats 8000000
open Option renaming bind_some → V
open List renaming range_succ → y0, map_map → y3, getElem?_eq_getElem → y5, getElem_mem → y7, drop_eq_getElem_cons → y8, drop_eq_nil_of_le → yc, mem_cons_self → ym, mem_cons_of_mem → yo, map_congr_left → yr, getElem_of_mem → yz, replicate → yB, mem_append_left → yX
open Int renaming toNat_lt → y4
namespace Go.Proofs.YtbnlmgncbgaepaaGreat
open Go
section
abbrev HE:=Nat->Int
def eM (N:Nat) (v:HE):Prop:=∀ j,j<N->0<=v j/\v j<=2
structure LZ (N:Nat) (F:Nat->HE->Int):Prop where
 mono:∀ u v,eM N u->eM N v->(∀ j,j<N->u j<=v j)->∀ i,i<N->F i u<=F i v
 rng:∀ u,eM N u->∀ i,i<N->0<=F i u/\F i u<=2
def upd (F:Nat->HE->Int) (v:HE) (i:Nat):HE:=fun j=>if j=i then F i v else v j
structure RQ (N:Nat) (F:Nat->HE->Int) (v:HE):Prop where
 rng:eM N v
 post:∀ j,j<N->v j<=F j v
 least:∀ m,eM N m->(∀ j,j<N->F j m<=m j)->∀ j,j<N->v j<=m j
def WM:Nat->HE->Int
 | 0,_=>0
 | n + 1,v=>WM n v + v n
theorem PW (v:HE):∀ N,eM N v->WM N v<=2 * N
 | 0,_=>by simp [WM]
 | n + 1,h=>by
  have:=PW v n fun j hj=>h j (by omega)
  have:=h n (by omega);simp only [WM];omega
theorem C4 (v:HE):∀ N,eM N v->0<=WM N v
 | 0,_=>by simp [WM]
 | n + 1,h=>by
  have:=C4 v n fun j hj=>h j (by omega)
  have:=h n (by omega);simp only [WM];omega
theorem J2 (v w:HE):∀ N,(∀ j,j<N->v j=w j)->WM N v=WM N w
 | 0,_=>rfl
 | n + 1,h=>by simp only [WM,J2 v w n fun j hj=>h j (by omega),h n (by omega)]
theorem rQ (F:Nat->HE->Int) (v:HE) (i:Nat):∀ N,i<N->WM N (upd F v i)=WM N v + (F i v - v i)
 | 0,h=>by omega
 | n + 1,h=>by
  simp only [WM];by_cases e:i=n
  ·subst e;rw [J2 (upd F v i) v i fun j hj=>by simp [upd,show ¬ j=i from by omega]];simp only [upd,if_true];omega
  ·rw [rQ F v i n (by omega)];have:upd F v i n=v n:=by simp [upd,show ¬ n=i from fun e'=>e e'.symm]
   omega
section
variable {N:Nat} {F:Nat->HE->Int}
theorem RQ.zero (G:LZ N F):RQ N F (fun _=>0):=by
 refine ⟨fun j hj=>by omega,fun j hj=>(G.rng _ (fun j hj=>by omega) j hj).1,fun m hm _ j hj=>(hm j hj).1⟩
theorem upd_ge {v:HE} (h:RQ N F v) {i:Nat} (hi:i<N) (j:Nat):v j<=upd F v i j:=by
 unfold upd;split
 ·rename_i e; subst e; exact h.post _ hi
 ·exact Int.le_refl _
theorem upd_rng (G:LZ N F) {v:HE} (h:RQ N F v) {i:Nat} (hi:i<N):eM N (upd F v i):=fun j hj=>by
 unfold upd;split
 ·exact G.rng v h.rng i hi
 ·exact h.rng j hj
theorem RQ.upd (G:LZ N F) {v:HE} (h:RQ N F v) {i:Nat} (hi:i<N):RQ N F (upd F v i):=by
 have hr:=upd_rng G h hi;refine ⟨hr,fun j hj=>?_,fun m hm hp j hj=>?_⟩
 ·have hm:=G.mono v (Go.Proofs.YtbnlmgncbgaepaaGreat.upd F v i) h.rng hr (fun j _=>upd_ge h hi j) j hj;unfold Go.Proofs.YtbnlmgncbgaepaaGreat.upd at hm ⊢;by_cases e:j=i
  ·subst e; simp only [if_true]; exact hm
  ·simp only [if_neg e]; have:=h.post j hj; omega
 ·unfold Go.Proofs.YtbnlmgncbgaepaaGreat.upd;split
  ·rename_i e; subst e;have:=G.mono v m h.rng hm (h.least m hm hp) j hj;have:=hp j hj;omega
  ·exact h.least m hm hp j hj
theorem upd_same {v:HE} {i:Nat} (h:F i v=v i):upd F v i=v:=by
 funext j;unfold upd;split
 ·rename_i e; subst e; exact h
 ·rfl
end
end
def TC (N:Nat) (v:HE):List (List AV):=(List.range N).map fun i=>[AV.int .i64 (v i)]
theorem FT (N:Nat) (v:HE):(TC N v).length=N:=by simp [TC]
theorem DT (N:Nat) (v:HE):lB 1 (TC N v)=true:=lC _ _ _ fun _=>rfl
theorem vecC_free (N:Nat) (v:HE):XD (TC N v)=true:=tN _ _ fun _=>rfl
theorem FE {N:Nat} (v:HE) {t:Int} (h:0<=t/\t<N):(TC N v)[t.toNat]?=some [.int .i64 (v t.toNat)]:=by
 have:t.toNat<N:=by omega
 simp [TC,this]
theorem vecC_set {N:Nat} (v w:HE) {i:Nat} {x:Int} (hi:w i=x) (h:∀ j,j≠i->w j=v j):(TC N v).set i [.int .i64 x]=TC N w:=by
 apply List.ext_getElem?;intro j;by_cases e:j=i
 ·subst e;by_cases hj:j<N
  ·simp [TC,hj,hi]
  ·simp [TC,hj]
 ·rw [List.getElem?_set_ne (fun e'=>e e'.symm)];by_cases hj:j<N
  ·simp [TC,hj,h j e]
  ·simp [TC,hj]
def UO (v:HE):List SB->Int->Int
 | [],c=>c
 | m :: r,c=>UO v r (min 2 (c * v m.ty.toNat))
def bW (v:HE):List SB->Int->Int
 | [],c=>c
 | m :: r,c=>bW v r (c + v m.ty.toNat)
def MT (v:HE):List SB->Int->Int
 | [],c=>c
 | m :: r,c=>MT v r (min 2 (c + v m.ty.toNat))
def iF (x:sA) (v:HE):Int :=
 if x.kind=2 then (if x.low=x.high then 1 else 2)
 else if x.kind=3 then (if x.max=0 then 1 else 2)
 else if x.kind=4 then x.syms.length
 else if x.kind=5 then UO v x.mems 1
 else if x.kind=6 then bW v x.mems 0
 else if x.kind=7 then (if x.max=0\/v x.elem.toNat=0 then 1 else 2)
 else if x.kind=8 then (if x.max=0\/v x.elem.toNat=0\/v x.key.toNat=0 then 1 else 2)
 else if x.kind=9 then 1 + v x.elem.toNat
 else 2
def WG (x:sA) (v:HE):Int :=
 if x.kind=2 then (if x.low=x.high then 1 else 2)
 else if x.kind=3 then (if x.max=0 then 1 else 2)
 else if x.kind=4 then min 2 x.syms.length
 else if x.kind=5 then UO v x.mems 1
 else if x.kind=6 then MT v x.mems 0
 else if x.kind=7\/x.kind=8 then (if x.max=0\/v x.elem.toNat=0 then 1 else 2)
 else if x.kind=9 then min 2 (1 + v x.elem.toNat)
 else 2
structure xD (N:Nat) (x:sA):Prop where
 mems:∀ m∈x.mems,0<=m.ty/\m.ty<N
 few:x.mems.length<=16
 elem:7<=x.kind->0<=x.elem/\x.elem<N
 key:x.kind=8->0<=x.key/\x.key<N
theorem RY {N:Nat} {v:HE} (hv:eM N v):∀ (l:List SB) (c:Int),(∀ m∈l,0<=m.ty/\m.ty<N)->0<=c/\c<=2->0<=UO v l c/\UO v l c<=2
 | [],c,_,hc=>hc
 | m :: r,c,hm,hc=>by
  have h1:=hm m ym;have h2:=hv m.ty.toNat (by omega);refine RY hv r _ (fun m' h=>hm m' (yo _ h)) ?_;have:0<=c * v m.ty.toNat:=Int.mul_nonneg hc.1 h2.1;omega
theorem G7 {N:Nat} {v:HE} (hv:eM N v):∀ (l:List SB) (c:Int),(∀ m∈l,0<=m.ty/\m.ty<N)->0<=c/\c<=2->0<=MT v l c/\MT v l c<=2
 | [],c,_,hc=>hc
 | m :: r,c,hm,hc=>by
  have h1:=hm m ym;have h2:=hv m.ty.toNat (by omega);refine G7 hv r _ (fun m' h=>hm m' (yo _ h)) ?_;omega
theorem cap_sum {N:Nat} {v:HE} (hv:eM N v):∀ (l:List SB) (c:Int),(∀ m∈l,0<=m.ty/\m.ty<N)->MT v l (min 2 c)=min 2 (bW v l c)
 | [],c,_=>rfl
 | m :: r,c,hm=>by
  have h1:=hm m ym;have h2:=hv m.ty.toNat (by omega);rw [MT,bW,<- cap_sum hv r _ (fun m' h=>hm m' (yo _ h))];congr 1;omega
theorem JX {a b c d:Int} (h1:0<=a) (h2:a<=b) (h3:0<=c) (h4:c<=d):a * c<=b * d:=Int.mul_le_mul h2 h4 h3 (by omega)
theorem Q2 {N:Nat} {u v:HE} (hu:eM N u) (hv:eM N v) (nn:∀ j,j<N->u j<=v j):∀ (l:List SB) (c d:Int),(∀ m∈l,0<=m.ty/\m.ty<N)->0<=c->c<=d->d<=2->UO u l c<=UO v l d
 | [],c,d,_,_,h,_=>h
 | m :: r,c,d,hm,h0,h,hd=>by
  have h1:=hm m ym;have h2:=hu m.ty.toNat (by omega);have h4:=nn m.ty.toNat (by omega);have h5:=JX h0 h h2.1 h4;have h6:0<=c * u m.ty.toNat:=Int.mul_nonneg h0 h2.1;exact Q2 hu hv nn r _ _ (fun m' h=>hm m' (yo _ h)) (by omega) (by omega) (by omega)
theorem Q0 {N:Nat} {u v:HE} (hu:eM N u) (hv:eM N v) (nn:∀ j,j<N->u j<=v j):∀ (l:List SB) (c d:Int),(∀ m∈l,0<=m.ty/\m.ty<N)->c<=d->MT u l c<=MT v l d
 | [],c,d,_,h=>h
 | m :: r,c,d,hm,h=>by
  have h1:=hm m ym;have h4:=nn m.ty.toNat (by omega);exact Q0 hu hv nn r _ _ (fun m' h=>hm m' (yo _ h)) (by omega)
theorem L7 {N:Nat} {v:HE} (hv:eM N v) {x:sA} (hx:xD N x):0<=WG x v/\WG x v<=2:=by
 unfold WG
 repeat' split
 all_goals first
  | omega
  | exact RY hv _ _ hx.mems (by omega)
  | exact G7 hv _ _ hx.mems (by omega)
  | (have:=hx.elem (by omega); have:=hv x.elem.toNat (by omega); omega)
theorem QP {N:Nat} {v:HE} (hv:eM N v) {x:sA} (hx:xD N x) (hk:x.kind≠8):min 2 (iF x v)=WG x v:=by
 unfold WG iF;by_cases h5:x.kind=5
 ·have:=RY hv x.mems 1 hx.mems (by omega);simp [h5];omega
 ·by_cases h6:x.kind=6
  ·have:=cap_sum hv x.mems 0 hx.mems;simp [h6];exact this.symm
  ·by_cases h7:x.kind=7
   ·simp [h7]; split <;> rfl
   ·simp only [h5,h6,h7,hk,if_false,or_self]
    repeat' split
    all_goals rfl
theorem MW {v:HE} {x:sA} (hk:x.kind=8):min 2 (iF x v)=if x.max=0\/v x.elem.toNat=0\/v x.key.toNat=0 then 1 else 2:=by
 simp [iF,hk];split <;> rfl
theorem cntR_8 {v:HE} {x:sA} (hk:x.kind=8):WG x v=if x.max=0\/v x.elem.toNat=0 then 1 else 2:=by simp [WG,hk]
theorem W0 {N:Nat} {u v:HE} (hu:eM N u) (hv:eM N v) (nn:∀ j,j<N->u j<=v j) {x:sA} (hx:xD N x):WG x u<=WG x v:=by
 have he:7<=x.kind->0<=u x.elem.toNat/\u x.elem.toNat<=v x.elem.toNat:=fun h=>by
  have:=hx.elem h;exact ⟨(hu _ (by omega)).1,nn _ (by omega)⟩
 unfold WG;by_cases h5:x.kind=5
 ·simp [h5]; exact Q2 hu hv nn _ _ _ hx.mems (by omega) (by omega) (by omega)
 ·by_cases h6:x.kind=6
  ·simp [h6]; exact Q0 hu hv nn _ _ _ hx.mems (by omega)
  ·by_cases h7:x.kind=7\/x.kind=8
   ·have:=he (by omega);have h2:¬ x.kind=2:=by omega
    have h3:¬ x.kind=3:=by omega
    have h4:¬ x.kind=4:=by omega
    simp only [h2,h3,h4,h5,h6,h7,if_true,if_false];split <;> split <;> omega
   ·by_cases h9:x.kind=9
    ·have:=he (by omega);simp [h9]; omega
    ·simp only [h5,h6,h7,h9,if_false]
     repeat' split
     all_goals omega
def FP (S:List sA) (i:Nat) (v:HE):Int:=match S[i]? with
 | some x=>min 2 (iF x v)
 | none=>0
def FR (S:List sA) (i:Nat) (v:HE):Int:=match S[i]? with
 | some x=>WG x v
 | none=>0
theorem i5 {S:List sA} (hS:∀ x∈S,xD S.length x):LZ S.length (FR S):=by
 refine ⟨fun u v hu hv nn i hi=>?_,fun u hu i hi=>?_⟩
 ·unfold FR;rw [y5 hi];exact W0 hu hv nn (hS _ (y7 _))
 ·unfold FR;rw [y5 hi];exact L7 hu (hS _ (y7 _))
theorem FP_rng {N:Nat} {v:HE} (hv:eM N v) {x:sA} (hx:xD N x):0<=min 2 (iF x v)/\min 2 (iF x v)<=2:=by
 by_cases h8:x.kind=8
 ·rw [MW h8]; split <;> omega
 ·rw [QP hv hx h8]; exact L7 hv hx
theorem u5 {S:List sA} (hS:∀ x∈S,xD S.length x):LZ S.length (FP S):=by
 refine ⟨fun u v hu hv nn i hi=>?_,fun u hu i hi=>?_⟩
 ·unfold FP;rw [y5 hi];have hx:=hS _ (y7 hi);simp only;by_cases h8:S[i].kind=8
  ·rw [MW h8,MW h8];have h1:=hx.elem (by omega);have h2:=hx.key h8;have:=hu S[i].elem.toNat (by omega);have:=nn S[i].elem.toNat (by omega);have:=hu S[i].key.toNat (by omega);have:=nn S[i].key.toNat (by omega);split <;> split <;> omega
  ·rw [QP hu hx h8,QP hv hx h8];exact W0 hu hv nn hx
 ·unfold FP;rw [y5 hi];exact FP_rng hu (hS _ (y7 _))
theorem FPR {S:List sA} (hS:∀ x∈S,xD S.length x) (hk:∀ x∈S,x.kind=8->∀ v,eM S.length v->1<=FP S x.key.toNat v) {v w:HE} (hv:RQ S.length (FP S) v) (hvf:∀ j,j<S.length->FP S j v=v j) (hw:RQ S.length (FR S) w) (hwf:∀ j,j<S.length->FR S j w=w j):∀ j,j<S.length->v j=w j:=by
 have e:∀ j,j<S.length->FR S j v=FP S j v:=fun j hj=>by
  unfold FR FP;rw [y5 hj];have hx:=hS _ (y7 hj);simp only;by_cases h8:S[j].kind=8
  ·rw [MW h8,cntR_8 h8];have h2:=hx.key h8;have:=hk _ (y7 hj) h8 v hv.rng;rw [hvf _ (by omega)] at this;have:¬ v S[j].key.toNat=0:=by omega
   simp [this]
  ·exact (QP hv.rng hx h8).symm
 have ub:∀ u,eM S.length u->∀ j,j<S.length->FP S j u<=FR S j u:=fun u hu j hj=>by
  unfold FR FP;rw [y5 hj];have hx:=hS _ (y7 hj);simp only;by_cases h8:S[j].kind=8
  ·rw [MW h8,cntR_8 h8]; split <;> split <;> omega
  ·rw [QP hu hx h8]; exact Int.le_refl _
 have h1:∀ j,j<S.length->w j<=v j:=hw.least v hv.rng fun j hj=>by rw [e j hj,hvf j hj]; exact Int.le_refl _
 have h2:∀ j,j<S.length->v j<=w j:=hv.least w hw.rng fun j hj=>by rw [<- hwf j hj]; exact ub w hw.rng j hj
 intro j hj;have:=h1 j hj;have:=h2 j hj;omega
section
variable {N:Nat} {v:HE} (hv:eM N v) {x:sA} (hx:xD N x)
include N v hv x hx
theorem cr_ev1 (h:x.kind=1):fA 207 [.agg (qA x),.bl (TC N v)] (.int .i64 (WG x v)):=by
 refine rA (c:=SA) rfl rfl ?_;simp [SA,-V,-y4,-y3,y0,qA,h,WG]
theorem cr_ev2 (h:x.kind=2):fA 207 [.agg (qA x),.bl (TC N v)] (.int .i64 (WG x v)):=by
 refine rA (c:=SA) rfl rfl ?_;by_cases c1:x.low=x.high
 ·simp [SA,-V,-y4,-y3,y0,qA,h,WG,c1]
 ·simp [SA,-V,-y4,-y3,y0,qA,h,WG,c1]
theorem cr_ev3 (h:x.kind=3):fA 207 [.agg (qA x),.bl (TC N v)] (.int .i64 (WG x v)):=by
 refine rA (c:=SA) rfl rfl ?_;by_cases c1:x.max=0
 ·simp [SA,-V,-y4,-y3,y0,qA,h,WG,c1]
 ·simp [SA,-V,-y4,-y3,y0,qA,h,WG,c1]
theorem cr_ev4 (h:x.kind=4):fA 207 [.agg (qA x),.bl (TC N v)] (.int .i64 (WG x v)):=by
 refine rA (c:=SA) rfl rfl ?_;simp [SA,-V,-y4,-y3,y0,qA,h,WG]
theorem cr_ev7 (h:x.kind=7):fA 207 [.agg (qA x),.bl (TC N v)] (.int .i64 (WG x v)):=by
 refine rA (c:=SA) rfl rfl ?_;have jc:=hx.elem (by omega);have gel:=FE v jc;have uf:=jc.1;by_cases c1:x.max=0
 ·simp [SA,-V,-y4,-y3,y0,qA,h,WG,c1]
 ·by_cases c2:v x.elem.toNat=0
  ·simp [SA,-V,-y4,-y3,y0,qA,h,WG,c1,c2,gel,uf]
  ·simp [SA,-V,-y4,-y3,y0,qA,h,WG,c1,c2,gel,uf]
theorem cr_ev8 (h:x.kind=8):fA 207 [.agg (qA x),.bl (TC N v)] (.int .i64 (WG x v)):=by
 refine rA (c:=SA) rfl rfl ?_;have jc:=hx.elem (by omega);have gel:=FE v jc;have uf:=jc.1;by_cases c1:x.max=0
 ·simp [SA,-V,-y4,-y3,y0,qA,h,WG,c1]
 ·by_cases c2:v x.elem.toNat=0
  ·simp [SA,-V,-y4,-y3,y0,qA,h,WG,c1,c2,gel,uf]
  ·simp [SA,-V,-y4,-y3,y0,qA,h,WG,c1,c2,gel,uf]
theorem cr_ev9 (h:x.kind=9):fA 207 [.agg (qA x),.bl (TC N v)] (.int .i64 (WG x v)):=by
 refine rA (c:=SA) rfl rfl ?_;have jc:=hx.elem (by omega);have gel:=FE v jc;have uf:=jc.1;have ve:=hv x.elem.toNat (by omega);have hw:IntKind.i64.wrap (1 + v x.elem.toNat)=1 + v x.elem.toNat:=IntWalk.i64_in _ (by omega);simp [SA,-V,-y4,-y3,y0,qA,h,WG,gel,uf,hw]
theorem cr_ev5 (h:x.kind=5):fA 207 [.agg (qA x),.bl (TC N v)] (.int .i64 (WG x v)):=by
 refine rA (c:=SA) rfl rfl ?_;simp [SA,-V,-y4,-y3,y0,qA,h,WG];refine gA x.mems.length (fun i s=>(s.env 1).v=.bl (TC N v)/\(s.env 2).v=.ptr 2 1 0/\s.mem 2 1=some (jA x)/\(s.env 6).v=.int .i64 i/\∃ a,(s.env 5).v=.int .i64 a/\UO v (x.mems.drop i) a=UO v x.mems 1/\0<=a/\a<=2)
  (fun e s=>e=.exit 1/\(s.env 5).v=.int .i64 (UO v x.mems 1)) (fun i hi s k h' ih hk=>?_) _ _ ?_ (fun e s h'=>?_)
 ·obtain ⟨e1,e2,e3,e4,a,ea,hs,hb⟩:=h';refine tA ?_;by_cases fa:i<x.mems.length
  ·have ga:(i:Int)<x.mems.length:=by omega
   have g1:(x.mems.map zA)[i]?=some (zA x.mems[i]):=by simp [fa]
   have hw:=GA (i:=i) (by have:=hx.few; omega);have ml:=hx.mems x.mems[i] (y7 _);rw [y8 fa,UO] at hs;generalize x.mems[i]=m at *
   have pw:=hv m.ty.toNat (by omega);have gm:=FE v ml;have rk:=ml.1;have lj:=Int.mul_nonneg hb.1 pw.1;have hm3:a * v m.ty.toNat<=2 * 2:=JX hb.1 hb.2 pw.1 pw.2;have di:IntKind.i64.wrap (a * v m.ty.toNat)=a * v m.ty.toNat:=IntWalk.i64_in _ (by omega);simp only [zA] at g1;simp [pK,-V,-y4,-y3,y0,e1,e2,e3,e4,ea,ga,g1,gm,rk,hw,di];refine ih fa _ ⟨?_,?_,?_,?_,min 2 (a * v m.ty.toNat),?_,hs,by omega⟩ <;> simp [e1,e2,e3]
  ·have ga:¬ (i:Int)<x.mems.length:=by omega
   simp [pK,-V,-y4,-y3,y0,e1,e2,e3,e4,ga];rw [yc (by omega),UO] at hs;exact hk _ _ ⟨rfl,by simp [ea,hs]⟩
 ·simp [qA,h]
 ·obtain ⟨rfl,ea⟩:=h';simp [-V,-y4,-y3,y0,ea]
theorem cr_ev6 (h:x.kind=6):fA 207 [.agg (qA x),.bl (TC N v)] (.int .i64 (WG x v)):=by
 refine rA (c:=SA) rfl rfl ?_;simp [SA,-V,-y4,-y3,y0,qA,h,WG];refine gA x.mems.length (fun i s=>(s.env 1).v=.bl (TC N v)/\(s.env 2).v=.ptr 2 1 0/\s.mem 2 1=some (jA x)/\(s.env 8).v=.int .i64 i/\∃ a,(s.env 7).v=.int .i64 a/\MT v (x.mems.drop i) a=MT v x.mems 0/\0<=a/\a<=2)
  (fun e s=>e=.exit 3/\(s.env 7).v=.int .i64 (MT v x.mems 0)) (fun i hi s k h' ih hk=>?_) _ _ ?_ (fun e s h'=>?_)
 ·obtain ⟨e1,e2,e3,e4,a,ea,hs,hb⟩:=h';refine tA ?_;by_cases fa:i<x.mems.length
  ·have ga:(i:Int)<x.mems.length:=by omega
   have g1:(x.mems.map zA)[i]?=some (zA x.mems[i]):=by simp [fa]
   have hw:=GA (i:=i) (by have:=hx.few; omega);have ml:=hx.mems x.mems[i] (y7 _);rw [y8 fa,MT] at hs;generalize x.mems[i]=m at *
   have pw:=hv m.ty.toNat (by omega);have gm:=FE v ml;have rk:=ml.1;have di:IntKind.i64.wrap (a + v m.ty.toNat)=a + v m.ty.toNat:=IntWalk.i64_in _ (by omega);simp only [zA] at g1;simp [iK,-V,-y4,-y3,y0,e1,e2,e3,e4,ea,ga,g1,gm,rk,hw,di];refine ih fa _ ⟨?_,?_,?_,?_,min 2 (a + v m.ty.toNat),?_,hs,by omega⟩ <;> simp [e1,e2,e3]
  ·have ga:¬ (i:Int)<x.mems.length:=by omega
   simp [iK,-V,-y4,-y3,y0,e1,e2,e3,e4,ga];rw [yc (by omega),MT] at hs;exact hk _ _ ⟨rfl,by simp [ea,hs]⟩
 ·simp [qA,h]
 ·obtain ⟨rfl,ea⟩:=h';simp [-V,-y4,-y3,y0,ea]
theorem cr_ev (hk:1<=x.kind/\x.kind<=9):fA 207 [.agg (qA x),.bl (TC N v)] (.int .i64 (WG x v)):=by
 rcases kinds x.kind with e | e | e | e | e | e | e | e | e | e
 ·exact cr_ev1 hv hx e
 ·exact cr_ev2 hv hx e
 ·exact cr_ev3 hv hx e
 ·exact cr_ev4 hv hx e
 ·exact cr_ev5 hv hx e
 ·exact cr_ev6 hv hx e
 ·exact cr_ev7 hv hx e
 ·exact cr_ev8 hv hx e
 ·exact cr_ev9 hv hx e
 ·exact absurd hk e
end
section
variable {N:Nat} {v:HE} (hv:eM N v) {x:sA} (hx:xD N x)
include N v hv x hx
theorem cp_ev1 (h:x.kind=1):fA 205 [.agg (qA x),.bl (TC N v)] (.int .i64 (iF x v)):=by
 refine rA (c:=mA) rfl rfl ?_;simp [mA,-V,-y4,-y3,y0,qA,h,iF]
theorem cp_ev2 (h:x.kind=2):fA 205 [.agg (qA x),.bl (TC N v)] (.int .i64 (iF x v)):=by
 refine rA (c:=mA) rfl rfl ?_;by_cases c1:x.low=x.high
 ·simp [mA,-V,-y4,-y3,y0,qA,h,iF,c1]
 ·simp [mA,-V,-y4,-y3,y0,qA,h,iF,c1]
theorem cp_ev3 (h:x.kind=3):fA 205 [.agg (qA x),.bl (TC N v)] (.int .i64 (iF x v)):=by
 refine rA (c:=mA) rfl rfl ?_;by_cases c1:x.max=0
 ·simp [mA,-V,-y4,-y3,y0,qA,h,iF,c1]
 ·simp [mA,-V,-y4,-y3,y0,qA,h,iF,c1]
theorem cp_ev4 (h:x.kind=4):fA 205 [.agg (qA x),.bl (TC N v)] (.int .i64 (iF x v)):=by
 refine rA (c:=mA) rfl rfl ?_;simp [mA,-V,-y4,-y3,y0,qA,h,iF]
theorem cp_ev7 (h:x.kind=7):fA 205 [.agg (qA x),.bl (TC N v)] (.int .i64 (iF x v)):=by
 refine rA (c:=mA) rfl rfl ?_;have jc:=hx.elem (by omega);have gel:=FE v jc;have uf:=jc.1;by_cases c1:x.max=0
 ·simp [mA,-V,-y4,-y3,y0,qA,h,iF,c1]
 ·by_cases c2:v x.elem.toNat=0
  ·simp [mA,-V,-y4,-y3,y0,qA,h,iF,c1,c2,gel,uf]
  ·simp [mA,-V,-y4,-y3,y0,qA,h,iF,c1,c2,gel,uf]
theorem cp_ev8 (h:x.kind=8):fA 205 [.agg (qA x),.bl (TC N v)] (.int .i64 (iF x v)):=by
 refine rA (c:=mA) rfl rfl ?_;have jc:=hx.elem (by omega);have gel:=FE v jc;have uf:=jc.1;have uj:=hx.key h;have gkl:=FE v uj;have wg:=uj.1;by_cases c1:x.max=0
 ·simp [mA,-V,-y4,-y3,y0,qA,h,iF,c1]
 ·by_cases c2:v x.elem.toNat=0
  ·simp [mA,-V,-y4,-y3,y0,qA,h,iF,c1,c2,gel,uf]
  ·by_cases c3:v x.key.toNat=0
   ·simp [mA,-V,-y4,-y3,y0,qA,h,iF,c1,c2,c3,gel,uf,gkl,wg]
   ·simp [mA,-V,-y4,-y3,y0,qA,h,iF,c1,c2,c3,gel,uf,gkl,wg]
theorem cp_ev9 (h:x.kind=9):fA 205 [.agg (qA x),.bl (TC N v)] (.int .i64 (iF x v)):=by
 refine rA (c:=mA) rfl rfl ?_;have jc:=hx.elem (by omega);have gel:=FE v jc;have uf:=jc.1;have ve:=hv x.elem.toNat (by omega);have hw:IntKind.i64.wrap (1 + v x.elem.toNat)=1 + v x.elem.toNat:=IntWalk.i64_in _ (by omega);simp [mA,-V,-y4,-y3,y0,qA,h,iF,gel,uf,hw]
theorem cp_ev5 (h:x.kind=5):fA 205 [.agg (qA x),.bl (TC N v)] (.int .i64 (iF x v)):=by
 refine rA (c:=mA) rfl rfl ?_;simp [mA,-V,-y4,-y3,y0,qA,h,iF];refine gA x.mems.length (fun i s=>(s.env 1).v=.bl (TC N v)/\(s.env 33).v=.sl x.mn (x.mems.map zA)/\(s.env 34).v=.int .i64 x.mems.length/\(s.env 35).v=.int .i64 i/\∃ a,(s.env 5).v=.int .i64 a/\UO v (x.mems.drop i) a=UO v x.mems 1/\0<=a/\a<=2)
  (fun e s=>e=.exit 1/\(s.env 5).v=.int .i64 (UO v x.mems 1)) (fun i hi s k h' ih hk=>?_) _ _ ?_ (fun e s h'=>?_)
 ·obtain ⟨e1,e2,e3,e4,a,ea,hs,hb⟩:=h';refine tA ?_;by_cases fa:i<x.mems.length
  ·have ga:(i:Int)<x.mems.length:=by omega
   have g1:(x.mems.map zA)[i]?=some (zA x.mems[i]):=by simp [fa]
   have hw:=GA (i:=i) (by have:=hx.few; omega);have ml:=hx.mems x.mems[i] (y7 _);rw [y8 fa,UO] at hs;generalize x.mems[i]=m at *
   have pw:=hv m.ty.toNat (by omega);have gm:=FE v ml;have rk:=ml.1;have lj:=Int.mul_nonneg hb.1 pw.1;have hm3:a * v m.ty.toNat<=2 * 2:=JX hb.1 hb.2 pw.1 pw.2;have di:IntKind.i64.wrap (a * v m.ty.toNat)=a * v m.ty.toNat:=IntWalk.i64_in _ (by omega);simp only [zA] at g1;simp [UI,-V,-y4,-y3,y0,e1,e2,e3,e4,ea,ga,g1,gm,rk,hw,di];refine ih fa _ ⟨?_,?_,?_,?_,min 2 (a * v m.ty.toNat),?_,hs,by omega⟩ <;> simp [e1,e2,e3]
  ·have ga:¬ (i:Int)<x.mems.length:=by omega
   simp [UI,-V,-y4,-y3,y0,e1,e2,e3,e4,ga];rw [yc (by omega),UO] at hs;exact hk _ _ ⟨rfl,by simp [ea,hs]⟩
 ·simp [qA,h]
 ·obtain ⟨rfl,ea⟩:=h';simp [-V,-y4,-y3,y0,ea]
theorem cp_ev6 (h:x.kind=6):fA 205 [.agg (qA x),.bl (TC N v)] (.int .i64 (iF x v)):=by
 refine rA (c:=mA) rfl rfl ?_;simp [mA,-V,-y4,-y3,y0,qA,h,iF];refine gA x.mems.length (fun i s=>(s.env 1).v=.bl (TC N v)/\(s.env 52).v=.sl x.mn (x.mems.map zA)/\(s.env 53).v=.int .i64 x.mems.length/\(s.env 54).v=.int .i64 i/\∃ a,(s.env 8).v=.int .i64 a/\bW v (x.mems.drop i) a=bW v x.mems 0/\0<=a/\a<=2 * i)
  (fun e s=>e=.exit 3/\(s.env 8).v=.int .i64 (bW v x.mems 0)) (fun i hi s k h' ih hk=>?_) _ _ ?_ (fun e s h'=>?_)
 ·obtain ⟨e1,e2,e3,e4,a,ea,hs,hb⟩:=h';refine tA ?_;by_cases fa:i<x.mems.length
  ·have ga:(i:Int)<x.mems.length:=by omega
   have g1:(x.mems.map zA)[i]?=some (zA x.mems[i]):=by simp [fa]
   have hw:=GA (i:=i) (by have:=hx.few; omega);have ml:=hx.mems x.mems[i] (y7 _);rw [y8 fa,bW] at hs;generalize x.mems[i]=m at *
   have pw:=hv m.ty.toNat (by omega);have gm:=FE v ml;have rk:=ml.1;have di:IntKind.i64.wrap (a + v m.ty.toNat)=a + v m.ty.toNat:=IntWalk.i64_in _ (by have:=hx.few; omega);simp only [zA] at g1;simp [TI,-V,-y4,-y3,y0,e1,e2,e3,e4,ea,ga,g1,gm,rk,hw,di];refine ih fa _ ⟨?_,?_,?_,?_,a + v m.ty.toNat,?_,hs,by omega⟩ <;> simp [e1,e2,e3]
  ·have ga:¬ (i:Int)<x.mems.length:=by omega
   simp [TI,-V,-y4,-y3,y0,e1,e2,e3,e4,ga];rw [yc (by omega),bW] at hs;exact hk _ _ ⟨rfl,by simp [ea,hs]⟩
 ·simp [qA,h]
 ·obtain ⟨rfl,ea⟩:=h';simp [-V,-y4,-y3,y0,ea]
theorem cp_ev (hk:1<=x.kind/\x.kind<=9):fA 205 [.agg (qA x),.bl (TC N v)] (.int .i64 (iF x v)):=by
 rcases kinds x.kind with e | e | e | e | e | e | e | e | e | e
 ·exact cp_ev1 hv hx e
 ·exact cp_ev2 hv hx e
 ·exact cp_ev3 hv hx e
 ·exact cp_ev4 hv hx e
 ·exact cp_ev5 hv hx e
 ·exact cp_ev6 hv hx e
 ·exact cp_ev7 hv hx e
 ·exact cp_ev8 hv hx e
 ·exact cp_ev9 hv hx e
 ·exact absurd hk e
end
theorem ZL {l:List SB} (h:tB l []=true):l=[]:=by
 cases l with
 | nil=>rfl
 | cons=>simp [tB] at h
theorem good_few {t:sA} (h:gB t=true):t.mems.length<=16:=by
 have hk:=HI h;unfold gB tI sA.left at h;rcases kinds t.kind with e | e | e | e | e | e | e | e | e | e
 all_goals first | exact absurd hk e | skip
 all_goals simp [e,sA.same,LB,PI] at h
 all_goals first
  | (obtain ⟨⟨_,h⟩,_⟩:=h; omega)
  | (have:=ZL h.2; rw [this]; simp)
  | (have:=ZL h.2.2; rw [this]; simp)
  | omega
theorem BD {S:List sA} (h:valid S=0):∀ x∈S,xD S.length x:=fun x hx=>by
 obtain ⟨j,hj,rfl⟩:=yz hx;obtain ⟨h1,h2⟩:=MH (QG h j hj);generalize S[j]=t at *
 have use:∀ u∈t.usesL,0<=u/\u<S.length:=fun u hu=>by
  have:=List.any_eq_false.1 h2 u hu;simp [bB] at this;omega
 refine ⟨fun m hm=>use _ ?_,good_few h1,fun h7=>use _ ?_,fun h8=>N3 h8 h2⟩
 ·unfold sA.usesL;exact yX _ (yX _ (List.mem_map_of_mem hm))
 ·unfold sA.usesL;rw [if_pos h7];exact List.mem_append_right _ (by simp)
theorem ZI {S:List sA} (h:valid S=0):S.length<=32:=by
 unfold valid at h;by_cases im:32<S.length
 ·rw [if_pos im] at h; cases h
 ·omega
theorem vec0 (N:Nat):(yB N [AV.int .i64 0]).flatten.map (fun v=>(⟨v,.no⟩:wA))=xA (TC N fun _=>0):=by
 unfold xA;congr 1;congr 1;apply List.ext_getElem?;intro i;by_cases h:i<N
 ·simp [TC,h]
 ·simp [TC,h]
theorem vec0' (N:Nat):yB N (⟨AV.int .i64 0,.no⟩:wA)=xA (TC N fun _=>0):=by
 rw [<- vec0];simp
theorem SW (N:Nat) (v:HE):DE (xA (TC N v)) 1 0 N=some (TC N v):=by
 have:=cK (DT N v) (vecC_free N v)
 rwa [FT] at this
theorem vec_load (N:Nat) (v:HE) {i:Nat} (hi:i<N):jB false 1 i (xA (TC N v))=some ⟨.int .i64 (v i),.no⟩:=E9 (DT N v) (by have:=FE v (t:=(i:Int)) (N:=N) (by omega); simpa using this) 1
theorem vec_at (N:Nat) (v:HE) {i:Nat} (hi:i<N):(xA (TC N v))[i]?=some ⟨.int .i64 (v i),.no⟩:=W9 (DT N v) (by have:=FE v (t:=(i:Int)) (N:=N) (by omega); simpa using this)
theorem B2 (N:Nat) (v w:HE) {i:Nat} (hi:i<N) {x:Int} (hx:w i=x) (h:∀ j,j≠i->w j=v j):EA false 1 i (xA (TC N v)) (.int .i64 x) .no=some (xA (TC N w)):=by
 rw [K4 (DT N v) (by rw [FT]; exact hi) rfl,vecC_set v w hx h]
theorem lfp {N:Nat} {F:Nat->HE->Int} (G:LZ N F):∃ w,RQ N F w/\∀ j,j<N->F j w=w j:=by
 have:∀ (k:Nat) (v:HE),RQ N F v->2 * (N:Int) - WM N v<=k->∃ w,RQ N F w/\∀ j,j<N->F j w=w j:=by
  intro k
  induction k with
  | zero =>
   intro v hv hk;refine ⟨v,hv,fun j hj=>Classical.byContradiction fun la=>?_⟩;have h1:=PW _ N (RQ.upd G hv hj).rng;rw [rQ F v j N hj] at h1;have:=hv.post j hj;omega
  | succ k ih =>
   intro v hv hk;by_cases h:∀ j,j<N->F j v=v j
   ·exact ⟨v,hv,h⟩
   ·obtain ⟨j,hj⟩:=Classical.not_forall.1 h;obtain ⟨hj,la⟩:=Classical.not_imp.1 hj;refine ih (upd F v j) (RQ.upd G hv hj) ?_;rw [rQ F v j N hj];have:=hv.post j hj;omega
 exact this (2 * N) _ (RQ.zero G) (by have:=C4 (fun _=>0) N (fun j _=>⟨Int.le_refl _,by show (0:Int)<=2; decide⟩); omega)
theorem d4 {N:Nat} {F:Nat->HE->Int} {v w:HE} (hv:RQ N F v) (fv:∀ j,j<N->F j v=v j) (hw:RQ N F w) (fw:∀ j,j<N->F j w=w j):∀ j,j<N->v j=w j:=fun j hj=>by
 have h1:=hv.least w hw.rng (fun j hj=>by rw [fw j hj]; exact Int.le_refl _) j hj;have h2:=hw.least v hv.rng (fun j hj=>by rw [fv j hj]; exact Int.le_refl _) j hj;omega
theorem RM {N:Nat} {v w:HE} (h:∀ j,j<N->v j=w j):TC N v=TC N w:=by
 unfold TC;exact yr fun j hj=>by rw [h j (List.mem_range.1 hj)]
theorem counts_ev (s:DH) (h0:valid s.types=0) {w:HE} (hw:RQ s.types.length (FP s.types) w) (fw:∀ j,j<s.types.length->FP s.types j w=w j):fA 174 [.agg (TA s)] (.sl false (TC s.types.length w)):=by
 have hW:=BD h0;have hN:=ZI h0;have hG:=u5 hW;have mr:∀ x∈s.types,1<=x.kind/\x.kind<=9:=fun x hx=>by
  obtain ⟨j,hj,rfl⟩:=yz hx;exact HI (MH (QG h0 j hj)).1
 clear h0;simp only [TA];generalize s.types=S at *
 generalize s.nl=b at *
 obtain ⟨N,ji⟩:∃ N,N=S.length:=⟨_,rfl⟩;rw [<- ji] at hW hN hG hw fw ⊢;have ja:kB 8 N=true:=by rw [PA]; omega
 have ff:(N:Int)=(S.length:Int):=by omega
 refine rA (c:=dH) rfl rfl ?_;have hb8:N * 8<=140737488355328:=by omega
 have hb1:N<=140737488355328:=by omega
 simp [dH,-V,-y4,-y3,y0,-jB,-EA,cB,WB,ZA,XA,<- ji,hb8,hb1];refine gA (2 * N + 1) (fun r σ=>(σ.env 1).v=.ptr 1 1 0/\σ.mem 1 1=some [⟨.sl b (S.map qA),.no⟩]/\(σ.env 3).v=.ref 11 2 1 0 N N/\∃ v,σ.mem 11 2=some (xA (TC N v))/\RQ N (FP S) v/\((σ.env 4).v=.bool true/\(r:Int)<=WM N v\/(σ.env 4).v=.bool false/\∀ j,j<N->FP S j v=v j))
  (fun e σ=>e=.exit 0/\(σ.env 3).v=.ref 11 2 1 0 N N/\∃ v,σ.mem 11 2=some (xA (TC N v))/\RQ N (FP S) v/\∀ j,j<N->FP S j v=v j) (fun r hr σ k h ih hk=>?_) _ _ ?_ (fun e σ h=>?_)
 ·obtain ⟨e1,m1,e3,v0,m3,hv0,pb⟩:=h;refine tA ?_;rcases pb with ⟨e4,hsum⟩ | ⟨e4,hfix⟩
  case inr =>
   simp [RH,-V,-y4,-y3,y0,-jB,-EA,cB,WB,ZA,XA,e4];exact hk _ _ ⟨rfl,by simp [e3],v0,by simp [m3],hv0,hfix⟩
  have hrN:r<2 * N + 1:=by
   have:=PW v0 N hv0.rng;omega
  simp [RH,-V,-y4,-y3,y0,-jB,-EA,cB,WB,ZA,XA,e1,m1,e4,<- ji];refine gA N (fun i σ=>(σ.env 1).v=.ptr 1 1 0/\σ.mem 1 1=some [⟨.sl b (S.map qA),.no⟩]/\(σ.env 3).v=.ref 11 2 1 0 N N/\(σ.env 14).v=.sl b (S.map qA)/\(σ.env 15).v=.int .i64 N/\(σ.env 16).v=.int .i64 i/\∃ v,σ.mem 11 2=some (xA (TC N v))/\RQ N (FP S) v/\((σ.env 4).v=.bool false/\v=v0/\(∀ j,j<i->FP S j v=v j)\/(σ.env 4).v=.bool true/\WM N v0 + 1<=WM N v))
   (fun e σ=>e=.exit 2/\(σ.env 1).v=.ptr 1 1 0/\σ.mem 1 1=some [⟨.sl b (S.map qA),.no⟩]/\(σ.env 3).v=.ref 11 2 1 0 N N/\∃ v,σ.mem 11 2=some (xA (TC N v))/\RQ N (FP S) v/\((σ.env 4).v=.bool false/\(∀ j,j<N->FP S j v=v j)\/(σ.env 4).v=.bool true/\WM N v0 + 1<=WM N v)) (fun i hi σ k' h tw uc=>?_) _ _ ?_ (fun e σ h=>?_)
  ·obtain ⟨f1,n1,f3,f14,fj,f16,v,n3,hv,pb⟩:=h;refine tA ?_;by_cases fa:i<N
   ·have ga:(i:Int)<N:=by omega
    have jj:i<S.length:=by omega
    have g1:(S.map qA)[i]?=some (qA S[i]):=by simp [jj]
    have sc:=GA (i:=i);have hc:=cp_ev hv.rng (hW _ (y7 jj)) (mr _ (y7 jj));have hF:FP S i v=min 2 (iF S[i] v):=by unfold FP; rw [y5 jj]
    generalize S[i]=x at *
    simp only [qA] at g1;simp only [fA,qA] at hc;have jc:=SW N v;have nr:=vec_load N v fa;have tc:=vec_at N v fa;have kt:=hv.post i fa;have hup:=RQ.upd hG hv fa;have ox:=rQ (FP S) v i N fa;have wt:=B2 N v (upd (FP S) v i) fa (x:=FP S i v) (by simp [upd]) (fun j hj=>by simp [upd,hj]);rw [hF] at kt ox wt;by_cases la:min 2 (iF x v)=v i
    ·rcases pb with ⟨f4,rfl,hj⟩ | ⟨f4,ro⟩
     ·simp [lE,-V,-y4,-y3,y0,-jB,-EA,cB,WB,ZA,XA,f1,n1,f3,f14,fj,f16,n3,ga,g1,jc,hc,nr,tc,sc,fa,la];refine tw fa _ ⟨?_,?_,?_,?_,?_,?_,v,?_,hv,.inl ⟨?_,rfl,fun j hj'=>?_⟩⟩
      case refine_9=>
       rcases Nat.lt_succ_iff_lt_or_eq.1 hj' with h | rfl
       ·exact hj j h
       ·exact hF.trans la
      all_goals simp [f1,n1,f3,f14,fj,n3,f4]
     ·simp [lE,-V,-y4,-y3,y0,-jB,-EA,cB,WB,ZA,XA,f1,n1,f3,f14,fj,f16,n3,ga,g1,jc,hc,nr,tc,sc,fa,la];refine tw fa _ ⟨?_,?_,?_,?_,?_,?_,v,?_,hv,.inr ⟨?_,ro⟩⟩
      all_goals simp [f1,n1,f3,f14,fj,n3,f4]
    ·simp [lE,-V,-y4,-y3,y0,-jB,-EA,cB,WB,ZA,XA,f1,n1,f3,f14,fj,f16,n3,ga,g1,jc,hc,nr,tc,sc,fa,la,wt];refine tw fa _ ⟨?_,?_,?_,?_,?_,?_,upd (FP S) v i,?_,hup,.inr ⟨?_,?_⟩⟩
     case refine_9 =>
      rcases pb with ⟨f4,rfl,hj⟩ | ⟨f4,ro⟩ <;> omega
     all_goals simp [f1,n1,f3,f14,fj,n3]
   ·have ga:¬ (i:Int)<N:=by omega
    have wh:i=N:=by omega
    simp [lE,-V,-y4,-y3,y0,-jB,-EA,cB,WB,ZA,XA,fj,f16,ga];refine uc _ _ ⟨rfl,by simp [f1],by simp [n1],by simp [f3],v,by simp [n3],hv,?_⟩;rcases pb with ⟨f4,rfl,hj⟩ | ⟨f4,ro⟩
    ·exact .inl ⟨by simp [f4],wh ▸ hj⟩
    ·exact .inr ⟨by simp [f4],ro⟩
  ·refine ⟨?_,?_,?_,?_,?_,?_,v0,?_,hv0,.inl ⟨?_,rfl,fun j hj=>absurd hj (by omega)⟩⟩
   all_goals simp [e1,m1,e3,m3]
  ·obtain ⟨rfl,e1,m1,e3,v,m3,hv,pb⟩:=h;simp [-V,-y4,-y3,y0,-jB,-EA,cB,WB,ZA,XA];refine ih hrN _ ⟨by simp [e1],by simp [m1],by simp [e3],v,by simp [m3],hv,?_⟩;rcases pb with ⟨e4,hf⟩ | ⟨e4,hs⟩
   ·exact .inr ⟨by simp [e4],hf⟩
   ·exact .inl ⟨by simp [e4],by omega⟩
 ·refine ⟨?_,?_,?_,fun _=>0,?_,RQ.zero hG,.inl ⟨?_,?_⟩⟩
  case refine_4=>simp [vec0']
  case refine_6=>exact C4 _ N (fun j _=>⟨Int.le_refl _,by show (0:Int)<=2; decide⟩)
  all_goals simp
 ·obtain ⟨rfl,e3,v,m3,hv,hf⟩:=h;have jc:=SW N v;rw [RM (d4 hv hf hw fw)] at jc;rw [RM (d4 hv hf hw fw)] at m3;simp [-V,-y4,-y3,y0,-jB,-EA,cB,WB,ZA,XA,e3,m3,jc]
theorem rcounts_ev (s:DH) (h0:valid s.types=0) {w:HE} (hw:RQ s.types.length (FR s.types) w) (fw:∀ j,j<s.types.length->FR s.types j w=w j):fA 176 [.agg (TA s)] (.sl false (TC s.types.length w)):=by
 have hW:=BD h0;have hN:=ZI h0;have hG:=i5 hW;have mr:∀ x∈s.types,1<=x.kind/\x.kind<=9:=fun x hx=>by
  obtain ⟨j,hj,rfl⟩:=yz hx;exact HI (MH (QG h0 j hj)).1
 clear h0;simp only [TA];generalize s.types=S at *
 generalize s.nl=b at *
 obtain ⟨N,ji⟩:∃ N,N=S.length:=⟨_,rfl⟩;rw [<- ji] at hW hN hG hw fw ⊢;have hb8:N * 8<=140737488355328:=by omega
 have hb1:N<=140737488355328:=by omega
 have di:IntKind.i64.wrap (2 * (N:Int))=2 * N:=IntWalk.i64_in _ (by omega);refine rA (c:=pJ) rfl rfl ?_;simp [pJ,-V,-y4,-y3,y0,-jB,-EA,cB,WB,ZA,XA,<- ji,hb8,hb1];refine gA (2 * N + 1) (fun r σ=>(σ.env 1).v=.ptr 1 1 0/\σ.mem 1 1=some [⟨.sl b (S.map qA),.no⟩]/\(σ.env 3).v=.ref 9 2 1 0 N N/\(σ.env 4).v=.int .i64 r/\∃ v,σ.mem 9 2=some (xA (TC N v))/\RQ N (FR S) v/\((r:Int)<=WM N v\/∀ j,j<N->FR S j v=v j))
  (fun e σ=>e=.exit 0/\(σ.env 3).v=.ref 9 2 1 0 N N/\∃ v,σ.mem 9 2=some (xA (TC N v))/\RQ N (FR S) v/\∀ j,j<N->FR S j v=v j) (fun r hr σ k h ih hk=>?_) _ _ ?_ (fun e σ h=>?_)
 ·obtain ⟨e1,m1,e3,e4,v0,m3,hv0,pb⟩:=h;refine tA ?_;by_cases hrN:r<2 * N + 1
  case neg =>
   have ga:¬ (r:Int)<=2 * N:=by omega
   simp [sJ,-V,-y4,-y3,y0,-jB,-EA,cB,WB,ZA,XA,e1,m1,e4,<- ji,di,ga];refine hk _ _ ⟨rfl,by simp [e3],v0,by simp [m3],hv0,?_⟩;rcases pb with h | h
   ·have:=PW v0 N hv0.rng;omega
   ·exact h
  have ga:(r:Int)<=2 * N:=by omega
  have uu:=GA (i:=r);simp [sJ,-V,-y4,-y3,y0,-jB,-EA,cB,WB,ZA,XA,e1,m1,e4,<- ji,di,ga];refine gA N (fun i σ=>(σ.env 1).v=.ptr 1 1 0/\σ.mem 1 1=some [⟨.sl b (S.map qA),.no⟩]/\(σ.env 3).v=.ref 9 2 1 0 N N/\(σ.env 4).v=.int .i64 r/\(σ.env 5).v=.int .i64 i/\∃ v,σ.mem 9 2=some (xA (TC N v))/\RQ N (FR S) v/\((∀ j,j<N->FR S j v0=v0 j)->v=v0)/\(v=v0/\(∀ j,j<i->FR S j v=v j)\/WM N v0 + 1<=WM N v))
   (fun e σ=>e=.exit 2/\(σ.env 1).v=.ptr 1 1 0/\σ.mem 1 1=some [⟨.sl b (S.map qA),.no⟩]/\(σ.env 3).v=.ref 9 2 1 0 N N/\(σ.env 4).v=.int .i64 r/\∃ v,σ.mem 9 2=some (xA (TC N v))/\RQ N (FR S) v/\((∀ j,j<N->FR S j v=v j)\/(r:Int) + 1<=WM N v)) (fun i hi σ k' h tw uc=>?_) _ _ ?_ (fun e σ h=>?_)
  ·obtain ⟨f1,n1,f3,f4,f5,v,n3,hv,dx,ut⟩:=h;refine tA ?_;by_cases fa:i<N
   ·have ga:(i:Int)<N:=by omega
    have jj:i<S.length:=by omega
    have g1:(S.map qA)[i]?=some (qA S[i]):=by simp [jj]
    have sc:=GA (i:=i);have hc:=cr_ev hv.rng (hW _ (y7 jj)) (mr _ (y7 jj));have hF:FR S i v=WG S[i] v:=by unfold FR; rw [y5 jj]
    generalize S[i]=x at *
    simp only [qA] at g1;simp only [fA,qA] at hc;have jc:=SW N v;have kt:=hv.post i fa;have hup:=RQ.upd hG hv fa;have ox:=rQ (FR S) v i N fa;have wt:=B2 N v (upd (FR S) v i) fa (x:=FR S i v) (by simp [upd]) (fun j hj=>by simp [upd,hj]);have wi:FR S i v=v i->upd (FR S) v i=v:=upd_same;rw [hF] at kt ox wt;have hltS':(i:Int)<S.length:=by omega
    simp [aJ,-V,-y4,-y3,y0,-jB,-EA,cB,WB,ZA,XA,f1,n1,f3,f4,f5,n3,hltS',g1,jc,hc,sc,fa,wt];refine tw fa _ ⟨?_,?_,?_,?_,?_,upd (FR S) v i,?_,hup,?_,?_⟩
    case refine_7 =>
     intro ra;have e:=dx ra;subst e;exact wi (ra i fa)
    case refine_8 =>
     by_cases la:FR S i v=v i
     ·rw [wi la];rcases ut with ⟨rfl,hj⟩ | hs
      ·refine .inl ⟨rfl,fun j hj'=>?_⟩;rcases Nat.lt_succ_iff_lt_or_eq.1 hj' with h | rfl
       ·exact hj j h
       ·exact la
      ·exact .inr hs
     ·right;rw [hF] at la;rcases ut with ⟨rfl,hj⟩ | hs <;> omega
    all_goals simp [f1,n1,f3,f4]
   ·have ga:¬ (i:Int)<N:=by omega
    have wh:i=N:=by omega
    simp [aJ,-V,-y4,-y3,y0,-jB,-EA,cB,WB,ZA,XA,f1,n1,f5,<- ji,ga];refine uc _ _ ⟨rfl,by simp [f1],by simp [n1],by simp [f3],by simp [f4],v,by simp [n3],hv,?_⟩;rcases pb with hr | ra
    ·rcases ut with ⟨rfl,hj⟩ | hs
     ·exact .inl (wh ▸ hj)
     ·exact .inr (by omega)
    ·rw [dx ra]; exact .inl ra
  ·refine ⟨?_,?_,?_,?_,?_,v0,?_,hv0,fun _=>rfl,.inl ⟨rfl,fun j hj=>absurd hj (by omega)⟩⟩
   all_goals simp [e1,m1,e3,e4,m3]
  ·obtain ⟨rfl,f1,n1,f3,f4,v,n3,hv,ut⟩:=h;simp [-V,-y4,-y3,y0,-jB,-EA,cB,WB,ZA,XA,f4,uu];refine ih hrN _ ⟨by simp [f1],by simp [n1],by simp [f3],by simp,v,by simp [n3],hv,?_⟩;rcases ut with h | h
   ·exact .inr h
   ·exact .inl (by omega)
 ·refine ⟨?_,?_,?_,?_,fun _=>0,?_,RQ.zero hG,.inl ?_⟩
  case refine_5=>simp [vec0']
  case refine_6=>exact C4 _ N (fun j _=>⟨Int.le_refl _,by show (0:Int)<=2; decide⟩)
  all_goals simp
 ·obtain ⟨rfl,e3,v,m3,hv,hf⟩:=h;have jc:=SW N v;rw [RM (d4 hv hf hw fw)] at jc;rw [RM (d4 hv hf hw fw)] at m3;simp [-V,-y4,-y3,y0,-jB,-EA,cB,WB,ZA,XA,e3,m3,jc]
theorem p0 (s:DH) (h0:valid s.types=0):∃ w:HE,RQ s.types.length (FP s.types) w/\(∀ j,j<s.types.length->FP s.types j w=w j)/\fA 174 [.agg (TA s)] (.sl false (TC s.types.length w))/\fA 176 [.agg (TA s)] (.sl false (TC s.types.length w)):=by
 have hW:=BD h0;obtain ⟨v,hv,fv⟩:=lfp (u5 hW);obtain ⟨w,hw,fw⟩:=lfp (i5 hW);have h1:=counts_ev s h0 hv fv;have h2:=rcounts_ev s h0 hw fw;refine ⟨v,hv,fv,h1,?_⟩;rw [RM (FPR hW ?_ hv fv hw fw)]
 ·exact h2
 ·intro x hx h8 u hu;obtain ⟨j,hj,rfl⟩:=yz hx;have he:=QG h0 j hj;obtain ⟨hg,ho⟩:=MH he;obtain ⟨k0,k1⟩:=N3 h8 ho;have fa:s.types[j].key.toNat<s.types.length:=by omega
  have rb:1<=s.types[s.types[j].key.toNat].kind/\s.types[s.types[j].key.toNat].kind<=4:=by
   have hka:II s.types s.types[j].key=s.types[s.types[j].key.toNat].kind:=by unfold II; rw [y5 fa]
   rw [<- hka];refine Classical.byContradiction fun hn=>?_
   unfold kC at he;rw [if_neg (by simp [hg])] at he;by_cases h2:s.types[j].named=true/\s.types[j].name∈(s.types.take j).map sA.name
   ·rw [if_pos h2] at he; cases he
   ·rw [if_neg h2,if_neg (by simp [ho]),if_pos ⟨h8,hn⟩] at he;cases he
  have hgk:=(MH (QG h0 _ fa)).1;unfold FP;rw [y5 fa];generalize s.types[s.types[j].key.toNat]=y at *
  have hy:y.kind=1\/y.kind=2\/y.kind=3\/y.kind=4:=by omega
  simp only;rcases hy with e | e | e | e
  ·simp [iF,e]
  ·simp [iF,e]; split <;> decide
  ·simp [iF,e]; split <;> decide
  ·have:0<y.syms.length:=by
    unfold gB tI jN at hgk;simp [e] at hgk;exact hgk.1.2.1
   simp [iF,e];omega
theorem F7 (s:DH) (h0:valid s.types=0):∃ w:HE,eM s.types.length w/\fA 174 [.agg (TA s)] (.sl false (TC s.types.length w))/\fA 176 [.agg (TA s)] (.sl false (TC s.types.length w)):=by
 obtain ⟨w,hw,_,h⟩:=p0 s h0;exact ⟨w,hw.rng,h⟩
def NP (w:HE) (n:Nat):List (List AV):=(List.range n).map fun j=>[AV.bool (decide (0<w j))]
theorem bQ (w:HE) (n:Nat):NP w (n + 1)=NP w n++[[AV.bool (decide (0<w n))]]:=by simp [NP,y0]
theorem o9 (w:HE) (n:Nat):lB 1 (NP w n)=true:=lC _ _ _ fun _=>rfl
theorem WT (w:HE) (n:Nat):(NP w n).length=n:=by simp [NP]
theorem a9 (w:HE) {n i:Nat} (h:i<n):(NP w n)[i]?=some [.bool (decide (0<w i))]:=by simp [NP,h]
noncomputable def finA (S:List sA) (w:HE):AV:=if eE S=0 then .tup [.sl (decide (S.length=0)) (NP w S.length),.int .i64 0] else .tup [.sl true [],.int .i64 (eE S)]
theorem dK {S:List sA} (h:eE S=0):valid S=0:=by
 unfold eE at h;by_cases h0:valid S=0
 ·exact h0
 ·rw [if_neg h0] at h; exact absurd h h0
theorem finite_ev (s:DH) (hs:s.fine) (ad:s.d64) {w:HE} (hw:eE s.types=0->eM s.types.length w/\fA 174 [.agg (TA s)] (.sl false (TC s.types.length w))):fA 144 [.agg (TA s)] (finA s.types w):=by
 have hr:=right_ev s hs ad;refine rA (c:=IF) rfl rfl ?_;unfold finA;simp only [fA,TA] at hr hw;by_cases h0:eE s.types=0
 case neg =>
  rw [if_neg h0];simp [IF,-V,-y4,-y3,y0,TA,hr,h0]
 have hN:=ZI (dK h0);obtain ⟨hrng,hc⟩:=hw h0;rw [if_pos h0];rw [h0] at hr;simp only [TA];generalize s.types=S at *
 generalize s.nl=b at *
 obtain ⟨N,ji⟩:∃ N,N=S.length:=⟨_,rfl⟩;rw [<- ji] at hN hrng hc ⊢;have eu:=FT N w;simp [IF,-V,-y4,-y3,y0,TA,hr,hc,eu];refine gA N (fun i σ=>(σ.env 14).v=.sl false (TC N w)/\(σ.env 15).v=.int .i64 N/\(σ.env 16).v=.int .i64 i/\(σ.env 5).v=.sl (decide (i=0)) (NP w i)/\(i=0/\(σ.env 5).a=.ex\/¬ i=0/\(σ.env 5).a=.own 24 4))
  (fun e σ=>e=.exit 0/\(σ.env 5).v=.sl (decide (N=0)) (NP w N)) (fun i hi σ k h ih hk=>?_) _ _ ?_ (fun e σ h=>?_)
 ·obtain ⟨pq,be,mc,e5,an⟩:=h;refine tA ?_;by_cases fa:i<N
  ·have ga:(i:Int)<N:=by omega
   have g1:(TC N w)[i]?=some [.int .i64 (w i)]:=by have:=FE w (t:=(i:Int)) (N:=N) (by omega); simpa using this
   have mg:=GA (i:=i);have q:=o9 w i;have ql:=WT w i;have ja:kB 1 (i + 1)=true:=by rw [PA]; omega
   rcases an with ⟨a0,a5⟩ | ⟨a0,a5⟩
   ·simp [mF,-V,-y4,-y3,y0,pq,be,mc,e5,a5,ga,g1,q,ql,mg,ja];refine ih fa _ ⟨?_,?_,?_,?_,?_⟩ <;> simp [pq,be,bQ,An.strip]
   ·simp [mF,-V,-y4,-y3,y0,pq,be,mc,e5,a0,a5,ga,g1,q,ql,mg,ja];refine ih fa _ ⟨?_,?_,?_,?_,?_⟩ <;> simp [pq,be,bQ,An.strip]
  ·have ga:¬ (i:Int)<N:=by omega
   have wh:i=N:=by omega
   simp [mF,-V,-y4,-y3,y0,be,mc,ga];exact hk _ _ ⟨rfl,by rw [<- wh]; simp [e5]⟩
 ·simp [NP]
 ·obtain ⟨rfl,e5⟩:=h;simp [-V,-y4,-y3,y0,e5]
theorem rfinite_ev (s:DH) (hs:s.fine) (ad:s.d64) {w:HE} (hw:eE s.types=0->eM s.types.length w/\fA 176 [.agg (TA s)] (.sl false (TC s.types.length w))):fA 145 [.agg (TA s)] (finA s.types w):=by
 have hr:=rerror_ev s hs ad;refine rA (c:=XG) rfl rfl ?_;unfold finA;simp only [fA,TA] at hr hw;by_cases h0:eE s.types=0
 case neg =>
  rw [if_neg h0];simp [XG,-V,-y4,-y3,y0,TA,hr,h0]
 have hN:=ZI (dK h0);obtain ⟨hrng,hc⟩:=hw h0;rw [if_pos h0];rw [h0] at hr;simp only [TA];generalize s.types=S at *
 generalize s.nl=b at *
 obtain ⟨N,ji⟩:∃ N,N=S.length:=⟨_,rfl⟩;rw [<- ji] at hN hrng hc ⊢;have eu:=FT N w;simp [XG,-V,-y4,-y3,y0,TA,hr,hc];refine gA N (fun i σ=>(σ.env 5).v=.sl false (TC N w)/\(σ.env 7).v=.int .i64 i/\(σ.env 6).v=.sl (decide (i=0)) (NP w i)/\(i=0/\(σ.env 6).a=.ex\/¬ i=0/\(σ.env 6).a=.own 28 4))
  (fun e σ=>e=.exit 0/\(σ.env 6).v=.sl (decide (N=0)) (NP w N)) (fun i hi σ k h ih hk=>?_) _ _ ?_ (fun e σ h=>?_)
 ·obtain ⟨e5,e7,e6,an⟩:=h;refine tA ?_;by_cases fa:i<N
  ·have ga:(i:Int)<N:=by omega
   have g1:(TC N w)[i]?=some [.int .i64 (w i)]:=by have:=FE w (t:=(i:Int)) (N:=N) (by omega); simpa using this
   have mg:=GA (i:=i);have q:=o9 w i;have ql:=WT w i;have ja:kB 1 (i + 1)=true:=by rw [PA]; omega
   rcases an with ⟨a0,a5⟩ | ⟨a0,a5⟩
   ·simp [PG,-V,-y4,-y3,y0,e5,e7,e6,a5,ga,eu,g1,q,ql,mg,ja];refine ih fa _ ⟨?_,?_,?_,?_⟩ <;> simp [e5,bQ,An.strip]
   ·simp [PG,-V,-y4,-y3,y0,e5,e7,e6,a0,a5,ga,eu,g1,q,ql,mg,ja];refine ih fa _ ⟨?_,?_,?_,?_⟩ <;> simp [e5,bQ,An.strip]
  ·have ga:¬ (i:Int)<N:=by omega
   have wh:i=N:=by omega
   simp [PG,-V,-y4,-y3,y0,e5,e7,eu,ga];exact hk _ _ ⟨rfl,by rw [<- wh]; simp [e6]⟩
 ·simp [NP]
 ·obtain ⟨rfl,e5⟩:=h;simp [-V,-y4,-y3,y0,e5]
def QH (w:HE):Nat->Bool
 | 0=>true
 | n + 1=>QH w n&&decide (0<w n)
theorem JW {w:HE}:∀ {n:Nat} (i:Nat),i<n->¬ 0<w i->QH w n=false
 | 0,i,h,_=>by omega
 | n + 1,i,h,hn=>by
  unfold QH;by_cases e:i=n
  ·subst e; simp [hn]
  ·rw [JW i (by omega) hn]; rfl
noncomputable def aS (S:List sA) (w:HE):Int:=if eE S=0 then (if QH w S.length=true then 0 else 10) else eE S
theorem MY (s:DH) (hs:s.fine) (ad:s.d64) {w:HE} (hw:eE s.types=0->eM s.types.length w/\fA 174 [.agg (TA s)] (.sl false (TC s.types.length w))):fA 95 [.agg (TA s)] (.int .i64 (aS s.types w)):=by
 have hf:=finite_ev s hs ad hw;refine rA (c:=iG) rfl rfl ?_;unfold finA at hf;unfold aS;simp only [fA,TA] at hf;by_cases h0:eE s.types=0
 case neg =>
  rw [if_neg h0] at hf ⊢;simp [iG,-V,-y4,-y3,y0,TA,hf,h0]
 have hN:=ZI (dK h0);clear hw;rw [if_pos h0] at hf ⊢;simp only [TA];generalize s.types=S at *
 generalize s.nl=b at *
 obtain ⟨N,ji⟩:∃ N,N=S.length:=⟨_,rfl⟩;rw [<- ji] at hN hf ⊢;have eu:=WT w N;simp [iG,-V,-y4,-y3,y0,TA,hf,eu];refine gA N (fun i σ=>(σ.env 15).v=.sl (decide (N=0)) (NP w N)/\(σ.env 16).v=.int .i64 N/\(σ.env 17).v=.int .i64 i/\QH w i=true)
  (fun e σ=>(e=.exit 0/\QH w N=true)\/(e=.ret/\QH w N=false/\(σ.env 2).v=.int .i64 10)) (fun i hi σ k h ih hk=>?_) _ _ ?_ (fun e σ h=>?_)
 ·obtain ⟨be,mc,je,hp⟩:=h;refine tA ?_;by_cases fa:i<N
  ·have ga:(i:Int)<N:=by omega
   have g1:=a9 w fa;have mg:=GA (i:=i);by_cases db:0<w i
   ·rw [decide_eq_true db] at g1;simp [CF,-V,-y4,-y3,y0,be,mc,je,ga,g1,mg];refine ih fa _ ⟨?_,?_,?_,by rw [QH,hp,decide_eq_true db]; rfl⟩ <;> simp [be,mc]
   ·rw [decide_eq_false db] at g1;simp [CF,-V,-y4,-y3,y0,be,mc,je,ga,g1];exact hk _ _ (.inr ⟨rfl,JW i fa db,by simp⟩)
  ·have ga:¬ (i:Int)<N:=by omega
   have wh:i=N:=by omega
   simp [CF,-V,-y4,-y3,y0,mc,je,ga];exact hk _ _ (.inl ⟨rfl,wh ▸ hp⟩)
 ·simp [QH]
 ·rcases h with ⟨rfl,h1⟩ | ⟨rfl,h1,h2⟩
  ·simp [-V,-y4,-y3,y0,h1]
  ·simp [-V,-y4,-y3,y0,h1,h2]
theorem MU (s:DH) (hs:s.fine) (ad:s.d64) {w:HE} (hw:eE s.types=0->eM s.types.length w/\fA 176 [.agg (TA s)] (.sl false (TC s.types.length w))):fA 97 [.agg (TA s)] (.int .i64 (aS s.types w)):=by
 have hf:=rfinite_ev s hs ad hw;refine rA (c:=ZH) rfl rfl ?_;unfold finA at hf;unfold aS;simp only [fA,TA] at hf;by_cases h0:eE s.types=0
 case neg =>
  rw [if_neg h0] at hf ⊢;simp [ZH,-V,-y4,-y3,y0,TA,hf,h0]
 have hN:=ZI (dK h0);clear hw;rw [if_pos h0] at hf ⊢;simp only [TA];generalize s.types=S at *
 generalize s.nl=b at *
 obtain ⟨N,ji⟩:∃ N,N=S.length:=⟨_,rfl⟩;rw [<- ji] at hN hf ⊢;have eu:=WT w N;simp [ZH,-V,-y4,-y3,y0,TA,hf];refine gA N (fun i σ=>(σ.env 3).v=.sl (decide (N=0)) (NP w N)/\(σ.env 5).v=.int .i64 i/\QH w i=true)
  (fun e σ=>(e=.exit 0/\QH w N=true)\/(e=.ret/\QH w N=false/\(σ.env 2).v=.int .i64 10)) (fun i hi σ k h ih hk=>?_) _ _ ?_ (fun e σ h=>?_)
 ·obtain ⟨e3,e5,hp⟩:=h;refine tA ?_;by_cases fa:i<N
  ·have ga:(i:Int)<N:=by omega
   have g1:=a9 w fa;have mg:=GA (i:=i);by_cases db:0<w i
   ·rw [decide_eq_true db] at g1;simp [lH,-V,-y4,-y3,y0,e3,e5,ga,eu,g1,mg];refine ih fa _ ⟨?_,?_,by rw [QH,hp,decide_eq_true db]; rfl⟩ <;> simp [e3]
   ·rw [decide_eq_false db] at g1;simp [lH,-V,-y4,-y3,y0,e3,e5,ga,eu,g1];exact hk _ _ (.inr ⟨rfl,JW i fa db,by simp⟩)
  ·have ga:¬ (i:Int)<N:=by omega
   have wh:i=N:=by omega
   simp [lH,-V,-y4,-y3,y0,e3,e5,eu,ga];exact hk _ _ (.inl ⟨rfl,wh ▸ hp⟩)
 ·simp [QH]
 ·rcases h with ⟨rfl,h1⟩ | ⟨rfl,h1,h2⟩
  ·simp [-V,-y4,-y3,y0,h1]
  ·simp [-V,-y4,-y3,y0,h1,h2]
theorem both_sound (s:DH) (hs:s.fine) (ad:s.d64):∃ e:Int,fA 95 [.agg (TA s)] (.int .i64 e)/\fA 97 [.agg (TA s)] (.int .i64 e):=by
 by_cases h0:eE s.types=0
 ·obtain ⟨w,hr,h1,h2⟩:=F7 s (dK h0);exact ⟨_,MY s hs ad (fun _=>⟨hr,h1⟩),MU s hs ad (fun _=>⟨hr,h2⟩)⟩
 ·exact ⟨aS s.types (fun _=>0),MY s hs ad (fun h=>absurd h h0),MU s hs ad (fun h=>absurd h h0)⟩
end Go.Proofs.YtbnlmgncbgaepaaGreat
