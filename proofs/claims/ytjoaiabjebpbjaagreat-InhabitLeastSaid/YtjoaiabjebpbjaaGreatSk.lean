/- A part of the proof. -/
import Derived.Test.YtjoaiabjebpbjaaGreatSj
set_option linter.all false
set_option maxRecDepth 100000
set_option maxHeartbeats 8000000
open Option renaming bind_some → V
open List renaming range_succ → J, map_map → y0, getElem?_eq_getElem → y4, getElem_mem → y5, drop_eq_getElem_cons → y9, drop_eq_nil_of_le → ye, mem_cons_of_mem → yh, replicate → yj, mem_cons_self → yk, getElem_of_mem → yy, map_congr_left → yz
open Int renaming toNat_lt → y3
namespace Go.Proofs.YtjoaiabjebpbjaaGreat
open Go
section
abbrev kE:=Nat->Int
def CM (N:Nat) (v:kE):Prop:=∀ j,j<N->0<=v j/\v j<=2
structure G1 (N:Nat) (F:Nat->kE->Int):Prop where
 mono:∀ u v,CM N u->CM N v->(∀ j,j<N->u j<=v j)->∀ i,i<N->F i u<=F i v
 rng:∀ u,CM N u->∀ i,i<N->0<=F i u/\F i u<=2
def upd (F:Nat->kE->Int) (v:kE) (i:Nat):kE:=fun j=>if j=i then F i v else v j
structure aR (N:Nat) (F:Nat->kE->Int) (v:kE):Prop where
 rng:CM N v
 post:∀ j,j<N->v j<=F j v
 least:∀ m,CM N m->(∀ j,j<N->F j m<=m j)->∀ j,j<N->v j<=m j
def ZH:Nat->kE->Int
 | 0,_=>0
 | n + 1,v=>ZH n v + v n
theorem iX (v:kE):∀ N,CM N v->ZH N v<=2 * N
 | 0,_=>by simp [ZH]
 | n + 1,h=>by
  have:=iX v n fun j hj=>h j (by omega)
  have:=h n (by omega);simp only [ZH];omega
theorem r6 (v:kE):∀ N,CM N v->0<=ZH N v
 | 0,_=>by simp [ZH]
 | n + 1,h=>by
  have:=r6 v n fun j hj=>h j (by omega)
  have:=h n (by omega);simp only [ZH];omega
theorem d4 (v w:kE):∀ N,(∀ j,j<N->v j=w j)->ZH N v=ZH N w
 | 0,_=>rfl
 | n + 1,h=>by simp only [ZH,d4 v w n fun j hj=>h j (by omega),h n (by omega)]
theorem zO (F:Nat->kE->Int) (v:kE) (i:Nat):∀ N,i<N->ZH N (upd F v i)=ZH N v + (F i v - v i)
 | 0,h=>by omega
 | n + 1,h=>by
  simp only [ZH];by_cases e:i=n
  ·subst e;rw [d4 (upd F v i) v i fun j hj=>by simp [upd,show ¬ j=i from by omega]];simp only [upd,if_true];omega
  ·rw [zO F v i n (by omega)];have:upd F v i n=v n:=by simp [upd,show ¬ n=i from fun e'=>e e'.symm]
   omega
section
variable {N:Nat} {F:Nat->kE->Int}
theorem aR.zero (G:G1 N F):aR N F (fun _=>0):=by
 refine ⟨fun j hj=>by omega,fun j hj=>(G.rng _ (fun j hj=>by omega) j hj).1,fun m hm _ j hj=>(hm j hj).1⟩
theorem upd_ge {v:kE} (h:aR N F v) {i:Nat} (hi:i<N) (j:Nat):v j<=upd F v i j:=by
 unfold upd;split
 ·rename_i e; subst e; exact h.post _ hi
 ·exact Int.le_refl _
theorem upd_rng (G:G1 N F) {v:kE} (h:aR N F v) {i:Nat} (hi:i<N):CM N (upd F v i):=fun j hj=>by
 unfold upd;split
 ·exact G.rng v h.rng i hi
 ·exact h.rng j hj
theorem aR.upd (G:G1 N F) {v:kE} (h:aR N F v) {i:Nat} (hi:i<N):aR N F (upd F v i):=by
 have hr:=upd_rng G h hi;refine ⟨hr,fun j hj=>?_,fun m hm hp j hj=>?_⟩
 ·have hm:=G.mono v (Go.Proofs.YtjoaiabjebpbjaaGreat.upd F v i) h.rng hr (fun j _=>upd_ge h hi j) j hj;unfold Go.Proofs.YtjoaiabjebpbjaaGreat.upd at hm ⊢;by_cases e:j=i
  ·subst e; simp only [if_true]; exact hm
  ·simp only [if_neg e]; have:=h.post j hj; omega
 ·unfold Go.Proofs.YtjoaiabjebpbjaaGreat.upd;split
  ·rename_i e; subst e;have:=G.mono v m h.rng hm (h.least m hm hp) j hj;have:=hp j hj;omega
  ·exact h.least m hm hp j hj
theorem upd_same {v:kE} {i:Nat} (h:F i v=v i):upd F v i=v:=by
 funext j;unfold upd;split
 ·rename_i e; subst e; exact h
 ·rfl
end
end
def QB (N:Nat) (v:kE):List (List AV):=(List.range N).map fun i=>[AV.int .i64 (v i)]
theorem qU (N:Nat) (v:kE):(QB N v).length=N:=by simp [QB]
theorem MT (N:Nat) (v:kE):kB 1 (QB N v)=true:=rD _ _ _ fun _=>rfl
theorem vecC_free (N:Nat) (v:kE):ZD (QB N v)=true:=tJ _ _ fun _=>rfl
theorem qE {N:Nat} (v:kE) {t:Int} (h:0<=t/\t<N):(QB N v)[t.toNat]?=some [.int .i64 (v t.toNat)]:=by
 have:t.toNat<N:=by omega
 simp [QB,this]
theorem vecC_set {N:Nat} (v w:kE) {i:Nat} {x:Int} (hi:w i=x) (h:∀ j,j≠i->w j=v j):(QB N v).set i [.int .i64 x]=QB N w:=by
 apply List.ext_getElem?;intro j;by_cases e:j=i
 ·subst e;by_cases hj:j<N
  ·simp [QB,hj,hi]
  ·simp [QB,hj]
 ·rw [List.getElem?_set_ne (fun e'=>e e'.symm)];by_cases hj:j<N
  ·simp [QB,hj,h j e]
  ·simp [QB,hj]
def kQ (v:kE):List bB->Int->Int
 | [],c=>c
 | m :: r,c=>kQ v r (min 2 (c * v m.ty.toNat))
def M5 (v:kE):List bB->Int->Int
 | [],c=>c
 | m :: r,c=>M5 v r (c + v m.ty.toNat)
def fU (v:kE):List bB->Int->Int
 | [],c=>c
 | m :: r,c=>fU v r (min 2 (c + v m.ty.toNat))
def RG (x:gA) (v:kE):Int :=
 if x.kind=2 then (if x.low=x.high then 1 else 2)
 else if x.kind=3 then (if x.max=0 then 1 else 2)
 else if x.kind=4 then x.syms.length
 else if x.kind=5 then kQ v x.mems 1
 else if x.kind=6 then M5 v x.mems 0
 else if x.kind=7 then (if x.max=0\/v x.elem.toNat=0 then 1 else 2)
 else if x.kind=8 then (if x.max=0\/v x.elem.toNat=0\/v x.key.toNat=0 then 1 else 2)
 else if x.kind=9 then 1 + v x.elem.toNat
 else 2
def ZG (x:gA) (v:kE):Int :=
 if x.kind=2 then (if x.low=x.high then 1 else 2)
 else if x.kind=3 then (if x.max=0 then 1 else 2)
 else if x.kind=4 then min 2 x.syms.length
 else if x.kind=5 then kQ v x.mems 1
 else if x.kind=6 then fU v x.mems 0
 else if x.kind=7\/x.kind=8 then (if x.max=0\/v x.elem.toNat=0 then 1 else 2)
 else if x.kind=9 then min 2 (1 + v x.elem.toNat)
 else 2
structure FC (N:Nat) (x:gA):Prop where
 mems:∀ m∈x.mems,0<=m.ty/\m.ty<N
 few:x.mems.length<=16
 elem:7<=x.kind->0<=x.elem/\x.elem<N
 key:x.kind=8->0<=x.key/\x.key<N
theorem jZ {N:Nat} {v:kE} (hv:CM N v):∀ (l:List bB) (c:Int),(∀ m∈l,0<=m.ty/\m.ty<N)->0<=c/\c<=2->0<=kQ v l c/\kQ v l c<=2
 | [],c,_,hc=>hc
 | m :: r,c,hm,hc=>by
  have h1:=hm m yk;have h2:=hv m.ty.toNat (by omega);refine jZ hv r _ (fun m' h=>hm m' (yh _ h)) ?_;have:0<=c * v m.ty.toNat:=Int.mul_nonneg hc.1 h2.1;omega
theorem i7 {N:Nat} {v:kE} (hv:CM N v):∀ (l:List bB) (c:Int),(∀ m∈l,0<=m.ty/\m.ty<N)->0<=c/\c<=2->0<=fU v l c/\fU v l c<=2
 | [],c,_,hc=>hc
 | m :: r,c,hm,hc=>by
  have h1:=hm m yk;have h2:=hv m.ty.toNat (by omega);refine i7 hv r _ (fun m' h=>hm m' (yh _ h)) ?_;omega
theorem cap_sum {N:Nat} {v:kE} (hv:CM N v):∀ (l:List bB) (c:Int),(∀ m∈l,0<=m.ty/\m.ty<N)->fU v l (min 2 c)=min 2 (M5 v l c)
 | [],c,_=>rfl
 | m :: r,c,hm=>by
  have h1:=hm m yk;have h2:=hv m.ty.toNat (by omega);rw [fU,M5,<- cap_sum hv r _ (fun m' h=>hm m' (yh _ h))];congr 1;omega
theorem cY {a b c d:Int} (h1:0<=a) (h2:a<=b) (h3:0<=c) (h4:c<=d):a * c<=b * d:=Int.mul_le_mul h2 h4 h3 (by omega)
theorem K3 {N:Nat} {u v:kE} (hu:CM N u) (hv:CM N v) (dq:∀ j,j<N->u j<=v j):∀ (l:List bB) (c d:Int),(∀ m∈l,0<=m.ty/\m.ty<N)->0<=c->c<=d->d<=2->kQ u l c<=kQ v l d
 | [],c,d,_,_,h,_=>h
 | m :: r,c,d,hm,h0,h,hd=>by
  have h1:=hm m yk;have h2:=hu m.ty.toNat (by omega);have h4:=dq m.ty.toNat (by omega);have h5:=cY h0 h h2.1 h4;have h6:0<=c * u m.ty.toNat:=Int.mul_nonneg h0 h2.1;exact K3 hu hv dq r _ _ (fun m' h=>hm m' (yh _ h)) (by omega) (by omega) (by omega)
theorem U2 {N:Nat} {u v:kE} (hu:CM N u) (hv:CM N v) (dq:∀ j,j<N->u j<=v j):∀ (l:List bB) (c d:Int),(∀ m∈l,0<=m.ty/\m.ty<N)->c<=d->fU u l c<=fU v l d
 | [],c,d,_,h=>h
 | m :: r,c,d,hm,h=>by
  have h1:=hm m yk;have h4:=dq m.ty.toNat (by omega);exact U2 hu hv dq r _ _ (fun m' h=>hm m' (yh _ h)) (by omega)
theorem s7 {N:Nat} {v:kE} (hv:CM N v) {x:gA} (hx:FC N x):0<=ZG x v/\ZG x v<=2:=by
 unfold ZG
 repeat' split
 all_goals first
  | omega
  | exact jZ hv _ _ hx.mems (by omega)
  | exact i7 hv _ _ hx.mems (by omega)
  | (have:=hx.elem (by omega); have:=hv x.elem.toNat (by omega); omega)
theorem XP {N:Nat} {v:kE} (hv:CM N v) {x:gA} (hx:FC N x) (hk:x.kind≠8):min 2 (RG x v)=ZG x v:=by
 unfold ZG RG;by_cases h5:x.kind=5
 ·have:=jZ hv x.mems 1 hx.mems (by omega);simp [h5];omega
 ·by_cases h6:x.kind=6
  ·have:=cap_sum hv x.mems 0 hx.mems;simp [h6];exact this.symm
  ·by_cases h7:x.kind=7
   ·simp [h7]; split <;> rfl
   ·simp only [h5,h6,h7,hk,if_false,or_self]
    repeat' split
    all_goals rfl
theorem UX {v:kE} {x:gA} (hk:x.kind=8):min 2 (RG x v)=if x.max=0\/v x.elem.toNat=0\/v x.key.toNat=0 then 1 else 2:=by
 simp [RG,hk];split <;> rfl
theorem cntR_8 {v:kE} {x:gA} (hk:x.kind=8):ZG x v=if x.max=0\/v x.elem.toNat=0 then 1 else 2:=by simp [ZG,hk]
theorem I2 {N:Nat} {u v:kE} (hu:CM N u) (hv:CM N v) (dq:∀ j,j<N->u j<=v j) {x:gA} (hx:FC N x):ZG x u<=ZG x v:=by
 have he:7<=x.kind->0<=u x.elem.toNat/\u x.elem.toNat<=v x.elem.toNat:=fun h=>by
  have:=hx.elem h;exact ⟨(hu _ (by omega)).1,dq _ (by omega)⟩
 unfold ZG;by_cases h5:x.kind=5
 ·simp [h5]; exact K3 hu hv dq _ _ _ hx.mems (by omega) (by omega) (by omega)
 ·by_cases h6:x.kind=6
  ·simp [h6]; exact U2 hu hv dq _ _ _ hx.mems (by omega)
  ·by_cases h7:x.kind=7\/x.kind=8
   ·have:=he (by omega);have h2:¬ x.kind=2:=by omega
    have h3:¬ x.kind=3:=by omega
    have h4:¬ x.kind=4:=by omega
    simp only [h2,h3,h4,h5,h6,h7,if_true,if_false];split <;> split <;> omega
   ·by_cases h9:x.kind=9
    ·have:=he (by omega);simp [h9]; omega
    ·simp only [h5,h6,h7,h9,if_false]
     repeat' split
     all_goals omega
def FP (S:List gA) (i:Nat) (v:kE):Int:=match S[i]? with
 | some x=>min 2 (RG x v)
 | none=>0
def FR (S:List gA) (i:Nat) (v:kE):Int:=match S[i]? with
 | some x=>ZG x v
 | none=>0
theorem U6 {S:List gA} (hS:∀ x∈S,FC S.length x):G1 S.length (FR S):=by
 refine ⟨fun u v hu hv dq i hi=>?_,fun u hu i hi=>?_⟩
 ·unfold FR;rw [y4 hi];exact I2 hu hv dq (hS _ (y5 _))
 ·unfold FR;rw [y4 hi];exact s7 hu (hS _ (y5 _))
theorem FP_rng {N:Nat} {v:kE} (hv:CM N v) {x:gA} (hx:FC N x):0<=min 2 (RG x v)/\min 2 (RG x v)<=2:=by
 by_cases h8:x.kind=8
 ·rw [UX h8]; split <;> omega
 ·rw [XP hv hx h8]; exact s7 hv hx
theorem T6 {S:List gA} (hS:∀ x∈S,FC S.length x):G1 S.length (FP S):=by
 refine ⟨fun u v hu hv dq i hi=>?_,fun u hu i hi=>?_⟩
 ·unfold FP;rw [y4 hi];have hx:=hS _ (y5 hi);simp only;by_cases h8:S[i].kind=8
  ·rw [UX h8,UX h8];have h1:=hx.elem (by omega);have h2:=hx.key h8;have:=hu S[i].elem.toNat (by omega);have:=dq S[i].elem.toNat (by omega);have:=hu S[i].key.toNat (by omega);have:=dq S[i].key.toNat (by omega);split <;> split <;> omega
  ·rw [XP hu hx h8,XP hv hx h8];exact I2 hu hv dq hx
 ·unfold FP;rw [y4 hi];exact FP_rng hu (hS _ (y5 _))
theorem FPR {S:List gA} (hS:∀ x∈S,FC S.length x) (hk:∀ x∈S,x.kind=8->∀ v,CM S.length v->1<=FP S x.key.toNat v) {v w:kE} (hv:aR S.length (FP S) v) (hvf:∀ j,j<S.length->FP S j v=v j) (hw:aR S.length (FR S) w) (hwf:∀ j,j<S.length->FR S j w=w j):∀ j,j<S.length->v j=w j:=by
 have e:∀ j,j<S.length->FR S j v=FP S j v:=fun j hj=>by
  unfold FR FP;rw [y4 hj];have hx:=hS _ (y5 hj);simp only;by_cases h8:S[j].kind=8
  ·rw [UX h8,cntR_8 h8];have h2:=hx.key h8;have:=hk _ (y5 hj) h8 v hv.rng;rw [hvf _ (by omega)] at this;have:¬ v S[j].key.toNat=0:=by omega
   simp [this]
  ·exact (XP hv.rng hx h8).symm
 have ub:∀ u,CM S.length u->∀ j,j<S.length->FP S j u<=FR S j u:=fun u hu j hj=>by
  unfold FR FP;rw [y4 hj];have hx:=hS _ (y5 hj);simp only;by_cases h8:S[j].kind=8
  ·rw [UX h8,cntR_8 h8]; split <;> split <;> omega
  ·rw [XP hu hx h8]; exact Int.le_refl _
 have h1:∀ j,j<S.length->w j<=v j:=hw.least v hv.rng fun j hj=>by rw [e j hj,hvf j hj]; exact Int.le_refl _
 have h2:∀ j,j<S.length->v j<=w j:=hv.least w hw.rng fun j hj=>by rw [<- hwf j hj]; exact ub w hw.rng j hj
 intro j hj;have:=h1 j hj;have:=h2 j hj;omega
section
variable {N:Nat} {v:kE} (hv:CM N v) {x:gA} (hx:FC N x)
include N v hv x hx
theorem cr_ev1 (h:x.kind=1):sA 111 [.agg (eA x),.bl (QB N v)] (.int .i64 (ZG x v)):=by
 refine wA (c:=GA) rfl rfl ?_;simp [GA,-V,-y3,-y0,J,eA,h,ZG]
theorem cr_ev2 (h:x.kind=2):sA 111 [.agg (eA x),.bl (QB N v)] (.int .i64 (ZG x v)):=by
 refine wA (c:=GA) rfl rfl ?_;by_cases c1:x.low=x.high
 ·simp [GA,-V,-y3,-y0,J,eA,h,ZG,c1]
 ·simp [GA,-V,-y3,-y0,J,eA,h,ZG,c1]
theorem cr_ev3 (h:x.kind=3):sA 111 [.agg (eA x),.bl (QB N v)] (.int .i64 (ZG x v)):=by
 refine wA (c:=GA) rfl rfl ?_;by_cases c1:x.max=0
 ·simp [GA,-V,-y3,-y0,J,eA,h,ZG,c1]
 ·simp [GA,-V,-y3,-y0,J,eA,h,ZG,c1]
theorem cr_ev4 (h:x.kind=4):sA 111 [.agg (eA x),.bl (QB N v)] (.int .i64 (ZG x v)):=by
 refine wA (c:=GA) rfl rfl ?_;simp [GA,-V,-y3,-y0,J,eA,h,ZG]
theorem cr_ev7 (h:x.kind=7):sA 111 [.agg (eA x),.bl (QB N v)] (.int .i64 (ZG x v)):=by
 refine wA (c:=GA) rfl rfl ?_;have sc:=hx.elem (by omega);have gel:=qE v sc;have sg:=sc.1;by_cases c1:x.max=0
 ·simp [GA,-V,-y3,-y0,J,eA,h,ZG,c1]
 ·by_cases c2:v x.elem.toNat=0
  ·simp [GA,-V,-y3,-y0,J,eA,h,ZG,c1,c2,gel,sg]
  ·simp [GA,-V,-y3,-y0,J,eA,h,ZG,c1,c2,gel,sg]
theorem cr_ev8 (h:x.kind=8):sA 111 [.agg (eA x),.bl (QB N v)] (.int .i64 (ZG x v)):=by
 refine wA (c:=GA) rfl rfl ?_;have sc:=hx.elem (by omega);have gel:=qE v sc;have sg:=sc.1;by_cases c1:x.max=0
 ·simp [GA,-V,-y3,-y0,J,eA,h,ZG,c1]
 ·by_cases c2:v x.elem.toNat=0
  ·simp [GA,-V,-y3,-y0,J,eA,h,ZG,c1,c2,gel,sg]
  ·simp [GA,-V,-y3,-y0,J,eA,h,ZG,c1,c2,gel,sg]
theorem cr_ev9 (h:x.kind=9):sA 111 [.agg (eA x),.bl (QB N v)] (.int .i64 (ZG x v)):=by
 refine wA (c:=GA) rfl rfl ?_;have sc:=hx.elem (by omega);have gel:=qE v sc;have sg:=sc.1;have ve:=hv x.elem.toNat (by omega);have hw:IntKind.i64.wrap (1 + v x.elem.toNat)=1 + v x.elem.toNat:=IntWalk.i64_in _ (by omega);simp [GA,-V,-y3,-y0,J,eA,h,ZG,gel,sg,hw]
theorem cr_ev5 (h:x.kind=5):sA 111 [.agg (eA x),.bl (QB N v)] (.int .i64 (ZG x v)):=by
 refine wA (c:=GA) rfl rfl ?_;simp [GA,-V,-y3,-y0,J,eA,h,ZG];refine bA x.mems.length (fun i s=>(s.env 1).v=.bl (QB N v)/\(s.env 2).v=.ptr 2 1 0/\s.mem 2 1=some (MA x)/\(s.env 6).v=.int .i64 i/\∃ a,(s.env 5).v=.int .i64 a/\kQ v (x.mems.drop i) a=kQ v x.mems 1/\0<=a/\a<=2)
  (fun e s=>e=.exit 1/\(s.env 5).v=.int .i64 (kQ v x.mems 1)) (fun i hi s k h' ih hk=>?_) _ _ ?_ (fun e s h'=>?_)
 ·obtain ⟨e1,e2,e3,e4,a,ea,hs,hb⟩:=h';refine uA ?_;by_cases fa:i<x.mems.length
  ·have ga:(i:Int)<x.mems.length:=by omega
   have g1:(x.mems.map nA)[i]?=some (nA x.mems[i]):=by simp [fa]
   have hw:=LA (i:=i) (by have:=hx.few; omega);have cv:=hx.mems x.mems[i] (y5 _);rw [y9 fa,kQ] at hs;generalize x.mems[i]=m at *
   have et:=hv m.ty.toNat (by omega);have gm:=qE v cv;have be:=cv.1;have hm2:=Int.mul_nonneg hb.1 et.1;have hm3:a * v m.ty.toNat<=2 * 2:=cY hb.1 hb.2 et.1 et.2;have nh:IntKind.i64.wrap (a * v m.ty.toNat)=a * v m.ty.toNat:=IntWalk.i64_in _ (by omega);simp only [nA] at g1;simp [QK,-V,-y3,-y0,J,e1,e2,e3,e4,ea,ga,g1,gm,be,hw,nh];refine ih fa _ ⟨?_,?_,?_,?_,min 2 (a * v m.ty.toNat),?_,hs,by omega⟩ <;> simp [e1,e2,e3]
  ·have ga:¬ (i:Int)<x.mems.length:=by omega
   simp [QK,-V,-y3,-y0,J,e1,e2,e3,e4,ga];rw [ye (by omega),kQ] at hs;exact hk _ _ ⟨rfl,by simp [ea,hs]⟩
 ·simp [eA,h]
 ·obtain ⟨rfl,ea⟩:=h';simp [-V,-y3,-y0,J,ea]
theorem cr_ev6 (h:x.kind=6):sA 111 [.agg (eA x),.bl (QB N v)] (.int .i64 (ZG x v)):=by
 refine wA (c:=GA) rfl rfl ?_;simp [GA,-V,-y3,-y0,J,eA,h,ZG];refine bA x.mems.length (fun i s=>(s.env 1).v=.bl (QB N v)/\(s.env 2).v=.ptr 2 1 0/\s.mem 2 1=some (MA x)/\(s.env 8).v=.int .i64 i/\∃ a,(s.env 7).v=.int .i64 a/\fU v (x.mems.drop i) a=fU v x.mems 0/\0<=a/\a<=2)
  (fun e s=>e=.exit 3/\(s.env 7).v=.int .i64 (fU v x.mems 0)) (fun i hi s k h' ih hk=>?_) _ _ ?_ (fun e s h'=>?_)
 ·obtain ⟨e1,e2,e3,e4,a,ea,hs,hb⟩:=h';refine uA ?_;by_cases fa:i<x.mems.length
  ·have ga:(i:Int)<x.mems.length:=by omega
   have g1:(x.mems.map nA)[i]?=some (nA x.mems[i]):=by simp [fa]
   have hw:=LA (i:=i) (by have:=hx.few; omega);have cv:=hx.mems x.mems[i] (y5 _);rw [y9 fa,fU] at hs;generalize x.mems[i]=m at *
   have et:=hv m.ty.toNat (by omega);have gm:=qE v cv;have be:=cv.1;have nh:IntKind.i64.wrap (a + v m.ty.toNat)=a + v m.ty.toNat:=IntWalk.i64_in _ (by omega);simp only [nA] at g1;simp [mK,-V,-y3,-y0,J,e1,e2,e3,e4,ea,ga,g1,gm,be,hw,nh];refine ih fa _ ⟨?_,?_,?_,?_,min 2 (a + v m.ty.toNat),?_,hs,by omega⟩ <;> simp [e1,e2,e3]
  ·have ga:¬ (i:Int)<x.mems.length:=by omega
   simp [mK,-V,-y3,-y0,J,e1,e2,e3,e4,ga];rw [ye (by omega),fU] at hs;exact hk _ _ ⟨rfl,by simp [ea,hs]⟩
 ·simp [eA,h]
 ·obtain ⟨rfl,ea⟩:=h';simp [-V,-y3,-y0,J,ea]
theorem cr_ev (hk:1<=x.kind/\x.kind<=9):sA 111 [.agg (eA x),.bl (QB N v)] (.int .i64 (ZG x v)):=by
 rcases kinds x.kind with e | e | e | e | e | e | e | e | e | e
 ·exact cr_ev1 hv hx e
 ·exact cr_ev2 hv hx e
 ·exact cr_ev3 hv hx e
 ·exact cr_ev4 hv hx e
 ·exact cr_ev5 hv hx e
 ·exact cr_ev6 hv hx e
 ·exact cr_ev7 hv hx e
 ·exact cr_ev8 hv hx e
 ·exact cr_ev9 hv hx e
 ·exact absurd hk e
end
section
variable {N:Nat} {v:kE} (hv:CM N v) {x:gA} (hx:FC N x)
include N v hv x hx
theorem cp_ev1 (h:x.kind=1):sA 110 [.agg (eA x),.bl (QB N v)] (.int .i64 (RG x v)):=by
 refine wA (c:=EA) rfl rfl ?_;simp [EA,-V,-y3,-y0,J,eA,h,RG]
theorem cp_ev2 (h:x.kind=2):sA 110 [.agg (eA x),.bl (QB N v)] (.int .i64 (RG x v)):=by
 refine wA (c:=EA) rfl rfl ?_;by_cases c1:x.low=x.high
 ·simp [EA,-V,-y3,-y0,J,eA,h,RG,c1]
 ·simp [EA,-V,-y3,-y0,J,eA,h,RG,c1]
theorem cp_ev3 (h:x.kind=3):sA 110 [.agg (eA x),.bl (QB N v)] (.int .i64 (RG x v)):=by
 refine wA (c:=EA) rfl rfl ?_;by_cases c1:x.max=0
 ·simp [EA,-V,-y3,-y0,J,eA,h,RG,c1]
 ·simp [EA,-V,-y3,-y0,J,eA,h,RG,c1]
theorem cp_ev4 (h:x.kind=4):sA 110 [.agg (eA x),.bl (QB N v)] (.int .i64 (RG x v)):=by
 refine wA (c:=EA) rfl rfl ?_;simp [EA,-V,-y3,-y0,J,eA,h,RG]
theorem cp_ev7 (h:x.kind=7):sA 110 [.agg (eA x),.bl (QB N v)] (.int .i64 (RG x v)):=by
 refine wA (c:=EA) rfl rfl ?_;have sc:=hx.elem (by omega);have gel:=qE v sc;have sg:=sc.1;by_cases c1:x.max=0
 ·simp [EA,-V,-y3,-y0,J,eA,h,RG,c1]
 ·by_cases c2:v x.elem.toNat=0
  ·simp [EA,-V,-y3,-y0,J,eA,h,RG,c1,c2,gel,sg]
  ·simp [EA,-V,-y3,-y0,J,eA,h,RG,c1,c2,gel,sg]
theorem cp_ev8 (h:x.kind=8):sA 110 [.agg (eA x),.bl (QB N v)] (.int .i64 (RG x v)):=by
 refine wA (c:=EA) rfl rfl ?_;have sc:=hx.elem (by omega);have gel:=qE v sc;have sg:=sc.1;have jo:=hx.key h;have gkl:=qE v jo;have wd:=jo.1;by_cases c1:x.max=0
 ·simp [EA,-V,-y3,-y0,J,eA,h,RG,c1]
 ·by_cases c2:v x.elem.toNat=0
  ·simp [EA,-V,-y3,-y0,J,eA,h,RG,c1,c2,gel,sg]
  ·by_cases c3:v x.key.toNat=0
   ·simp [EA,-V,-y3,-y0,J,eA,h,RG,c1,c2,c3,gel,sg,gkl,wd]
   ·simp [EA,-V,-y3,-y0,J,eA,h,RG,c1,c2,c3,gel,sg,gkl,wd]
theorem cp_ev9 (h:x.kind=9):sA 110 [.agg (eA x),.bl (QB N v)] (.int .i64 (RG x v)):=by
 refine wA (c:=EA) rfl rfl ?_;have sc:=hx.elem (by omega);have gel:=qE v sc;have sg:=sc.1;have ve:=hv x.elem.toNat (by omega);have hw:IntKind.i64.wrap (1 + v x.elem.toNat)=1 + v x.elem.toNat:=IntWalk.i64_in _ (by omega);simp [EA,-V,-y3,-y0,J,eA,h,RG,gel,sg,hw]
theorem cp_ev5 (h:x.kind=5):sA 110 [.agg (eA x),.bl (QB N v)] (.int .i64 (RG x v)):=by
 refine wA (c:=EA) rfl rfl ?_;simp [EA,-V,-y3,-y0,J,eA,h,RG];refine bA x.mems.length (fun i s=>(s.env 1).v=.bl (QB N v)/\(s.env 33).v=.sl x.mn (x.mems.map nA)/\(s.env 34).v=.int .i64 x.mems.length/\(s.env 35).v=.int .i64 i/\∃ a,(s.env 5).v=.int .i64 a/\kQ v (x.mems.drop i) a=kQ v x.mems 1/\0<=a/\a<=2)
  (fun e s=>e=.exit 1/\(s.env 5).v=.int .i64 (kQ v x.mems 1)) (fun i hi s k h' ih hk=>?_) _ _ ?_ (fun e s h'=>?_)
 ·obtain ⟨e1,e2,e3,e4,a,ea,hs,hb⟩:=h';refine uA ?_;by_cases fa:i<x.mems.length
  ·have ga:(i:Int)<x.mems.length:=by omega
   have g1:(x.mems.map nA)[i]?=some (nA x.mems[i]):=by simp [fa]
   have hw:=LA (i:=i) (by have:=hx.few; omega);have cv:=hx.mems x.mems[i] (y5 _);rw [y9 fa,kQ] at hs;generalize x.mems[i]=m at *
   have et:=hv m.ty.toNat (by omega);have gm:=qE v cv;have be:=cv.1;have hm2:=Int.mul_nonneg hb.1 et.1;have hm3:a * v m.ty.toNat<=2 * 2:=cY hb.1 hb.2 et.1 et.2;have nh:IntKind.i64.wrap (a * v m.ty.toNat)=a * v m.ty.toNat:=IntWalk.i64_in _ (by omega);simp only [nA] at g1;simp [JI,-V,-y3,-y0,J,e1,e2,e3,e4,ea,ga,g1,gm,be,hw,nh];refine ih fa _ ⟨?_,?_,?_,?_,min 2 (a * v m.ty.toNat),?_,hs,by omega⟩ <;> simp [e1,e2,e3]
  ·have ga:¬ (i:Int)<x.mems.length:=by omega
   simp [JI,-V,-y3,-y0,J,e1,e2,e3,e4,ga];rw [ye (by omega),kQ] at hs;exact hk _ _ ⟨rfl,by simp [ea,hs]⟩
 ·simp [eA,h]
 ·obtain ⟨rfl,ea⟩:=h';simp [-V,-y3,-y0,J,ea]
theorem cp_ev6 (h:x.kind=6):sA 110 [.agg (eA x),.bl (QB N v)] (.int .i64 (RG x v)):=by
 refine wA (c:=EA) rfl rfl ?_;simp [EA,-V,-y3,-y0,J,eA,h,RG];refine bA x.mems.length (fun i s=>(s.env 1).v=.bl (QB N v)/\(s.env 52).v=.sl x.mn (x.mems.map nA)/\(s.env 53).v=.int .i64 x.mems.length/\(s.env 54).v=.int .i64 i/\∃ a,(s.env 8).v=.int .i64 a/\M5 v (x.mems.drop i) a=M5 v x.mems 0/\0<=a/\a<=2 * i)
  (fun e s=>e=.exit 3/\(s.env 8).v=.int .i64 (M5 v x.mems 0)) (fun i hi s k h' ih hk=>?_) _ _ ?_ (fun e s h'=>?_)
 ·obtain ⟨e1,e2,e3,e4,a,ea,hs,hb⟩:=h';refine uA ?_;by_cases fa:i<x.mems.length
  ·have ga:(i:Int)<x.mems.length:=by omega
   have g1:(x.mems.map nA)[i]?=some (nA x.mems[i]):=by simp [fa]
   have hw:=LA (i:=i) (by have:=hx.few; omega);have cv:=hx.mems x.mems[i] (y5 _);rw [y9 fa,M5] at hs;generalize x.mems[i]=m at *
   have et:=hv m.ty.toNat (by omega);have gm:=qE v cv;have be:=cv.1;have nh:IntKind.i64.wrap (a + v m.ty.toNat)=a + v m.ty.toNat:=IntWalk.i64_in _ (by have:=hx.few; omega);simp only [nA] at g1;simp [HI,-V,-y3,-y0,J,e1,e2,e3,e4,ea,ga,g1,gm,be,hw,nh];refine ih fa _ ⟨?_,?_,?_,?_,a + v m.ty.toNat,?_,hs,by omega⟩ <;> simp [e1,e2,e3]
  ·have ga:¬ (i:Int)<x.mems.length:=by omega
   simp [HI,-V,-y3,-y0,J,e1,e2,e3,e4,ga];rw [ye (by omega),M5] at hs;exact hk _ _ ⟨rfl,by simp [ea,hs]⟩
 ·simp [eA,h]
 ·obtain ⟨rfl,ea⟩:=h';simp [-V,-y3,-y0,J,ea]
theorem cp_ev (hk:1<=x.kind/\x.kind<=9):sA 110 [.agg (eA x),.bl (QB N v)] (.int .i64 (RG x v)):=by
 rcases kinds x.kind with e | e | e | e | e | e | e | e | e | e
 ·exact cp_ev1 hv hx e
 ·exact cp_ev2 hv hx e
 ·exact cp_ev3 hv hx e
 ·exact cp_ev4 hv hx e
 ·exact cp_ev5 hv hx e
 ·exact cp_ev6 hv hx e
 ·exact cp_ev7 hv hx e
 ·exact cp_ev8 hv hx e
 ·exact cp_ev9 hv hx e
 ·exact absurd hk e
end
theorem oT {l:List bB} (h:pB l []=true):l=[]:=by
 cases l with
 | nil=>rfl
 | cons=>simp [pB] at h
theorem good_few {t:gA} (h:aB t=true):t.mems.length<=16:=by
 have hk:=JE h;unfold aB kF gA.left at h;rcases kinds t.kind with e | e | e | e | e | e | e | e | e | e
 all_goals first | exact absurd hk e | skip
 all_goals simp [e,gA.same,sC,cH] at h
 all_goals first
  | (obtain ⟨⟨_,h⟩,_⟩:=h; omega)
  | (have:=oT h.2; rw [this]; simp)
  | (have:=oT h.2.2; rw [this]; simp)
  | omega
theorem pK {S:List gA} (h:valid S=0):∀ x∈S,FC S.length x:=fun x hx=>by
 obtain ⟨j,hj,rfl⟩:=yy hx;obtain ⟨h1,h2⟩:=rO (EM h j hj);generalize S[j]=t at *
 have use:∀ u∈t.usesL,0<=u/\u<S.length:=fun u hu=>by
  have:=List.any_eq_false.1 h2 u hu;simp [tB] at this;omega
 refine ⟨fun m hm=>use _ ?_,good_few h1,fun h7=>use _ ?_,fun h8=>s5 h8 h2⟩
 ·unfold gA.usesL;exact List.mem_append_left _ (List.mem_append_left _ (List.mem_map_of_mem hm))
 ·unfold gA.usesL;rw [if_pos h7];exact List.mem_append_right _ (by simp)
theorem KK {S:List gA} (h:valid S=0):S.length<=32:=by
 unfold valid at h;by_cases pw:32<S.length
 ·rw [if_pos pw] at h; cases h
 ·omega
theorem vec0 (N:Nat):(yj N [AV.int .i64 0]).flatten.map (fun v=>(⟨v,.no⟩:rA))=jA (QB N fun _=>0):=by
 unfold jA;congr 1;congr 1;apply List.ext_getElem?;intro i;by_cases h:i<N
 ·simp [QB,h]
 ·simp [QB,h]
theorem vec0' (N:Nat):yj N (⟨AV.int .i64 0,.no⟩:rA)=jA (QB N fun _=>0):=by
 rw [<- vec0];simp
theorem KQ (N:Nat) (v:kE):iF (jA (QB N v)) 1 0 N=some (QB N v):=by
 have:=WM (MT N v) (vecC_free N v)
 rwa [qU] at this
theorem J9 (N:Nat) (v:kE) {i:Nat} (hi:i<N):SA false 1 i (jA (QB N v))=some ⟨.int .i64 (v i),.no⟩:=o9 (MT N v) (by have:=qE v (t:=(i:Int)) (N:=N) (by omega); simpa using this) 1
theorem vec_at (N:Nat) (v:kE) {i:Nat} (hi:i<N):(jA (QB N v))[i]?=some ⟨.int .i64 (v i),.no⟩:=i9 (MT N v) (by have:=qE v (t:=(i:Int)) (N:=N) (by omega); simpa using this)
theorem cO (N:Nat) (v w:kE) {i:Nat} (hi:i<N) {x:Int} (hx:w i=x) (h:∀ j,j≠i->w j=v j):xA false 1 i (jA (QB N v)) (.int .i64 x) .no=some (jA (QB N w)):=by
 rw [cM (MT N v) (by rw [qU]; exact hi) rfl,vecC_set v w hx h]
theorem lfp {N:Nat} {F:Nat->kE->Int} (G:G1 N F):∃ w,aR N F w/\∀ j,j<N->F j w=w j:=by
 have:∀ (k:Nat) (v:kE),aR N F v->2 * (N:Int) - ZH N v<=k->∃ w,aR N F w/\∀ j,j<N->F j w=w j:=by
  intro k
  induction k with
  | zero =>
   intro v hv hk;refine ⟨v,hv,fun j hj=>Classical.byContradiction fun ta=>?_⟩;have h1:=iX _ N (aR.upd G hv hj).rng;rw [zO F v j N hj] at h1;have:=hv.post j hj;omega
  | succ k ih =>
   intro v hv hk;by_cases h:∀ j,j<N->F j v=v j
   ·exact ⟨v,hv,h⟩
   ·obtain ⟨j,hj⟩:=Classical.not_forall.1 h;obtain ⟨hj,ta⟩:=Classical.not_imp.1 hj;refine ih (upd F v j) (aR.upd G hv hj) ?_;rw [zO F v j N hj];have:=hv.post j hj;omega
 exact this (2 * N) _ (aR.zero G) (by have:=r6 (fun _=>0) N (fun j _=>⟨Int.le_refl _,by show (0:Int)<=2; decide⟩); omega)
theorem z5 {N:Nat} {F:Nat->kE->Int} {v w:kE} (hv:aR N F v) (fv:∀ j,j<N->F j v=v j) (hw:aR N F w) (fw:∀ j,j<N->F j w=w j):∀ j,j<N->v j=w j:=fun j hj=>by
 have h1:=hv.least w hw.rng (fun j hj=>by rw [fw j hj]; exact Int.le_refl _) j hj;have h2:=hw.least v hv.rng (fun j hj=>by rw [fv j hj]; exact Int.le_refl _) j hj;omega
theorem mH {N:Nat} {v w:kE} (h:∀ j,j<N->v j=w j):QB N v=QB N w:=by
 unfold QB;exact yz fun j hj=>by rw [h j (List.mem_range.1 hj)]
theorem counts_ev (s:PM) (h0:valid s.types=0) {w:kE} (hw:aR s.types.length (FP s.types) w) (fw:∀ j,j<s.types.length->FP s.types j w=w j):sA 63 [.agg (JA s)] (.sl false (QB s.types.length w)):=by
 have hW:=pK h0;have hN:=KK h0;have hG:=T6 hW;have su:∀ x∈s.types,1<=x.kind/\x.kind<=9:=fun x hx=>by
  obtain ⟨j,hj,rfl⟩:=yy hx;exact JE (rO (EM h0 j hj)).1
 clear h0;simp only [JA];generalize s.types=S at *
 generalize s.nl=b at *
 obtain ⟨N,ug⟩:∃ N,N=S.length:=⟨_,rfl⟩;rw [<- ug] at hW hN hG hw fw ⊢;have ja:PB 8 N=true:=by rw [CA]; omega
 have eg:(N:Int)=(S.length:Int):=by omega
 refine wA (c:=UH) rfl rfl ?_;have hb8:N * 8<=140737488355328:=by omega
 have du:N<=140737488355328:=by omega
 simp [UH,-V,-y3,-y0,J,-SA,-xA,RA,OA,lA,zA,<- ug,hb8,du];refine bA (2 * N + 1) (fun r σ=>(σ.env 1).v=.ptr 1 1 0/\σ.mem 1 1=some [⟨.sl b (S.map eA),.no⟩]/\(σ.env 3).v=.ref 11 2 1 0 N N/\∃ v,σ.mem 11 2=some (jA (QB N v))/\aR N (FP S) v/\((σ.env 4).v=.bool true/\(r:Int)<=ZH N v\/(σ.env 4).v=.bool false/\∀ j,j<N->FP S j v=v j))
  (fun e σ=>e=.exit 0/\(σ.env 3).v=.ref 11 2 1 0 N N/\∃ v,σ.mem 11 2=some (jA (QB N v))/\aR N (FP S) v/\∀ j,j<N->FP S j v=v j) (fun r hr σ k h ih hk=>?_) _ _ ?_ (fun e σ h=>?_)
 ·obtain ⟨e1,m1,e3,v0,m3,eo,mb⟩:=h;refine uA ?_;rcases mb with ⟨e4,hsum⟩ | ⟨e4,hfix⟩
  case inr =>
   simp [qI,-V,-y3,-y0,J,-SA,-xA,RA,OA,lA,zA,e4];exact hk _ _ ⟨rfl,by simp [e3],v0,by simp [m3],eo,hfix⟩
  have hrN:r<2 * N + 1:=by
   have:=iX v0 N eo.rng;omega
  simp [qI,-V,-y3,-y0,J,-SA,-xA,RA,OA,lA,zA,e1,m1,e4,<- ug];refine bA N (fun i σ=>(σ.env 1).v=.ptr 1 1 0/\σ.mem 1 1=some [⟨.sl b (S.map eA),.no⟩]/\(σ.env 3).v=.ref 11 2 1 0 N N/\(σ.env 14).v=.sl b (S.map eA)/\(σ.env 15).v=.int .i64 N/\(σ.env 16).v=.int .i64 i/\∃ v,σ.mem 11 2=some (jA (QB N v))/\aR N (FP S) v/\((σ.env 4).v=.bool false/\v=v0/\(∀ j,j<i->FP S j v=v j)\/(σ.env 4).v=.bool true/\ZH N v0 + 1<=ZH N v))
   (fun e σ=>e=.exit 2/\(σ.env 1).v=.ptr 1 1 0/\σ.mem 1 1=some [⟨.sl b (S.map eA),.no⟩]/\(σ.env 3).v=.ref 11 2 1 0 N N/\∃ v,σ.mem 11 2=some (jA (QB N v))/\aR N (FP S) v/\((σ.env 4).v=.bool false/\(∀ j,j<N->FP S j v=v j)\/(σ.env 4).v=.bool true/\ZH N v0 + 1<=ZH N v)) (fun i hi σ k' h dt tc=>?_) _ _ ?_ (fun e σ h=>?_)
  ·obtain ⟨f1,n1,f3,si,dk,wk,v,n3,hv,mb⟩:=h;refine uA ?_;by_cases fa:i<N
   ·have ga:(i:Int)<N:=by omega
    have zf:i<S.length:=by omega
    have g1:(S.map eA)[i]?=some (eA S[i]):=by simp [zf]
    have fh:=LA (i:=i);have hc:=cp_ev hv.rng (hW _ (y5 zf)) (su _ (y5 zf));have hF:FP S i v=min 2 (RG S[i] v):=by unfold FP; rw [y4 zf]
    generalize S[i]=x at *
    simp only [eA] at g1;simp only [sA,eA] at hc;have sc:=KQ N v;have od:=J9 N v fa;have ic:=vec_at N v fa;have um:=hv.post i fa;have gk:=aR.upd hG hv fa;have gq:=zO (FP S) v i N fa;have nn:=cO N v (upd (FP S) v i) fa (x:=FP S i v) (by simp [upd]) (fun j hj=>by simp [upd,hj]);rw [hF] at um gq nn;by_cases ta:min 2 (RG x v)=v i
    ·rcases mb with ⟨f4,rfl,hj⟩ | ⟨f4,ng⟩
     ·simp [RE,-V,-y3,-y0,J,-SA,-xA,RA,OA,lA,zA,f1,n1,f3,si,dk,wk,n3,ga,g1,sc,hc,od,ic,fh,fa,ta];refine dt fa _ ⟨?_,?_,?_,?_,?_,?_,v,?_,hv,.inl ⟨?_,rfl,fun j kp=>?_⟩⟩
      case refine_9=>
       rcases Nat.lt_succ_iff_lt_or_eq.1 kp with h | rfl
       ·exact hj j h
       ·exact hF.trans ta
      all_goals simp [f1,n1,f3,si,dk,n3,f4]
     ·simp [RE,-V,-y3,-y0,J,-SA,-xA,RA,OA,lA,zA,f1,n1,f3,si,dk,wk,n3,ga,g1,sc,hc,od,ic,fh,fa,ta];refine dt fa _ ⟨?_,?_,?_,?_,?_,?_,v,?_,hv,.inr ⟨?_,ng⟩⟩
      all_goals simp [f1,n1,f3,si,dk,n3,f4]
    ·simp [RE,-V,-y3,-y0,J,-SA,-xA,RA,OA,lA,zA,f1,n1,f3,si,dk,wk,n3,ga,g1,sc,hc,od,ic,fh,fa,ta,nn];refine dt fa _ ⟨?_,?_,?_,?_,?_,?_,upd (FP S) v i,?_,gk,.inr ⟨?_,?_⟩⟩
     case refine_9 =>
      rcases mb with ⟨f4,rfl,hj⟩ | ⟨f4,ng⟩ <;> omega
     all_goals simp [f1,n1,f3,si,dk,n3]
   ·have ga:¬ (i:Int)<N:=by omega
    have ji:i=N:=by omega
    simp [RE,-V,-y3,-y0,J,-SA,-xA,RA,OA,lA,zA,dk,wk,ga];refine tc _ _ ⟨rfl,by simp [f1],by simp [n1],by simp [f3],v,by simp [n3],hv,?_⟩;rcases mb with ⟨f4,rfl,hj⟩ | ⟨f4,ng⟩
    ·exact .inl ⟨by simp [f4],ji ▸ hj⟩
    ·exact .inr ⟨by simp [f4],ng⟩
  ·refine ⟨?_,?_,?_,?_,?_,?_,v0,?_,eo,.inl ⟨?_,rfl,fun j hj=>absurd hj (by omega)⟩⟩
   all_goals simp [e1,m1,e3,m3]
  ·obtain ⟨rfl,e1,m1,e3,v,m3,hv,mb⟩:=h;simp [-V,-y3,-y0,J,-SA,-xA,RA,OA,lA,zA];refine ih hrN _ ⟨by simp [e1],by simp [m1],by simp [e3],v,by simp [m3],hv,?_⟩;rcases mb with ⟨e4,hf⟩ | ⟨e4,hs⟩
   ·exact .inr ⟨by simp [e4],hf⟩
   ·exact .inl ⟨by simp [e4],by omega⟩
 ·refine ⟨?_,?_,?_,fun _=>0,?_,aR.zero hG,.inl ⟨?_,?_⟩⟩
  case refine_4=>simp [vec0']
  case refine_6=>exact r6 _ N (fun j _=>⟨Int.le_refl _,by show (0:Int)<=2; decide⟩)
  all_goals simp
 ·obtain ⟨rfl,e3,v,m3,hv,hf⟩:=h;have sc:=KQ N v;rw [mH (z5 hv hf hw fw)] at sc;rw [mH (z5 hv hf hw fw)] at m3;simp [-V,-y3,-y0,J,-SA,-xA,RA,OA,lA,zA,e3,m3,sc]
theorem rcounts_ev (s:PM) (h0:valid s.types=0) {w:kE} (hw:aR s.types.length (FR s.types) w) (fw:∀ j,j<s.types.length->FR s.types j w=w j):sA 64 [.agg (JA s)] (.sl false (QB s.types.length w)):=by
 have hW:=pK h0;have hN:=KK h0;have hG:=U6 hW;have su:∀ x∈s.types,1<=x.kind/\x.kind<=9:=fun x hx=>by
  obtain ⟨j,hj,rfl⟩:=yy hx;exact JE (rO (EM h0 j hj)).1
 clear h0;simp only [JA];generalize s.types=S at *
 generalize s.nl=b at *
 obtain ⟨N,ug⟩:∃ N,N=S.length:=⟨_,rfl⟩;rw [<- ug] at hW hN hG hw fw ⊢;have hb8:N * 8<=140737488355328:=by omega
 have du:N<=140737488355328:=by omega
 have nh:IntKind.i64.wrap (2 * (N:Int))=2 * N:=IntWalk.i64_in _ (by omega);refine wA (c:=FJ) rfl rfl ?_;simp [FJ,-V,-y3,-y0,J,-SA,-xA,RA,OA,lA,zA,<- ug,hb8,du];refine bA (2 * N + 1) (fun r σ=>(σ.env 1).v=.ptr 1 1 0/\σ.mem 1 1=some [⟨.sl b (S.map eA),.no⟩]/\(σ.env 3).v=.ref 9 2 1 0 N N/\(σ.env 4).v=.int .i64 r/\∃ v,σ.mem 9 2=some (jA (QB N v))/\aR N (FR S) v/\((r:Int)<=ZH N v\/∀ j,j<N->FR S j v=v j))
  (fun e σ=>e=.exit 0/\(σ.env 3).v=.ref 9 2 1 0 N N/\∃ v,σ.mem 9 2=some (jA (QB N v))/\aR N (FR S) v/\∀ j,j<N->FR S j v=v j) (fun r hr σ k h ih hk=>?_) _ _ ?_ (fun e σ h=>?_)
 ·obtain ⟨e1,m1,e3,e4,v0,m3,eo,mb⟩:=h;refine uA ?_;by_cases hrN:r<2 * N + 1
  case neg =>
   have ga:¬ (r:Int)<=2 * N:=by omega
   simp [HJ,-V,-y3,-y0,J,-SA,-xA,RA,OA,lA,zA,e1,m1,e4,<- ug,nh,ga];refine hk _ _ ⟨rfl,by simp [e3],v0,by simp [m3],eo,?_⟩;rcases mb with h | h
   ·have:=iX v0 N eo.rng;omega
   ·exact h
  have ga:(r:Int)<=2 * N:=by omega
  have bx:=LA (i:=r);simp [HJ,-V,-y3,-y0,J,-SA,-xA,RA,OA,lA,zA,e1,m1,e4,<- ug,nh,ga];refine bA N (fun i σ=>(σ.env 1).v=.ptr 1 1 0/\σ.mem 1 1=some [⟨.sl b (S.map eA),.no⟩]/\(σ.env 3).v=.ref 9 2 1 0 N N/\(σ.env 4).v=.int .i64 r/\(σ.env 5).v=.int .i64 i/\∃ v,σ.mem 9 2=some (jA (QB N v))/\aR N (FR S) v/\((∀ j,j<N->FR S j v0=v0 j)->v=v0)/\(v=v0/\(∀ j,j<i->FR S j v=v j)\/ZH N v0 + 1<=ZH N v))
   (fun e σ=>e=.exit 2/\(σ.env 1).v=.ptr 1 1 0/\σ.mem 1 1=some [⟨.sl b (S.map eA),.no⟩]/\(σ.env 3).v=.ref 9 2 1 0 N N/\(σ.env 4).v=.int .i64 r/\∃ v,σ.mem 9 2=some (jA (QB N v))/\aR N (FR S) v/\((∀ j,j<N->FR S j v=v j)\/(r:Int) + 1<=ZH N v)) (fun i hi σ k' h dt tc=>?_) _ _ ?_ (fun e σ h=>?_)
  ·obtain ⟨f1,n1,f3,f4,f5,v,n3,hv,ak,bw⟩:=h;refine uA ?_;by_cases fa:i<N
   ·have ga:(i:Int)<N:=by omega
    have zf:i<S.length:=by omega
    have g1:(S.map eA)[i]?=some (eA S[i]):=by simp [zf]
    have fh:=LA (i:=i);have hc:=cr_ev hv.rng (hW _ (y5 zf)) (su _ (y5 zf));have hF:FR S i v=ZG S[i] v:=by unfold FR; rw [y4 zf]
    generalize S[i]=x at *
    simp only [eA] at g1;simp only [sA,eA] at hc;have sc:=KQ N v;have um:=hv.post i fa;have gk:=aR.upd hG hv fa;have gq:=zO (FR S) v i N fa;have nn:=cO N v (upd (FR S) v i) fa (x:=FR S i v) (by simp [upd]) (fun j hj=>by simp [upd,hj]);have rf:FR S i v=v i->upd (FR S) v i=v:=upd_same;rw [hF] at um gq nn;have hltS':(i:Int)<S.length:=by omega
    simp [GJ,-V,-y3,-y0,J,-SA,-xA,RA,OA,lA,zA,f1,n1,f3,f4,f5,n3,hltS',g1,sc,hc,fh,fa,nn];refine dt fa _ ⟨?_,?_,?_,?_,?_,upd (FR S) v i,?_,gk,?_,?_⟩
    case refine_7 =>
     intro za;have e:=ak za;subst e;exact rf (za i fa)
    case refine_8 =>
     by_cases ta:FR S i v=v i
     ·rw [rf ta];rcases bw with ⟨rfl,hj⟩ | hs
      ·refine .inl ⟨rfl,fun j kp=>?_⟩;rcases Nat.lt_succ_iff_lt_or_eq.1 kp with h | rfl
       ·exact hj j h
       ·exact ta
      ·exact .inr hs
     ·right;rw [hF] at ta;rcases bw with ⟨rfl,hj⟩ | hs <;> omega
    all_goals simp [f1,n1,f3,f4]
   ·have ga:¬ (i:Int)<N:=by omega
    have ji:i=N:=by omega
    simp [GJ,-V,-y3,-y0,J,-SA,-xA,RA,OA,lA,zA,f1,n1,f5,<- ug,ga];refine tc _ _ ⟨rfl,by simp [f1],by simp [n1],by simp [f3],by simp [f4],v,by simp [n3],hv,?_⟩;rcases mb with hr | za
    ·rcases bw with ⟨rfl,hj⟩ | hs
     ·exact .inl (ji ▸ hj)
     ·exact .inr (by omega)
    ·rw [ak za]; exact .inl za
  ·refine ⟨?_,?_,?_,?_,?_,v0,?_,eo,fun _=>rfl,.inl ⟨rfl,fun j hj=>absurd hj (by omega)⟩⟩
   all_goals simp [e1,m1,e3,e4,m3]
  ·obtain ⟨rfl,f1,n1,f3,f4,v,n3,hv,bw⟩:=h;simp [-V,-y3,-y0,J,-SA,-xA,RA,OA,lA,zA,f4,bx];refine ih hrN _ ⟨by simp [f1],by simp [n1],by simp [f3],by simp,v,by simp [n3],hv,?_⟩;rcases bw with h | h
   ·exact .inr h
   ·exact .inl (by omega)
 ·refine ⟨?_,?_,?_,?_,fun _=>0,?_,aR.zero hG,.inl ?_⟩
  case refine_5=>simp [vec0']
  case refine_6=>exact r6 _ N (fun j _=>⟨Int.le_refl _,by show (0:Int)<=2; decide⟩)
  all_goals simp
 ·obtain ⟨rfl,e3,v,m3,hv,hf⟩:=h;have sc:=KQ N v;rw [mH (z5 hv hf hw fw)] at sc;rw [mH (z5 hv hf hw fw)] at m3;simp [-V,-y3,-y0,J,-SA,-xA,RA,OA,lA,zA,e3,m3,sc]
theorem dU (s:PM) (h0:valid s.types=0):∃ w:kE,aR s.types.length (FP s.types) w/\(∀ j,j<s.types.length->FP s.types j w=w j)/\sA 63 [.agg (JA s)] (.sl false (QB s.types.length w))/\sA 64 [.agg (JA s)] (.sl false (QB s.types.length w)):=by
 have hW:=pK h0;obtain ⟨v,hv,fv⟩:=lfp (T6 hW);obtain ⟨w,hw,fw⟩:=lfp (U6 hW);have h1:=counts_ev s h0 hv fv;have h2:=rcounts_ev s h0 hw fw;refine ⟨v,hv,fv,h1,?_⟩;rw [mH (FPR hW ?_ hv fv hw fw)]
 ·exact h2
 ·intro x hx h8 u hu;obtain ⟨j,hj,rfl⟩:=yy hx;have he:=EM h0 j hj;obtain ⟨hg,ho⟩:=rO he;obtain ⟨k0,k1⟩:=s5 h8 ho;have fa:s.types[j].key.toNat<s.types.length:=by omega
  have db:1<=s.types[s.types[j].key.toNat].kind/\s.types[s.types[j].key.toNat].kind<=4:=by
   have hka:AO s.types s.types[j].key=s.types[s.types[j].key.toNat].kind:=by unfold AO; rw [y4 fa]
   rw [<- hka];refine Classical.byContradiction fun hn=>?_
   unfold dD at he;rw [if_neg (by simp [hg])] at he;by_cases h2:s.types[j].named=true/\s.types[j].name∈(s.types.take j).map gA.name
   ·rw [if_pos h2] at he; cases he
   ·rw [if_neg h2,if_neg (by simp [ho]),if_pos ⟨h8,hn⟩] at he;cases he
  have hgk:=(rO (EM h0 _ fa)).1;unfold FP;rw [y4 fa];generalize s.types[s.types[j].key.toNat]=y at *
  have hy:y.kind=1\/y.kind=2\/y.kind=3\/y.kind=4:=by omega
  simp only;rcases hy with e | e | e | e
  ·simp [RG,e]
  ·simp [RG,e]; split <;> decide
  ·simp [RG,e]; split <;> decide
  ·have:0<y.syms.length:=by
    unfold aB kF JK at hgk;simp [e] at hgk;exact hgk.1.2.1
   simp [RG,e];omega
theorem w7 (s:PM) (h0:valid s.types=0):∃ w:kE,CM s.types.length w/\sA 63 [.agg (JA s)] (.sl false (QB s.types.length w))/\sA 64 [.agg (JA s)] (.sl false (QB s.types.length w)):=by
 obtain ⟨w,hw,_,h⟩:=dU s h0;exact ⟨w,hw.rng,h⟩
def OP (w:kE) (n:Nat):List (List AV):=(List.range n).map fun j=>[AV.bool (decide (0<w j))]
theorem FQ (w:kE) (n:Nat):OP w (n + 1)=OP w n++[[AV.bool (decide (0<w n))]]:=by simp [OP,J]
theorem K8 (w:kE) (n:Nat):kB 1 (OP w n)=true:=rD _ _ _ fun _=>rfl
theorem PT (w:kE) (n:Nat):(OP w n).length=n:=by simp [OP]
theorem L8 (w:kE) {n i:Nat} (h:i<n):(OP w n)[i]?=some [.bool (decide (0<w i))]:=by simp [OP,h]
noncomputable def T7 (S:List gA) (w:kE):AV:=if AB S=0 then .tup [.sl (decide (S.length=0)) (OP w S.length),.int .i64 0] else .tup [.sl true [],.int .i64 (AB S)]
theorem eJ {S:List gA} (h:AB S=0):valid S=0:=by
 unfold AB at h;by_cases h0:valid S=0
 ·exact h0
 ·rw [if_neg h0] at h; exact absurd h h0
theorem cU (s:PM) (hs:s.fine) (nb:s.d64) {w:kE} (hw:AB s.types=0->CM s.types.length w/\sA 63 [.agg (JA s)] (.sl false (QB s.types.length w))):sA 23 [.agg (JA s)] (T7 s.types w):=by
 have hr:=DT s hs nb;refine wA (c:=wG) rfl rfl ?_;unfold T7;simp only [sA,JA] at hr hw;by_cases h0:AB s.types=0
 case neg =>
  rw [if_neg h0];simp [wG,-V,-y3,-y0,J,JA,hr,h0]
 have hN:=KK (eJ h0);obtain ⟨hrng,hc⟩:=hw h0;rw [if_pos h0];rw [h0] at hr;simp only [JA];generalize s.types=S at *
 generalize s.nl=b at *
 obtain ⟨N,ug⟩:∃ N,N=S.length:=⟨_,rfl⟩;rw [<- ug] at hN hrng hc ⊢;have kw:=qU N w;simp [wG,-V,-y3,-y0,J,JA,hr,hc,kw];refine bA N (fun i σ=>(σ.env 14).v=.sl false (QB N w)/\(σ.env 15).v=.int .i64 N/\(σ.env 16).v=.int .i64 i/\(σ.env 5).v=.sl (decide (i=0)) (OP w i)/\(i=0/\(σ.env 5).a=.ex\/¬ i=0/\(σ.env 5).a=.own 24 4))
  (fun e σ=>e=.exit 0/\(σ.env 5).v=.sl (decide (N=0)) (OP w N)) (fun i hi σ k h ih hk=>?_) _ _ ?_ (fun e σ h=>?_)
 ·obtain ⟨gd,bd,je,e5,an⟩:=h;refine uA ?_;by_cases fa:i<N
  ·have ga:(i:Int)<N:=by omega
   have g1:(QB N w)[i]?=some [.int .i64 (w i)]:=by have:=qE w (t:=(i:Int)) (N:=N) (by omega); simpa using this
   have xh:=LA (i:=i);have q:=K8 w i;have ql:=PT w i;have ja:PB 1 (i + 1)=true:=by rw [CA]; omega
   rcases an with ⟨a0,a5⟩ | ⟨a0,a5⟩
   ·simp [LF,-V,-y3,-y0,J,gd,bd,je,e5,a5,ga,g1,q,ql,xh,ja];refine ih fa _ ⟨?_,?_,?_,?_,?_⟩ <;> simp [gd,bd,FQ,An.strip]
   ·simp [LF,-V,-y3,-y0,J,gd,bd,je,e5,a0,a5,ga,g1,q,ql,xh,ja];refine ih fa _ ⟨?_,?_,?_,?_,?_⟩ <;> simp [gd,bd,FQ,An.strip]
  ·have ga:¬ (i:Int)<N:=by omega
   have ji:i=N:=by omega
   simp [LF,-V,-y3,-y0,J,bd,je,ga];exact hk _ _ ⟨rfl,by rw [<- ji]; simp [e5]⟩
 ·simp [OP]
 ·obtain ⟨rfl,e5⟩:=h;simp [-V,-y3,-y0,J,e5]
theorem iS (s:PM) (hs:s.fine) (nb:s.d64) {w:kE} (hw:AB s.types=0->CM s.types.length w/\sA 64 [.agg (JA s)] (.sl false (QB s.types.length w))):sA 24 [.agg (JA s)] (T7 s.types w):=by
 have hr:=QV s hs nb;refine wA (c:=gH) rfl rfl ?_;unfold T7;simp only [sA,JA] at hr hw;by_cases h0:AB s.types=0
 case neg =>
  rw [if_neg h0];simp [gH,-V,-y3,-y0,J,JA,hr,h0]
 have hN:=KK (eJ h0);obtain ⟨hrng,hc⟩:=hw h0;rw [if_pos h0];rw [h0] at hr;simp only [JA];generalize s.types=S at *
 generalize s.nl=b at *
 obtain ⟨N,ug⟩:∃ N,N=S.length:=⟨_,rfl⟩;rw [<- ug] at hN hrng hc ⊢;have kw:=qU N w;simp [gH,-V,-y3,-y0,J,JA,hr,hc];refine bA N (fun i σ=>(σ.env 5).v=.sl false (QB N w)/\(σ.env 7).v=.int .i64 i/\(σ.env 6).v=.sl (decide (i=0)) (OP w i)/\(i=0/\(σ.env 6).a=.ex\/¬ i=0/\(σ.env 6).a=.own 28 4))
  (fun e σ=>e=.exit 0/\(σ.env 6).v=.sl (decide (N=0)) (OP w N)) (fun i hi σ k h ih hk=>?_) _ _ ?_ (fun e σ h=>?_)
 ·obtain ⟨e5,e7,e6,an⟩:=h;refine uA ?_;by_cases fa:i<N
  ·have ga:(i:Int)<N:=by omega
   have g1:(QB N w)[i]?=some [.int .i64 (w i)]:=by have:=qE w (t:=(i:Int)) (N:=N) (by omega); simpa using this
   have xh:=LA (i:=i);have q:=K8 w i;have ql:=PT w i;have ja:PB 1 (i + 1)=true:=by rw [CA]; omega
   rcases an with ⟨a0,a5⟩ | ⟨a0,a5⟩
   ·simp [wH,-V,-y3,-y0,J,e5,e7,e6,a5,ga,kw,g1,q,ql,xh,ja];refine ih fa _ ⟨?_,?_,?_,?_⟩ <;> simp [e5,FQ,An.strip]
   ·simp [wH,-V,-y3,-y0,J,e5,e7,e6,a0,a5,ga,kw,g1,q,ql,xh,ja];refine ih fa _ ⟨?_,?_,?_,?_⟩ <;> simp [e5,FQ,An.strip]
  ·have ga:¬ (i:Int)<N:=by omega
   have ji:i=N:=by omega
   simp [wH,-V,-y3,-y0,J,e5,e7,kw,ga];exact hk _ _ ⟨rfl,by rw [<- ji]; simp [e6]⟩
 ·simp [OP]
 ·obtain ⟨rfl,e5⟩:=h;simp [-V,-y3,-y0,J,e5]
def QJ (w:kE):Nat->Bool
 | 0=>true
 | n + 1=>QJ w n&&decide (0<w n)
theorem zX {w:kE}:∀ {n:Nat} (i:Nat),i<n->¬ 0<w i->QJ w n=false
 | 0,i,h,_=>by omega
 | n + 1,i,h,hn=>by
  unfold QJ;by_cases e:i=n
  ·subst e; simp [hn]
  ·rw [zX i (by omega) hn]; rfl
noncomputable def PZ (S:List gA) (w:kE):Int:=if AB S=0 then (if QJ w S.length=true then 0 else 10) else AB S
theorem Q9 (s:PM) (hs:s.fine) (nb:s.d64) {w:kE} (hw:AB s.types=0->CM s.types.length w/\sA 63 [.agg (JA s)] (.sl false (QB s.types.length w))):sA 33 [.agg (JA s)] (.int .i64 (PZ s.types w)):=by
 have hf:=cU s hs nb hw;refine wA (c:=IG) rfl rfl ?_;unfold T7 at hf;unfold PZ;simp only [sA,JA] at hf;by_cases h0:AB s.types=0
 case neg =>
  rw [if_neg h0] at hf ⊢;simp [IG,-V,-y3,-y0,J,JA,hf,h0]
 have hN:=KK (eJ h0);clear hw;rw [if_pos h0] at hf ⊢;simp only [JA];generalize s.types=S at *
 generalize s.nl=b at *
 obtain ⟨N,ug⟩:∃ N,N=S.length:=⟨_,rfl⟩;rw [<- ug] at hN hf ⊢;have kw:=PT w N;simp [IG,-V,-y3,-y0,J,JA,hf,kw];refine bA N (fun i σ=>(σ.env 15).v=.sl (decide (N=0)) (OP w N)/\(σ.env 16).v=.int .i64 N/\(σ.env 17).v=.int .i64 i/\QJ w i=true)
  (fun e σ=>(e=.exit 0/\QJ w N=true)\/(e=.ret/\QJ w N=false/\(σ.env 2).v=.int .i64 10)) (fun i hi σ k h ih hk=>?_) _ _ ?_ (fun e σ h=>?_)
 ·obtain ⟨bd,je,fi,hp⟩:=h;refine uA ?_;by_cases fa:i<N
  ·have ga:(i:Int)<N:=by omega
   have g1:=L8 w fa;have xh:=LA (i:=i);by_cases ab:0<w i
   ·rw [decide_eq_true ab] at g1;simp [xG,-V,-y3,-y0,J,bd,je,fi,ga,g1,xh];refine ih fa _ ⟨?_,?_,?_,by rw [QJ,hp,decide_eq_true ab]; rfl⟩ <;> simp [bd,je]
   ·rw [decide_eq_false ab] at g1;simp [xG,-V,-y3,-y0,J,bd,je,fi,ga,g1];exact hk _ _ (.inr ⟨rfl,zX i fa ab,by simp⟩)
  ·have ga:¬ (i:Int)<N:=by omega
   have ji:i=N:=by omega
   simp [xG,-V,-y3,-y0,J,je,fi,ga];exact hk _ _ (.inl ⟨rfl,ji ▸ hp⟩)
 ·simp [QJ]
 ·rcases h with ⟨rfl,h1⟩ | ⟨rfl,h1,h2⟩
  ·simp [-V,-y3,-y0,J,h1]
  ·simp [-V,-y3,-y0,J,h1,h2]
theorem N3 (s:PM) (hs:s.fine) (nb:s.d64) {w:kE} (hw:AB s.types=0->CM s.types.length w/\sA 64 [.agg (JA s)] (.sl false (QB s.types.length w))):sA 34 [.agg (JA s)] (.int .i64 (PZ s.types w)):=by
 have hf:=iS s hs nb hw;refine wA (c:=fI) rfl rfl ?_;unfold T7 at hf;unfold PZ;simp only [sA,JA] at hf;by_cases h0:AB s.types=0
 case neg =>
  rw [if_neg h0] at hf ⊢;simp [fI,-V,-y3,-y0,J,JA,hf,h0]
 have hN:=KK (eJ h0);clear hw;rw [if_pos h0] at hf ⊢;simp only [JA];generalize s.types=S at *
 generalize s.nl=b at *
 obtain ⟨N,ug⟩:∃ N,N=S.length:=⟨_,rfl⟩;rw [<- ug] at hN hf ⊢;have kw:=PT w N;simp [fI,-V,-y3,-y0,J,JA,hf];refine bA N (fun i σ=>(σ.env 3).v=.sl (decide (N=0)) (OP w N)/\(σ.env 5).v=.int .i64 i/\QJ w i=true)
  (fun e σ=>(e=.exit 0/\QJ w N=true)\/(e=.ret/\QJ w N=false/\(σ.env 2).v=.int .i64 10)) (fun i hi σ k h ih hk=>?_) _ _ ?_ (fun e σ h=>?_)
 ·obtain ⟨e3,e5,hp⟩:=h;refine uA ?_;by_cases fa:i<N
  ·have ga:(i:Int)<N:=by omega
   have g1:=L8 w fa;have xh:=LA (i:=i);by_cases ab:0<w i
   ·rw [decide_eq_true ab] at g1;simp [PH,-V,-y3,-y0,J,e3,e5,ga,kw,g1,xh];refine ih fa _ ⟨?_,?_,by rw [QJ,hp,decide_eq_true ab]; rfl⟩ <;> simp [e3]
   ·rw [decide_eq_false ab] at g1;simp [PH,-V,-y3,-y0,J,e3,e5,ga,kw,g1];exact hk _ _ (.inr ⟨rfl,zX i fa ab,by simp⟩)
  ·have ga:¬ (i:Int)<N:=by omega
   have ji:i=N:=by omega
   simp [PH,-V,-y3,-y0,J,e3,e5,kw,ga];exact hk _ _ (.inl ⟨rfl,ji ▸ hp⟩)
 ·simp [QJ]
 ·rcases h with ⟨rfl,h1⟩ | ⟨rfl,h1,h2⟩
  ·simp [-V,-y3,-y0,J,h1]
  ·simp [-V,-y3,-y0,J,h1,h2]
theorem both_sound (s:PM) (hs:s.fine) (nb:s.d64):∃ e:Int,sA 33 [.agg (JA s)] (.int .i64 e)/\sA 34 [.agg (JA s)] (.int .i64 e):=by
 by_cases h0:AB s.types=0
 ·obtain ⟨w,hr,h1,h2⟩:=w7 s (eJ h0);exact ⟨_,Q9 s hs nb (fun _=>⟨hr,h1⟩),N3 s hs nb (fun _=>⟨hr,h2⟩)⟩
 ·exact ⟨PZ s.types (fun _=>0),Q9 s hs nb (fun h=>absurd h h0),N3 s hs nb (fun h=>absurd h h0)⟩
end Go.Proofs.YtjoaiabjebpbjaaGreat
