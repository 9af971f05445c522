/- A part of the proof. -/
import Derived.Test.YthnefkpplcmjdaaGreatWi
set_option linter.all false
set_option maxRecDepth 100000
set_option maxHeartbeats 8000000
open Option renaming bind_some → J
open List renaming range_succ → y0, map_map → y3, getElem?_eq_getElem → y7, getElem_mem → y8, drop_eq_getElem_cons → yc, drop_eq_nil_of_le → yf, replicate → yj, mem_cons_self → yl, mem_cons_of_mem → ym, map_congr_left → yw, getElem_of_mem → yO
open Int renaming toNat_lt → y4
namespace Go.Proofs.YthnefkpplcmjdaaGreat
open Go
section
abbrev fH:=Nat->Int
def dO (N:Nat)(v:fH):Prop:=∀j,j<N->0<=v j/\v j<=2
structure B2 (N:Nat)(F:Nat->fH->Int):Prop where
 mono:∀u v,dO N u->dO N v->(∀j,j<N->u j<=v j)->∀i,i<N->F i u<=F i v
 kB:∀u,dO N u->∀i,i<N->0<=F i u/\F i u<=2
def upd (F:Nat->fH->Int)(v:fH)(i:Nat):fH:=fun j=>if j=i then F i v else v j
structure KS (N:Nat)(F:Nat->fH->Int)(v:fH):Prop where
 kB:dO N v
 post:∀j,j<N->v j<=F j v
 least:∀m,dO N m->(∀j,j<N->F j m<=m j)->∀j,j<N->v j<=m j
def bO:Nat->fH->Int
 |0,_=>0
 |n+1,v=>bO n v+v n
theorem sY (v:fH):∀N,dO N v->bO N v<=2*N
 |0,_=>by simp[bO]
 |n+1,h=>by
  have:=sY v n fun j hj=>h j (by omega)
  have:=h n (by omega);simp only[bO];omega
theorem W6 (v:fH):∀N,dO N v->0<=bO N v
 |0,_=>by simp[bO]
 |n+1,h=>by
  have:=W6 v n fun j hj=>h j (by omega)
  have:=h n (by omega);simp only[bO];omega
theorem S4 (v w:fH):∀N,(∀j,j<N->v j=w j)->bO N v=bO N w
 |0,_=>rfl
 |n+1,h=>by simp only[bO,S4 v w n fun j hj=>h j (by omega),h n (by omega)]
theorem tS (F:Nat->fH->Int)(v:fH)(i:Nat):∀N,i<N->bO N (upd F v i)=bO N v+(F i v-v i)
 |0,h=>by omega
 |n+1,h=>by
  simp only[bO];by_cases e:i=n
  ·subst e;rw[S4 (upd F v i) v i fun j hj=>by simp[upd,show ¬j=i from by omega]];simp only[upd,if_true];omega
  ·rw [tS F v i n (by omega)];have:upd F v i n=v n:=by simp [upd,show ¬ n=i from fun e'=>e e'.symm]
   omega
section
variable {N:Nat} {F:Nat->fH->Int}
theorem KS.zero (G:B2 N F):KS N F (fun _=>0):=by
 refine⟨fun j hj=>by omega,fun j hj=>(G.kB _ (fun j hj=>by omega) j hj).1,fun m hm _ j hj=>(hm j hj).1⟩
theorem upd_ge {v:fH}(h:KS N F v){i:Nat}(hi:i<N)(j:Nat):v j<=upd F v i j:=by
 unfold upd;split
 ·rename_i e;subst e;exact h.post _ hi
 ·exact Int.le_refl _
theorem Cm (G:B2 N F){v:fH}(h:KS N F v){i:Nat}(hi:i<N):dO N (upd F v i):=fun j hj=>by
 unfold upd;split
 ·exact G.kB v h.kB i hi
 ·exact h.kB j hj
theorem KS.upd (G:B2 N F){v:fH}(h:KS N F v){i:Nat}(hi:i<N):KS N F (upd F v i):=by
 have hr:=Cm G h hi;refine⟨hr,fun j hj=>?_,fun m hm hp j hj=>?_⟩
 ·have hm:=G.mono v (Go.Proofs.YthnefkpplcmjdaaGreat.upd F v i) h.kB hr (fun j _=>upd_ge h hi j) j hj;unfold Go.Proofs.YthnefkpplcmjdaaGreat.upd at hm ⊢;by_cases e:j=i
  ·subst e;simp only[if_true];exact hm
  ·simp only[if_neg e];have:=h.post j hj;omega
 ·unfold Go.Proofs.YthnefkpplcmjdaaGreat.upd;split
  ·rename_i e;subst e;have:=G.mono v m h.kB hm (h.least m hm hp) j hj;have:=hp j hj;omega
  ·exact h.least m hm hp j hj
theorem Hl {v:fH}{i:Nat}(h:F i v=v i):upd F v i=v:=by
 funext j;unfold upd;split
 ·rename_i e;subst e;exact h
 ·rfl
end
end
def FE (N:Nat)(v:fH):List (List AV):=(List.range N).map fun i=>[AV.int .i64 (v i)]
theorem cV (N:Nat)(v:fH):(FE N v).length=N:=by simp[FE]
theorem xV (N:Nat)(v:fH):PD 1 (FE N v)=true:=rG _ _ _ fun _=>rfl
theorem Np (N:Nat)(v:fH):WM (FE N v)=true:=qP _ _ fun _=>rfl
theorem BG {N:Nat}(v:fH){t:Int}(h:0<=t/\t<N):(FE N v)[t.toNat]?=some [.int .i64 (v t.toNat)]:=by
 have:t.toNat<N:=by omega
 simp[FE,this]
theorem Wz {N:Nat}(v w:fH){i:Nat}{x:Int}(hi:w i=x)(h:∀j,j≠i->w j=v j):(FE N v).set i [.int .i64 x]=FE N w:=by
 apply List.ext_getElem?;intro j;by_cases e:j=i
 ·subst e;by_cases hj:j<N
  ·simp[FE,hj,hi]
  ·simp[FE,hj]
 ·rw [List.getElem?_set_ne (fun e'=>e e'.symm)];by_cases hj:j<N
  ·simp[FE,hj,h j e]
  ·simp[FE,hj]
def BR (v:fH):List RE->Int->Int
 | [],c=>c
 |m::r,c=>BR v r (min 2 (c*v m.ty.toNat))
def Q6 (v:fH):List RE->Int->Int
 | [],c=>c
 |m::r,c=>Q6 v r (c+v m.ty.toNat)
def UV (v:fH):List RE->Int->Int
 | [],c=>c
 |m::r,c=>UV v r (min 2 (c+v m.ty.toNat))
def sI (x:BC)(v:fH):Int :=
 if x.kind=2 then(if x.low=x.high then 1 else 2)
 else if x.kind=3 then(if x.max=0 then 1 else 2)
 else if x.kind=4 then x.tA.length
 else if x.kind=5 then BR v x.qA 1
 else if x.kind=6 then Q6 v x.qA 0
 else if x.kind=7 then(if x.max=0\/v x.elem.toNat=0 then 1 else 2)
 else if x.kind=8 then(if x.max=0\/v x.elem.toNat=0\/v x.key.toNat=0 then 1 else 2)
 else if x.kind=9 then 1+v x.elem.toNat
 else 2
def OI (x:BC)(v:fH):Int :=
 if x.kind=2 then(if x.low=x.high then 1 else 2)
 else if x.kind=3 then(if x.max=0 then 1 else 2)
 else if x.kind=4 then min 2 x.tA.length
 else if x.kind=5 then BR v x.qA 1
 else if x.kind=6 then UV v x.qA 0
 else if x.kind=7\/x.kind=8 then(if x.max=0\/v x.elem.toNat=0 then 1 else 2)
 else if x.kind=9 then min 2 (1+v x.elem.toNat)
 else 2
structure RF (N:Nat)(x:BC):Prop where
 qA:∀m∈x.qA,0<=m.ty/\m.ty<N
 few:x.qA.length<=16
 elem:7<=x.kind->0<=x.elem/\x.elem<N
 key:x.kind=8->0<=x.key/\x.key<N
theorem R0 {N:Nat}{v:fH}(hv:dO N v):∀(l:List RE)(c:Int),(∀m∈l,0<=m.ty/\m.ty<N)->0<=c/\c<=2->0<=BR v l c/\BR v l c<=2
 | [],c,_,hc=>hc
 |m::r,c,hm,hc=>by
  have h1:=hm m yl;have h2:=hv m.ty.toNat (by omega);refine R0 hv r _ (fun m' h=>hm m' (ym _ h)) ?_;have:0<=c*v m.ty.toNat:=Int.mul_nonneg hc.1 h2.1;omega
theorem o7 {N:Nat}{v:fH}(hv:dO N v):∀(l:List RE)(c:Int),(∀m∈l,0<=m.ty/\m.ty<N)->0<=c/\c<=2->0<=UV v l c/\UV v l c<=2
 | [],c,_,hc=>hc
 |m::r,c,hm,hc=>by
  have h1:=hm m yl;have h2:=hv m.ty.toNat (by omega);refine o7 hv r _ (fun m' h=>hm m' (ym _ h)) ?_;omega
theorem Be {N:Nat}{v:fH}(hv:dO N v):∀(l:List RE)(c:Int),(∀m∈l,0<=m.ty/\m.ty<N)->UV v l (min 2 c)=min 2 (Q6 v l c)
 | [],c,_=>rfl
 |m::r,c,hm=>by
  have h1:=hm m yl;have h2:=hv m.ty.toNat (by omega);rw[UV,Q6,<- Be hv r _ (fun m' h=>hm m' (ym _ h))];congr 1;omega
theorem zZ {a b c d:Int}(h1:0<=a)(h2:a<=b)(h3:0<=c)(h4:c<=d):a*c<=b*d:=Int.mul_le_mul h2 h4 h3 (by omega)
theorem Q4 {N:Nat}{u v:fH}(hu:dO N u)(hv:dO N v)(cm:∀j,j<N->u j<=v j):∀(l:List RE)(c d:Int),(∀m∈l,0<=m.ty/\m.ty<N)->0<=c->c<=d->d<=2->BR u l c<=BR v l d
 | [],c,d,_,_,h,_=>h
 |m::r,c,d,hm,h0,h,hd=>by
  have h1:=hm m yl;have h2:=hu m.ty.toNat (by omega);have h4:=cm m.ty.toNat (by omega);have h5:=zZ h0 h h2.1 h4;have h6:0<=c*u m.ty.toNat:=Int.mul_nonneg h0 h2.1;exact Q4 hu hv cm r _ _ (fun m' h=>hm m' (ym _ h)) (by omega) (by omega) (by omega)
theorem T3 {N:Nat}{u v:fH}(hu:dO N u)(hv:dO N v)(cm:∀j,j<N->u j<=v j):∀(l:List RE)(c d:Int),(∀m∈l,0<=m.ty/\m.ty<N)->c<=d->UV u l c<=UV v l d
 | [],c,d,_,h=>h
 |m::r,c,d,hm,h=>by
  have h1:=hm m yl;have h4:=cm m.ty.toNat (by omega);exact T3 hu hv cm r _ _ (fun m' h=>hm m' (ym _ h)) (by omega)
theorem d7 {N:Nat}{v:fH}(hv:dO N v){x:BC}(hx:RF N x):0<=OI x v/\OI x v<=2:=by
 unfold OI
 repeat' split
 all_goals first
  |omega
  |exact R0 hv _ _ hx.qA (by omega)
  |exact o7 hv _ _ hx.qA (by omega)
  |(have:=hx.elem (by omega);have:=hv x.elem.toNat (by omega);omega)
theorem WR {N:Nat}{v:fH}(hv:dO N v){x:BC}(hx:RF N x)(hk:x.kind≠8):min 2 (sI x v)=OI x v:=by
 unfold OI sI;by_cases h5:x.kind=5
 ·have:=R0 hv x.qA 1 hx.qA (by omega);simp[h5];omega
 ·by_cases h6:x.kind=6
  ·have:=Be hv x.qA 0 hx.qA;simp[h6];exact this.symm
  ·by_cases h7:x.kind=7
   ·simp[h7];split<;>rfl
   ·simp only [h5,h6,h7,hk,if_false,or_self]
    repeat' split
    all_goals rfl
theorem RY {v:fH}{x:BC}(hk:x.kind=8):min 2 (sI x v)=if x.max=0\/v x.elem.toNat=0\/v x.key.toNat=0 then 1 else 2:=by
 simp[sI,hk];split<;>rfl
theorem Kd {v:fH}{x:BC}(hk:x.kind=8):OI x v=if x.max=0\/v x.elem.toNat=0 then 1 else 2:=by simp[OI,hk]
theorem U3 {N:Nat}{u v:fH}(hu:dO N u)(hv:dO N v)(cm:∀j,j<N->u j<=v j){x:BC}(hx:RF N x):OI x u<=OI x v:=by
 have he:7<=x.kind->0<=u x.elem.toNat/\u x.elem.toNat<=v x.elem.toNat:=fun h=>by
  have:=hx.elem h;exact⟨(hu _ (by omega)).1,cm _ (by omega)⟩
 unfold OI;by_cases h5:x.kind=5
 ·simp[h5];exact Q4 hu hv cm _ _ _ hx.qA (by omega) (by omega) (by omega)
 ·by_cases h6:x.kind=6
  ·simp[h6];exact T3 hu hv cm _ _ _ hx.qA (by omega)
  ·by_cases h7:x.kind=7\/x.kind=8
   ·have:=he (by omega);have h2:¬ x.kind=2:=by omega
    have h3:¬x.kind=3:=by omega
    have h4:¬x.kind=4:=by omega
    simp only[h2,h3,h4,h5,h6,h7,if_true,if_false];split<;>split<;>omega
   ·by_cases h9:x.kind=9
    ·have:=he (by omega);simp[h9];omega
    ·simp only [h5,h6,h7,h9,if_false]
     repeat' split
     all_goals omega
def FP (S:List BC)(i:Nat)(v:fH):Int:=match S[i]? with
 |some x=>min 2 (sI x v)
 |none=>0
def FR (S:List BC)(i:Nat)(v:fH):Int:=match S[i]? with
 |some x=>OI x v
 |none=>0
theorem G6 {S:List BC}(hS:∀x∈S,RF S.length x):B2 S.length (FR S):=by
 refine⟨fun u v hu hv cm i hi=>?_,fun u hu i hi=>?_⟩
 ·unfold FR;rw[y7 hi];exact U3 hu hv cm (hS _ (y8 _))
 ·unfold FR;rw[y7 hi];exact d7 hu (hS _ (y8 _))
theorem FP_rng {N:Nat}{v:fH}(hv:dO N v){x:BC}(hx:RF N x):0<=min 2 (sI x v)/\min 2 (sI x v)<=2:=by
 by_cases h8:x.kind=8
 ·rw[RY h8];split<;>omega
 ·rw[WR hv hx h8];exact d7 hv hx
theorem F6 {S:List BC}(hS:∀x∈S,RF S.length x):B2 S.length (FP S):=by
 refine⟨fun u v hu hv cm i hi=>?_,fun u hu i hi=>?_⟩
 ·unfold FP;rw [y7 hi];have hx:=hS _ (y8 hi);simp only;by_cases h8:S[i].kind=8
  ·rw[RY h8,RY h8];have h1:=hx.elem (by omega);have h2:=hx.key h8;have:=hu S[i].elem.toNat (by omega);have:=cm S[i].elem.toNat (by omega);have:=hu S[i].key.toNat (by omega);have:=cm S[i].key.toNat (by omega);split<;>split<;>omega
  ·rw[WR hu hx h8,WR hv hx h8];exact U3 hu hv cm hx
 ·unfold FP;rw[y7 hi];exact FP_rng hu (hS _ (y8 _))
theorem FPR {S:List BC}(hS:∀x∈S,RF S.length x)(hk:∀x∈S,x.kind=8->∀v,dO S.length v->1<=FP S x.key.toNat v){v w:fH}(hv:KS S.length (FP S) v)(hvf:∀j,j<S.length->FP S j v=v j)(hw:KS S.length (FR S) w)(hwf:∀j,j<S.length->FR S j w=w j):∀j,j<S.length->v j=w j:=by
 have e:∀j,j<S.length->FR S j v=FP S j v:=fun j hj=>by
  unfold FR FP;rw[y7 hj];have hx:=hS _ (y8 hj);simp only;by_cases h8:S[j].kind=8
  ·rw [RY h8,Kd h8];have h2:=hx.key h8;have:=hk _ (y8 hj) h8 v hv.kB;rw [hvf _ (by omega)] at this;have:¬ v S[j].key.toNat=0:=by omega
   simp[this]
  ·exact(WR hv.kB hx h8).symm
 have ib:∀u,dO S.length u->∀j,j<S.length->FP S j u<=FR S j u:=fun u hu j hj=>by
  unfold FR FP;rw[y7 hj];have hx:=hS _ (y8 hj);simp only;by_cases h8:S[j].kind=8
  ·rw[RY h8,Kd h8];split<;>split<;>omega
  ·rw[WR hu hx h8];exact Int.le_refl _
 have h1:∀j,j<S.length->w j<=v j:=hw.least v hv.kB fun j hj=>by rw[e j hj,hvf j hj];exact Int.le_refl _
 have h2:∀j,j<S.length->v j<=w j:=hv.least w hw.kB fun j hj=>by rw[<- hwf j hj];exact ib w hw.kB j hj
 intro j hj;have:=h1 j hj;have:=h2 j hj;omega
section
variable {N:Nat} {v:fH} (hv:dO N v) {x:BC} (hx:RF N x)
include N v hv x hx
theorem cr_ev1 (h:x.kind=1):IC 162 [.agg (QC x),.bl (FE N v)] (.int .i64 (OI x v)):=by
 refine mC (c:=tD) rfl rfl ?_;simp[tD,-J,-y4,-y3,y0,QC,h,OI]
theorem cr_ev2 (h:x.kind=2):IC 162 [.agg (QC x),.bl (FE N v)] (.int .i64 (OI x v)):=by
 refine mC (c:=tD) rfl rfl ?_;by_cases c1:x.low=x.high
 ·simp[tD,-J,-y4,-y3,y0,QC,h,OI,c1]
 ·simp[tD,-J,-y4,-y3,y0,QC,h,OI,c1]
theorem cr_ev3 (h:x.kind=3):IC 162 [.agg (QC x),.bl (FE N v)] (.int .i64 (OI x v)):=by
 refine mC (c:=tD) rfl rfl ?_;by_cases c1:x.max=0
 ·simp[tD,-J,-y4,-y3,y0,QC,h,OI,c1]
 ·simp[tD,-J,-y4,-y3,y0,QC,h,OI,c1]
theorem cr_ev4 (h:x.kind=4):IC 162 [.agg (QC x),.bl (FE N v)] (.int .i64 (OI x v)):=by
 refine mC (c:=tD) rfl rfl ?_;simp[tD,-J,-y4,-y3,y0,QC,h,OI]
theorem cr_ev7 (h:x.kind=7):IC 162 [.agg (QC x),.bl (FE N v)] (.int .i64 (OI x v)):=by
 refine mC (c:=tD) rfl rfl ?_;have sb:=hx.elem (by omega);have gel:=BG v sb;have le:=sb.1;by_cases c1:x.max=0
 ·simp[tD,-J,-y4,-y3,y0,QC,h,OI,c1]
 ·by_cases c2:v x.elem.toNat=0
  ·simp[tD,-J,-y4,-y3,y0,QC,h,OI,c1,c2,gel,le]
  ·simp[tD,-J,-y4,-y3,y0,QC,h,OI,c1,c2,gel,le]
theorem cr_ev8 (h:x.kind=8):IC 162 [.agg (QC x),.bl (FE N v)] (.int .i64 (OI x v)):=by
 refine mC (c:=tD) rfl rfl ?_;have sb:=hx.elem (by omega);have gel:=BG v sb;have le:=sb.1;by_cases c1:x.max=0
 ·simp[tD,-J,-y4,-y3,y0,QC,h,OI,c1]
 ·by_cases c2:v x.elem.toNat=0
  ·simp[tD,-J,-y4,-y3,y0,QC,h,OI,c1,c2,gel,le]
  ·simp[tD,-J,-y4,-y3,y0,QC,h,OI,c1,c2,gel,le]
theorem cr_ev9 (h:x.kind=9):IC 162 [.agg (QC x),.bl (FE N v)] (.int .i64 (OI x v)):=by
 refine mC (c:=tD) rfl rfl ?_;have sb:=hx.elem (by omega);have gel:=BG v sb;have le:=sb.1;have ve:=hv x.elem.toNat (by omega);have hw:IntKind.i64.wrap (1+v x.elem.toNat)=1+v x.elem.toNat:=IntWalk.i64_in _ (by omega);simp[tD,-J,-y4,-y3,y0,QC,h,OI,gel,le,hw]
theorem cr_ev5 (h:x.kind=5):IC 162 [.agg (QC x),.bl (FE N v)] (.int .i64 (OI x v)):=by
 refine mC (c:=tD) rfl rfl ?_;simp[tD,-J,-y4,-y3,y0,QC,h,OI];refine ZC x.qA.length (fun i s=>(s.env 1).v=.bl (FE N v)/\(s.env 2).v=.ptr 2 1 0/\s.mem 2 1=some (ID x)/\(s.env 6).v=.int .i64 i/\∃a,(s.env 5).v=.int .i64 a/\BR v (x.qA.drop i) a=BR v x.qA 1/\0<=a/\a<=2)
  (fun e s=>e=.exit 1/\(s.env 5).v=.int .i64 (BR v x.qA 1)) (fun i hi s k h' ih hk=>?_) _ _ ?_ (fun e s h'=>?_)
 ·obtain ⟨e1,e2,e3,e4,a,ea,hs,hb⟩:=h';refine EC ?_;by_cases fa:i<x.qA.length
  ·have ga:(i:Int)<x.qA.length:=by omega
   have g1:(x.qA.map uD)[i]?=some (uD x.qA[i]):=by simp[fa]
   have hw:=cD (i:=i) (by have:=hx.few;omega);have dn:=hx.qA x.qA[i] (y8 _);rw[yc fa,BR]at hs;generalize x.qA[i]=m at *
   have uv:=hv m.ty.toNat (by omega);have gm:=BG v dn;have be:=dn.1;have hm2:=Int.mul_nonneg hb.1 uv.1;have hm3:a*v m.ty.toNat<=2*2:=zZ hb.1 hb.2 uv.1 uv.2;have aq:IntKind.i64.wrap (a*v m.ty.toNat)=a*v m.ty.toNat:=IntWalk.i64_in _ (by omega);simp only[uD]at g1;simp[qM,-J,-y4,-y3,y0,e1,e2,e3,e4,ea,ga,g1,gm,be,hw,aq];refine ih fa _ ⟨?_,?_,?_,?_,min 2 (a*v m.ty.toNat),?_,hs,by omega⟩<;>simp[e1,e2,e3]
  ·have ga:¬ (i:Int)<x.qA.length:=by omega
   simp[qM,-J,-y4,-y3,y0,e1,e2,e3,e4,ga];rw[yf (by omega),BR]at hs;exact hk _ _ ⟨rfl,by simp[ea,hs]⟩
 ·simp[QC,h]
 ·obtain⟨rfl,ea⟩:=h';simp[-J,-y4,-y3,y0,ea]
theorem cr_ev6 (h:x.kind=6):IC 162 [.agg (QC x),.bl (FE N v)] (.int .i64 (OI x v)):=by
 refine mC (c:=tD) rfl rfl ?_;simp[tD,-J,-y4,-y3,y0,QC,h,OI];refine ZC x.qA.length (fun i s=>(s.env 1).v=.bl (FE N v)/\(s.env 2).v=.ptr 2 1 0/\s.mem 2 1=some (ID x)/\(s.env 8).v=.int .i64 i/\∃a,(s.env 7).v=.int .i64 a/\UV v (x.qA.drop i) a=UV v x.qA 0/\0<=a/\a<=2)
  (fun e s=>e=.exit 3/\(s.env 7).v=.int .i64 (UV v x.qA 0)) (fun i hi s k h' ih hk=>?_) _ _ ?_ (fun e s h'=>?_)
 ·obtain ⟨e1,e2,e3,e4,a,ea,hs,hb⟩:=h';refine EC ?_;by_cases fa:i<x.qA.length
  ·have ga:(i:Int)<x.qA.length:=by omega
   have g1:(x.qA.map uD)[i]?=some (uD x.qA[i]):=by simp[fa]
   have hw:=cD (i:=i) (by have:=hx.few;omega);have dn:=hx.qA x.qA[i] (y8 _);rw[yc fa,UV]at hs;generalize x.qA[i]=m at *
   have uv:=hv m.ty.toNat (by omega);have gm:=BG v dn;have be:=dn.1;have aq:IntKind.i64.wrap (a+v m.ty.toNat)=a+v m.ty.toNat:=IntWalk.i64_in _ (by omega);simp only[uD]at g1;simp[ML,-J,-y4,-y3,y0,e1,e2,e3,e4,ea,ga,g1,gm,be,hw,aq];refine ih fa _ ⟨?_,?_,?_,?_,min 2 (a+v m.ty.toNat),?_,hs,by omega⟩<;>simp[e1,e2,e3]
  ·have ga:¬ (i:Int)<x.qA.length:=by omega
   simp[ML,-J,-y4,-y3,y0,e1,e2,e3,e4,ga];rw[yf (by omega),UV]at hs;exact hk _ _ ⟨rfl,by simp[ea,hs]⟩
 ·simp[QC,h]
 ·obtain⟨rfl,ea⟩:=h';simp[-J,-y4,-y3,y0,ea]
theorem cr_ev (hk:1<=x.kind/\x.kind<=9):IC 162 [.agg (QC x),.bl (FE N v)] (.int .i64 (OI x v)):=by
 rcases kinds x.kind with e|e|e|e|e|e|e|e|e|e
 ·exact cr_ev1 hv hx e
 ·exact cr_ev2 hv hx e
 ·exact cr_ev3 hv hx e
 ·exact cr_ev4 hv hx e
 ·exact cr_ev5 hv hx e
 ·exact cr_ev6 hv hx e
 ·exact cr_ev7 hv hx e
 ·exact cr_ev8 hv hx e
 ·exact cr_ev9 hv hx e
 ·exact absurd hk e
end
section
variable {N:Nat} {v:fH} (hv:dO N v) {x:BC} (hx:RF N x)
include N v hv x hx
theorem cp_ev1 (h:x.kind=1):IC 201 [.agg (QC x),.bl (FE N v)] (.int .i64 (sI x v)):=by
 refine mC (c:=LC) rfl rfl ?_;simp[LC,-J,-y4,-y3,y0,QC,h,sI]
theorem cp_ev2 (h:x.kind=2):IC 201 [.agg (QC x),.bl (FE N v)] (.int .i64 (sI x v)):=by
 refine mC (c:=LC) rfl rfl ?_;by_cases c1:x.low=x.high
 ·simp[LC,-J,-y4,-y3,y0,QC,h,sI,c1]
 ·simp[LC,-J,-y4,-y3,y0,QC,h,sI,c1]
theorem cp_ev3 (h:x.kind=3):IC 201 [.agg (QC x),.bl (FE N v)] (.int .i64 (sI x v)):=by
 refine mC (c:=LC) rfl rfl ?_;by_cases c1:x.max=0
 ·simp[LC,-J,-y4,-y3,y0,QC,h,sI,c1]
 ·simp[LC,-J,-y4,-y3,y0,QC,h,sI,c1]
theorem cp_ev4 (h:x.kind=4):IC 201 [.agg (QC x),.bl (FE N v)] (.int .i64 (sI x v)):=by
 refine mC (c:=LC) rfl rfl ?_;simp[LC,-J,-y4,-y3,y0,QC,h,sI]
theorem cp_ev7 (h:x.kind=7):IC 201 [.agg (QC x),.bl (FE N v)] (.int .i64 (sI x v)):=by
 refine mC (c:=LC) rfl rfl ?_;have sb:=hx.elem (by omega);have gel:=BG v sb;have le:=sb.1;by_cases c1:x.max=0
 ·simp[LC,-J,-y4,-y3,y0,QC,h,sI,c1]
 ·by_cases c2:v x.elem.toNat=0
  ·simp[LC,-J,-y4,-y3,y0,QC,h,sI,c1,c2,gel,le]
  ·simp[LC,-J,-y4,-y3,y0,QC,h,sI,c1,c2,gel,le]
theorem cp_ev8 (h:x.kind=8):IC 201 [.agg (QC x),.bl (FE N v)] (.int .i64 (sI x v)):=by
 refine mC (c:=LC) rfl rfl ?_;have sb:=hx.elem (by omega);have gel:=BG v sb;have le:=sb.1;have xk:=hx.key h;have gkl:=BG v xk;have nd:=xk.1;by_cases c1:x.max=0
 ·simp[LC,-J,-y4,-y3,y0,QC,h,sI,c1]
 ·by_cases c2:v x.elem.toNat=0
  ·simp[LC,-J,-y4,-y3,y0,QC,h,sI,c1,c2,gel,le]
  ·by_cases c3:v x.key.toNat=0
   ·simp[LC,-J,-y4,-y3,y0,QC,h,sI,c1,c2,c3,gel,le,gkl,nd]
   ·simp[LC,-J,-y4,-y3,y0,QC,h,sI,c1,c2,c3,gel,le,gkl,nd]
theorem cp_ev9 (h:x.kind=9):IC 201 [.agg (QC x),.bl (FE N v)] (.int .i64 (sI x v)):=by
 refine mC (c:=LC) rfl rfl ?_;have sb:=hx.elem (by omega);have gel:=BG v sb;have le:=sb.1;have ve:=hv x.elem.toNat (by omega);have hw:IntKind.i64.wrap (1+v x.elem.toNat)=1+v x.elem.toNat:=IntWalk.i64_in _ (by omega);simp[LC,-J,-y4,-y3,y0,QC,h,sI,gel,le,hw]
theorem cp_ev5 (h:x.kind=5):IC 201 [.agg (QC x),.bl (FE N v)] (.int .i64 (sI x v)):=by
 refine mC (c:=LC) rfl rfl ?_;simp[LC,-J,-y4,-y3,y0,QC,h,sI];refine ZC x.qA.length (fun i s=>(s.env 1).v=.bl (FE N v)/\(s.env 33).v=.sl x.mn (x.qA.map uD)/\(s.env 34).v=.int .i64 x.qA.length/\(s.env 35).v=.int .i64 i/\∃a,(s.env 5).v=.int .i64 a/\BR v (x.qA.drop i) a=BR v x.qA 1/\0<=a/\a<=2)
  (fun e s=>e=.exit 1/\(s.env 5).v=.int .i64 (BR v x.qA 1)) (fun i hi s k h' ih hk=>?_) _ _ ?_ (fun e s h'=>?_)
 ·obtain ⟨e1,e2,e3,e4,a,ea,hs,hb⟩:=h';refine EC ?_;by_cases fa:i<x.qA.length
  ·have ga:(i:Int)<x.qA.length:=by omega
   have g1:(x.qA.map uD)[i]?=some (uD x.qA[i]):=by simp[fa]
   have hw:=cD (i:=i) (by have:=hx.few;omega);have dn:=hx.qA x.qA[i] (y8 _);rw[yc fa,BR]at hs;generalize x.qA[i]=m at *
   have uv:=hv m.ty.toNat (by omega);have gm:=BG v dn;have be:=dn.1;have hm2:=Int.mul_nonneg hb.1 uv.1;have hm3:a*v m.ty.toNat<=2*2:=zZ hb.1 hb.2 uv.1 uv.2;have aq:IntKind.i64.wrap (a*v m.ty.toNat)=a*v m.ty.toNat:=IntWalk.i64_in _ (by omega);simp only[uD]at g1;simp[nK,-J,-y4,-y3,y0,e1,e2,e3,e4,ea,ga,g1,gm,be,hw,aq];refine ih fa _ ⟨?_,?_,?_,?_,min 2 (a*v m.ty.toNat),?_,hs,by omega⟩<;>simp[e1,e2,e3]
  ·have ga:¬ (i:Int)<x.qA.length:=by omega
   simp[nK,-J,-y4,-y3,y0,e1,e2,e3,e4,ga];rw[yf (by omega),BR]at hs;exact hk _ _ ⟨rfl,by simp[ea,hs]⟩
 ·simp[QC,h]
 ·obtain⟨rfl,ea⟩:=h';simp[-J,-y4,-y3,y0,ea]
theorem cp_ev6 (h:x.kind=6):IC 201 [.agg (QC x),.bl (FE N v)] (.int .i64 (sI x v)):=by
 refine mC (c:=LC) rfl rfl ?_;simp[LC,-J,-y4,-y3,y0,QC,h,sI];refine ZC x.qA.length (fun i s=>(s.env 1).v=.bl (FE N v)/\(s.env 52).v=.sl x.mn (x.qA.map uD)/\(s.env 53).v=.int .i64 x.qA.length/\(s.env 54).v=.int .i64 i/\∃a,(s.env 8).v=.int .i64 a/\Q6 v (x.qA.drop i) a=Q6 v x.qA 0/\0<=a/\a<=2*i)
  (fun e s=>e=.exit 3/\(s.env 8).v=.int .i64 (Q6 v x.qA 0)) (fun i hi s k h' ih hk=>?_) _ _ ?_ (fun e s h'=>?_)
 ·obtain ⟨e1,e2,e3,e4,a,ea,hs,hb⟩:=h';refine EC ?_;by_cases fa:i<x.qA.length
  ·have ga:(i:Int)<x.qA.length:=by omega
   have g1:(x.qA.map uD)[i]?=some (uD x.qA[i]):=by simp[fa]
   have hw:=cD (i:=i) (by have:=hx.few;omega);have dn:=hx.qA x.qA[i] (y8 _);rw[yc fa,Q6]at hs;generalize x.qA[i]=m at *
   have uv:=hv m.ty.toNat (by omega);have gm:=BG v dn;have be:=dn.1;have aq:IntKind.i64.wrap (a+v m.ty.toNat)=a+v m.ty.toNat:=IntWalk.i64_in _ (by have:=hx.few;omega);simp only[uD]at g1;simp[bK,-J,-y4,-y3,y0,e1,e2,e3,e4,ea,ga,g1,gm,be,hw,aq];refine ih fa _ ⟨?_,?_,?_,?_,a+v m.ty.toNat,?_,hs,by omega⟩<;>simp[e1,e2,e3]
  ·have ga:¬ (i:Int)<x.qA.length:=by omega
   simp[bK,-J,-y4,-y3,y0,e1,e2,e3,e4,ga];rw[yf (by omega),Q6]at hs;exact hk _ _ ⟨rfl,by simp[ea,hs]⟩
 ·simp[QC,h]
 ·obtain⟨rfl,ea⟩:=h';simp[-J,-y4,-y3,y0,ea]
theorem cp_ev (hk:1<=x.kind/\x.kind<=9):IC 201 [.agg (QC x),.bl (FE N v)] (.int .i64 (sI x v)):=by
 rcases kinds x.kind with e|e|e|e|e|e|e|e|e|e
 ·exact cp_ev1 hv hx e
 ·exact cp_ev2 hv hx e
 ·exact cp_ev3 hv hx e
 ·exact cp_ev4 hv hx e
 ·exact cp_ev5 hv hx e
 ·exact cp_ev6 hv hx e
 ·exact cp_ev7 hv hx e
 ·exact cp_ev8 hv hx e
 ·exact cp_ev9 hv hx e
 ·exact absurd hk e
end
theorem PU {l:List RE}(h:QE l []=true):l=[]:=by
 cases l with
 |nil=>rfl
 |cons=>simp[QE]at h
theorem Lg {t:BC}(h:IE t=true):t.qA.length<=16:=by
 have hk:=dH h;unfold IE wN BC.left at h;rcases kinds t.kind with e|e|e|e|e|e|e|e|e|e
 all_goals first|exact absurd hk e|skip
 all_goals simp[e,BC.same,fG,nL]at h
 all_goals first
  |(obtain⟨⟨_,h⟩,_⟩:=h;omega)
  |(have:=PU h.2;rw[this];simp)
  |(have:=PU h.2.2;rw[this];simp)
  |omega
theorem DN {S:List BC}(h:mH S=0):∀x∈S,RF S.length x:=fun x hx=>by
 obtain⟨j,hj,rfl⟩:=yO hx;obtain⟨h1,h2⟩:=EP (HN h j hj);generalize S[j]=t at *
 have use:∀u∈t.zA,0<=u/\u<S.length:=fun u hu=>by
  have:=List.any_eq_false.1 h2 u hu;simp[mD]at this;omega
 refine⟨fun m hm=>use _ ?_,Lg h1,fun h7=>use _ ?_,fun h8=>P5 h8 h2⟩
 ·unfold BC.zA;exact List.mem_append_left _ (List.mem_append_left _ (List.mem_map_of_mem hm))
 ·unfold BC.zA;rw[if_pos h7];exact List.mem_append_right _ (by simp)
theorem JN {S:List BC}(h:mH S=0):S.length<=32:=by
 unfold mH at h;by_cases pm:32<S.length
 ·rw[if_pos pm]at h;cases h
 ·omega
theorem vec0 (N:Nat):(yj N [AV.int .i64 0]).flatten.map (fun v=>(⟨v,.no⟩:WC))=HC (FE N fun _=>0):=by
 unfold HC;congr 1;congr 1;apply List.ext_getElem?;intro i;by_cases h:i<N
 ·simp[FE,h]
 ·simp[FE,h]
theorem vec0' (N:Nat):yj N (⟨AV.int .i64 0,.no⟩:WC)=HC (FE N fun _=>0):=by
 rw[<- vec0];simp
theorem gY (N:Nat)(v:fH):bH (HC (FE N v)) 1 0 N=some (FE N v):=by
 have:=WS (xV N v) (Np N v)
 rwa [cV]at this
theorem Ez (N:Nat)(v:fH){i:Nat}(hi:i<N):kD false 1 i (HC (FE N v))=some ⟨.int .i64 (v i),.no⟩:=L8 (xV N v) (by have:=BG v (t:=(i:Int)) (N:=N) (by omega);simpa using this) 1
theorem vec_at (N:Nat)(v:fH){i:Nat}(hi:i<N):(HC (FE N v))[i]?=some ⟨.int .i64 (v i),.no⟩:=K8 (xV N v) (by have:=BG v (t:=(i:Int)) (N:=N) (by omega);simpa using this)
theorem J4 (N:Nat)(v w:fH){i:Nat}(hi:i<N){x:Int}(hx:w i=x)(h:∀j,j≠i->w j=v j):MC false 1 i (HC (FE N v)) (.int .i64 x) .no=some (HC (FE N w)):=by
 rw[SN (xV N v) (by rw[cV];exact hi) rfl,Wz v w hx h]
theorem lfp {N:Nat}{F:Nat->fH->Int}(G:B2 N F):∃w,KS N F w/\∀j,j<N->F j w=w j:=by
 have:∀(k:Nat)(v:fH),KS N F v->2*(N:Int)-bO N v<=k->∃w,KS N F w/\∀j,j<N->F j w=w j:=by
  intro k
  induction k with
  |zero =>
   intro v hv hk;refine⟨v,hv,fun j hj=>Classical.byContradiction fun ua=>?_⟩;have h1:=sY _ N (KS.upd G hv hj).kB;rw[tS F v j N hj]at h1;have:=hv.post j hj;omega
  |succ k ih =>
   intro v hv hk;by_cases h:∀j,j<N->F j v=v j
   ·exact⟨v,hv,h⟩
   ·obtain⟨j,hj⟩:=Classical.not_forall.1 h;obtain⟨hj,ua⟩:=Classical.not_imp.1 hj;refine ih (upd F v j) (KS.upd G hv hj) ?_;rw[tS F v j N hj];have:=hv.post j hj;omega
 exact this (2*N) _ (KS.zero G) (by have:=W6 (fun _=>0) N (fun j _=>⟨Int.le_refl _,by show(0:Int)<=2;decide⟩);omega)
theorem F5 {N:Nat}{F:Nat->fH->Int}{v w:fH}(hv:KS N F v)(fv:∀j,j<N->F j v=v j)(hw:KS N F w)(fw:∀j,j<N->F j w=w j):∀j,j<N->v j=w j:=fun j hj=>by
 have h1:=hv.least w hw.kB (fun j hj=>by rw[fw j hj];exact Int.le_refl _) j hj;have h2:=hw.least v hv.kB (fun j hj=>by rw[fv j hj];exact Int.le_refl _) j hj;omega
theorem nO {N:Nat}{v w:fH}(h:∀j,j<N->v j=w j):FE N v=FE N w:=by
 unfold FE;exact yw fun j hj=>by rw[h j (List.mem_range.1 hj)]
theorem Uu (s:dR)(h0:mH s.types=0){w:fH}(hw:KS s.types.length (FP s.types) w)(fw:∀j,j<s.types.length->FP s.types j w=w j):IC 135 [.agg (pD s)] (.sl false (FE s.types.length w)):=by
 have hW:=DN h0;have hN:=JN h0;have hG:=F6 hW;have wq:∀x∈s.types,1<=x.kind/\x.kind<=9:=fun x hx=>by
  obtain⟨j,hj,rfl⟩:=yO hx;exact dH (EP (HN h0 j hj)).1
 clear h0;simp only[pD];generalize s.types=S at *
 generalize s.nl=b at *
 obtain⟨N,ak⟩:∃N,N=S.length:=⟨_,rfl⟩;rw[<- ak]at hW hN hG hw fw ⊢;have ta:aE 8 N=true:=by rw[UD];omega
 have sh:(N:Int)=(S.length:Int):=by omega
 refine mC (c:=mJ) rfl rfl ?_;have hb8:N*8<=140737488355328:=by omega
 have ju:N<=140737488355328:=by omega
 simp[mJ,-J,-y4,-y3,y0,-kD,-MC,zD,xD,wD,eD,<- ak,hb8,ju];refine ZC (2*N+1) (fun r σ=>(σ.env 1).v=.ptr 1 1 0/\σ.mem 1 1=some [⟨.sl b (S.map QC),.no⟩]/\(σ.env 3).v=.ref 11 2 1 0 N N/\∃v,σ.mem 11 2=some (HC (FE N v))/\KS N (FP S) v/\((σ.env 4).v=.bool true/\(r:Int)<=bO N v\/(σ.env 4).v=.bool false/\∀j,j<N->FP S j v=v j))
  (fun e σ=>e=.exit 0/\(σ.env 3).v=.ref 11 2 1 0 N N/\∃v,σ.mem 11 2=some (HC (FE N v))/\KS N (FP S) v/\∀j,j<N->FP S j v=v j) (fun r hr σ k h ih hk=>?_) _ _ ?_ (fun e σ h=>?_)
 ·obtain ⟨e1,m1,e3,v0,m3,gz,tb⟩:=h;refine EC ?_;rcases tb with ⟨e4,hsum⟩ | ⟨e4,hfix⟩
  case inr =>
   simp[HJ,-J,-y4,-y3,y0,-kD,-MC,zD,xD,wD,eD,e4];exact hk _ _ ⟨rfl,by simp[e3],v0,by simp[m3],gz,hfix⟩
  have hrN:r<2*N+1:=by
   have:=sY v0 N gz.kB;omega
  simp[HJ,-J,-y4,-y3,y0,-kD,-MC,zD,xD,wD,eD,e1,m1,e4,<- ak];refine ZC N (fun i σ=>(σ.env 1).v=.ptr 1 1 0/\σ.mem 1 1=some [⟨.sl b (S.map QC),.no⟩]/\(σ.env 3).v=.ref 11 2 1 0 N N/\(σ.env 14).v=.sl b (S.map QC)/\(σ.env 15).v=.int .i64 N/\(σ.env 16).v=.int .i64 i/\∃v,σ.mem 11 2=some (HC (FE N v))/\KS N (FP S) v/\((σ.env 4).v=.bool false/\v=v0/\(∀j,j<i->FP S j v=v j)\/(σ.env 4).v=.bool true/\bO N v0+1<=bO N v))
   (fun e σ=>e=.exit 2/\(σ.env 1).v=.ptr 1 1 0/\σ.mem 1 1=some [⟨.sl b (S.map QC),.no⟩]/\(σ.env 3).v=.ref 11 2 1 0 N N/\∃v,σ.mem 11 2=some (HC (FE N v))/\KS N (FP S) v/\((σ.env 4).v=.bool false/\(∀j,j<N->FP S j v=v j)\/(σ.env 4).v=.bool true/\bO N v0+1<=bO N v)) (fun i hi σ k' h gw jc=>?_) _ _ ?_ (fun e σ h=>?_)
  ·obtain ⟨f1,n1,f3,f14,f15,f16,v,n3,hv,tb⟩:=h;refine EC ?_;by_cases fa:i<N
   ·have ga:(i:Int)<N:=by omega
    have dj:i<S.length:=by omega
    have g1:(S.map QC)[i]?=some (QC S[i]):=by simp[dj]
    have sg:=cD (i:=i);have hc:=cp_ev hv.kB (hW _ (y8 dj)) (wq _ (y8 dj));have hF:FP S i v=min 2 (sI S[i] v):=by unfold FP;rw[y7 dj]
    generalize S[i]=x at *
    simp only[QC]at g1;simp only[IC,QC]at hc;have sb:=gY N v;have af:=Ez N v fa;have bc:=vec_at N v fa;have wr:=hv.post i fa;have wj:=KS.upd hG hv fa;have jp:=tS (FP S) v i N fa;have js:=J4 N v (upd (FP S) v i) fa (x:=FP S i v) (by simp[upd]) (fun j hj=>by simp[upd,hj]);rw[hF]at wr jp js;by_cases ua:min 2 (sI x v)=v i
    ·rcases tb with ⟨f4,rfl,hj⟩ | ⟨f4,eo⟩
     ·simp [QG,-J,-y4,-y3,y0,-kD,-MC,zD,xD,wD,eD,f1,n1,f3,f14,f15,f16,n3,ga,g1,sb,hc,af,bc,sg,fa,ua];refine gw fa _ ⟨?_,?_,?_,?_,?_,?_,v,?_,hv,.inl ⟨?_,rfl,fun j wo=>?_⟩⟩
      case refine_9=>
       rcases Nat.lt_succ_iff_lt_or_eq.1 wo with h|rfl
       ·exact hj j h
       ·exact hF.trans ua
      all_goals simp[f1,n1,f3,f14,f15,n3,f4]
     ·simp [QG,-J,-y4,-y3,y0,-kD,-MC,zD,xD,wD,eD,f1,n1,f3,f14,f15,f16,n3,ga,g1,sb,hc,af,bc,sg,fa,ua];refine gw fa _ ⟨?_,?_,?_,?_,?_,?_,v,?_,hv,.inr ⟨?_,eo⟩⟩
      all_goals simp[f1,n1,f3,f14,f15,n3,f4]
    ·simp [QG,-J,-y4,-y3,y0,-kD,-MC,zD,xD,wD,eD,f1,n1,f3,f14,f15,f16,n3,ga,g1,sb,hc,af,bc,sg,fa,ua,js];refine gw fa _ ⟨?_,?_,?_,?_,?_,?_,upd (FP S) v i,?_,wj,.inr ⟨?_,?_⟩⟩
     case refine_9 =>
      rcases tb with⟨f4,rfl,hj⟩|⟨f4,eo⟩<;>omega
     all_goals simp[f1,n1,f3,f14,f15,n3]
   ·have ga:¬ (i:Int)<N:=by omega
    have ci:i=N:=by omega
    simp[QG,-J,-y4,-y3,y0,-kD,-MC,zD,xD,wD,eD,f15,f16,ga];refine jc _ _ ⟨rfl,by simp[f1],by simp[n1],by simp[f3],v,by simp[n3],hv,?_⟩;rcases tb with⟨f4,rfl,hj⟩|⟨f4,eo⟩
    ·exact .inl ⟨by simp[f4],ci▸hj⟩
    ·exact .inr ⟨by simp[f4],eo⟩
  ·refine ⟨?_,?_,?_,?_,?_,?_,v0,?_,gz,.inl ⟨?_,rfl,fun j hj=>absurd hj (by omega)⟩⟩
   all_goals simp[e1,m1,e3,m3]
  ·obtain ⟨rfl,e1,m1,e3,v,m3,hv,tb⟩:=h;simp [-J,-y4,-y3,y0,-kD,-MC,zD,xD,wD,eD];refine ih hrN _ ⟨by simp [e1],by simp [m1],by simp [e3],v,by simp [m3],hv,?_⟩;rcases tb with ⟨e4,hf⟩ | ⟨e4,hs⟩
   ·exact .inr ⟨by simp[e4],hf⟩
   ·exact .inl ⟨by simp[e4],by omega⟩
 ·refine ⟨?_,?_,?_,fun _=>0,?_,KS.zero hG,.inl ⟨?_,?_⟩⟩
  case refine_4=>simp[vec0']
  case refine_6=>exact W6 _ N (fun j _=>⟨Int.le_refl _,by show(0:Int)<=2;decide⟩)
  all_goals simp
 ·obtain⟨rfl,e3,v,m3,hv,hf⟩:=h;have sb:=gY N v;rw[nO (F5 hv hf hw fw)]at sb;rw[nO (F5 hv hf hw fw)]at m3;simp[-J,-y4,-y3,y0,-kD,-MC,zD,xD,wD,eD,e3,m3,sb]
theorem Cq (s:dR)(h0:mH s.types=0){w:fH}(hw:KS s.types.length (FR s.types) w)(fw:∀j,j<s.types.length->FR s.types j w=w j):IC 98 [.agg (pD s)] (.sl false (FE s.types.length w)):=by
 have hW:=DN h0;have hN:=JN h0;have hG:=G6 hW;have wq:∀x∈s.types,1<=x.kind/\x.kind<=9:=fun x hx=>by
  obtain⟨j,hj,rfl⟩:=yO hx;exact dH (EP (HN h0 j hj)).1
 clear h0;simp only[pD];generalize s.types=S at *
 generalize s.nl=b at *
 obtain⟨N,ak⟩:∃N,N=S.length:=⟨_,rfl⟩;rw[<- ak]at hW hN hG hw fw ⊢;have hb8:N*8<=140737488355328:=by omega
 have ju:N<=140737488355328:=by omega
 have aq:IntKind.i64.wrap (2*(N:Int))=2*N:=IntWalk.i64_in _ (by omega);refine mC (c:=pL) rfl rfl ?_;simp[pL,-J,-y4,-y3,y0,-kD,-MC,zD,xD,wD,eD,<- ak,hb8,ju];refine ZC (2*N+1) (fun r σ=>(σ.env 1).v=.ptr 1 1 0/\σ.mem 1 1=some [⟨.sl b (S.map QC),.no⟩]/\(σ.env 3).v=.ref 9 2 1 0 N N/\(σ.env 4).v=.int .i64 r/\∃v,σ.mem 9 2=some (HC (FE N v))/\KS N (FR S) v/\((r:Int)<=bO N v\/∀j,j<N->FR S j v=v j))
  (fun e σ=>e=.exit 0/\(σ.env 3).v=.ref 9 2 1 0 N N/\∃v,σ.mem 9 2=some (HC (FE N v))/\KS N (FR S) v/\∀j,j<N->FR S j v=v j) (fun r hr σ k h ih hk=>?_) _ _ ?_ (fun e σ h=>?_)
 ·obtain ⟨e1,m1,e3,e4,v0,m3,gz,tb⟩:=h;refine EC ?_;by_cases hrN:r<2 * N + 1
  case neg =>
   have ga:¬(r:Int)<=2*N:=by omega
   simp[sL,-J,-y4,-y3,y0,-kD,-MC,zD,xD,wD,eD,e1,m1,e4,<- ak,aq,ga];refine hk _ _ ⟨rfl,by simp[e3],v0,by simp[m3],gz,?_⟩;rcases tb with h|h
   ·have:=sY v0 N gz.kB;omega
   ·exact h
  have ga:(r:Int)<=2*N:=by omega
  have hwr:=cD (i:=r);simp[sL,-J,-y4,-y3,y0,-kD,-MC,zD,xD,wD,eD,e1,m1,e4,<- ak,aq,ga];refine ZC N (fun i σ=>(σ.env 1).v=.ptr 1 1 0/\σ.mem 1 1=some [⟨.sl b (S.map QC),.no⟩]/\(σ.env 3).v=.ref 9 2 1 0 N N/\(σ.env 4).v=.int .i64 r/\(σ.env 5).v=.int .i64 i/\∃v,σ.mem 9 2=some (HC (FE N v))/\KS N (FR S) v/\((∀j,j<N->FR S j v0=v0 j)->v=v0)/\(v=v0/\(∀j,j<i->FR S j v=v j)\/bO N v0+1<=bO N v))
   (fun e σ=>e=.exit 2/\(σ.env 1).v=.ptr 1 1 0/\σ.mem 1 1=some [⟨.sl b (S.map QC),.no⟩]/\(σ.env 3).v=.ref 9 2 1 0 N N/\(σ.env 4).v=.int .i64 r/\∃v,σ.mem 9 2=some (HC (FE N v))/\KS N (FR S) v/\((∀j,j<N->FR S j v=v j)\/(r:Int)+1<=bO N v)) (fun i hi σ k' h gw jc=>?_) _ _ ?_ (fun e σ h=>?_)
  ·obtain ⟨f1,n1,f3,f4,f5,v,n3,hv,gj,zr⟩:=h;refine EC ?_;by_cases fa:i<N
   ·have ga:(i:Int)<N:=by omega
    have dj:i<S.length:=by omega
    have g1:(S.map QC)[i]?=some (QC S[i]):=by simp[dj]
    have sg:=cD (i:=i);have hc:=cr_ev hv.kB (hW _ (y8 dj)) (wq _ (y8 dj));have hF:FR S i v=OI S[i] v:=by unfold FR;rw[y7 dj]
    generalize S[i]=x at *
    simp only[QC]at g1;simp only[IC,QC]at hc;have sb:=gY N v;have wr:=hv.post i fa;have wj:=KS.upd hG hv fa;have jp:=tS (FR S) v i N fa;have js:=J4 N v (upd (FR S) v i) fa (x:=FR S i v) (by simp[upd]) (fun j hj=>by simp[upd,hj]);have ff:FR S i v=v i->upd (FR S) v i=v:=Hl;rw[hF]at wr jp js;have hltS':(i:Int)<S.length:=by omega
    simp[aL,-J,-y4,-y3,y0,-kD,-MC,zD,xD,wD,eD,f1,n1,f3,f4,f5,n3,hltS',g1,sb,hc,sg,fa,js];refine gw fa _ ⟨?_,?_,?_,?_,?_,upd (FR S) v i,?_,wj,?_,?_⟩
    case refine_7 =>
     intro mb;have e:=gj mb;subst e;exact ff (mb i fa)
    case refine_8 =>
     by_cases ua:FR S i v=v i
     ·rw [ff ua];rcases zr with ⟨rfl,hj⟩ | hs
      ·refine .inl ⟨rfl,fun j wo=>?_⟩;rcases Nat.lt_succ_iff_lt_or_eq.1 wo with h | rfl
       ·exact hj j h
       ·exact ua
      ·exact .inr hs
     ·right;rw[hF]at ua;rcases zr with⟨rfl,hj⟩|hs<;>omega
    all_goals simp[f1,n1,f3,f4]
   ·have ga:¬ (i:Int)<N:=by omega
    have ci:i=N:=by omega
    simp[aL,-J,-y4,-y3,y0,-kD,-MC,zD,xD,wD,eD,f1,n1,f5,<- ak,ga];refine jc _ _ ⟨rfl,by simp[f1],by simp[n1],by simp[f3],by simp[f4],v,by simp[n3],hv,?_⟩;rcases tb with hr|mb
    ·rcases zr with ⟨rfl,hj⟩ | hs
     ·exact .inl (ci▸hj)
     ·exact .inr (by omega)
    ·rw[gj mb];exact .inl mb
  ·refine ⟨?_,?_,?_,?_,?_,v0,?_,gz,fun _=>rfl,.inl ⟨rfl,fun j hj=>absurd hj (by omega)⟩⟩
   all_goals simp[e1,m1,e3,e4,m3]
  ·obtain ⟨rfl,f1,n1,f3,f4,v,n3,hv,zr⟩:=h;simp [-J,-y4,-y3,y0,-kD,-MC,zD,xD,wD,eD,f4,hwr];refine ih hrN _ ⟨by simp [f1],by simp [n1],by simp [f3],by simp,v,by simp [n3],hv,?_⟩;rcases zr with h | h
   ·exact .inr h
   ·exact .inl (by omega)
 ·refine ⟨?_,?_,?_,?_,fun _=>0,?_,KS.zero hG,.inl ?_⟩
  case refine_5=>simp[vec0']
  case refine_6=>exact W6 _ N (fun j _=>⟨Int.le_refl _,by show(0:Int)<=2;decide⟩)
  all_goals simp
 ·obtain⟨rfl,e3,v,m3,hv,hf⟩:=h;have sb:=gY N v;rw[nO (F5 hv hf hw fw)]at sb;rw[nO (F5 hv hf hw fw)]at m3;simp[-J,-y4,-y3,y0,-kD,-MC,zD,xD,wD,eD,e3,m3,sb]
theorem Qu (s:dR)(h0:mH s.types=0):∃w:fH,KS s.types.length (FP s.types) w/\(∀j,j<s.types.length->FP s.types j w=w j)/\IC 135 [.agg (pD s)] (.sl false (FE s.types.length w))/\IC 98 [.agg (pD s)] (.sl false (FE s.types.length w)):=by
 have hW:=DN h0;obtain⟨v,hv,fv⟩:=lfp (F6 hW);obtain⟨w,hw,fw⟩:=lfp (G6 hW);have h1:=Uu s h0 hv fv;have h2:=Cq s h0 hw fw;refine⟨v,hv,fv,h1,?_⟩;rw[nO (FPR hW ?_ hv fv hw fw)]
 ·exact h2
 ·intro x hx h8 u hu;obtain ⟨j,hj,rfl⟩:=yO hx;have he:=HN h0 j hj;obtain ⟨hg,ho⟩:=EP he;obtain ⟨k0,k1⟩:=P5 h8 ho;have fa:s.types[j].key.toNat<s.types.length:=by omega
  have wb:1<=s.types[s.types[j].key.toNat].kind/\s.types[s.types[j].key.toNat].kind<=4:=by
   have hka:OR s.types s.types[j].key=s.types[s.types[j].key.toNat].kind:=by unfold OR;rw[y7 fa]
   rw[<- hka];refine Classical.byContradiction fun hn=>?_
   unfold mF at he;rw[if_neg (by simp[hg])]at he;by_cases h2:s.types[j].named=true/\s.types[j].name∈(s.types.take j).map BC.name
   ·rw[if_pos h2]at he;cases he
   ·rw[if_neg h2,if_neg (by simp[ho]),if_pos ⟨h8,hn⟩]at he;cases he
  have hgk:=(EP (HN h0 _ fa)).1;unfold FP;rw[y7 fa];generalize s.types[s.types[j].key.toNat]=y at *
  have hy:y.kind=1\/y.kind=2\/y.kind=3\/y.kind=4:=by omega
  simp only;rcases hy with e|e|e|e
  ·simp[sI,e]
  ·simp[sI,e];split<;>decide
  ·simp[sI,e];split<;>decide
  ·have:0<y.tA.length:=by
    unfold IE wN jP at hgk;simp[e]at hgk;exact hgk.1.2.1
   simp[sI,e];omega
theorem u7 (s:dR)(h0:mH s.types=0):∃w:fH,dO s.types.length w/\IC 135 [.agg (pD s)] (.sl false (FE s.types.length w))/\IC 98 [.agg (pD s)] (.sl false (FE s.types.length w)):=by
 obtain⟨w,hw,_,h⟩:=Qu s h0;exact⟨w,hw.kB,h⟩
def XR (w:fH)(n:Nat):List (List AV):=(List.range n).map fun j=>[AV.bool (decide (0<w j))]
theorem nS (w:fH)(n:Nat):XR w (n+1)=XR w n++[[AV.bool (decide (0<w n))]]:=by simp[XR,y0]
theorem U8 (w:fH)(n:Nat):PD 1 (XR w n)=true:=rG _ _ _ fun _=>rfl
theorem pV (w:fH)(n:Nat):(XR w n).length=n:=by simp[XR]
theorem I8 (w:fH){n i:Nat}(h:i<n):(XR w n)[i]?=some [.bool (decide (0<w i))]:=by simp[XR,h]
noncomputable def Ku (S:List BC)(w:fH):AV:=if aF S=0 then .sA [.sl (decide (S.length=0)) (XR w S.length),.int .i64 0]else .sA [.sl true [],.int .i64 (aF S)]
theorem eM {S:List BC}(h:aF S=0):mH S=0:=by
 unfold aF at h;by_cases h0:mH S=0
 ·exact h0
 ·rw[if_neg h0]at h;exact absurd h h0
theorem Zu (s:dR)(hs:s.fine)(ub:s.JB){w:fH}(hw:aF s.types=0->dO s.types.length w/\IC 135 [.agg (pD s)] (.sl false (FE s.types.length w))):IC 76 [.agg (pD s)] (Ku s.types w):=by
 have hr:=F8 s hs ub;refine mC (c:=OH) rfl rfl ?_;unfold Ku;simp only[IC,pD]at hr hw;by_cases h0:aF s.types=0
 case neg =>
  rw[if_neg h0];simp[OH,-J,-y4,-y3,y0,pD,hr,h0]
 have hN:=JN (eM h0);obtain⟨uy,hc⟩:=hw h0;rw[if_pos h0];rw[h0]at hr;simp only[pD];generalize s.types=S at *
 generalize s.nl=b at *
 obtain⟨N,ak⟩:∃N,N=S.length:=⟨_,rfl⟩;rw[<- ak]at hN uy hc ⊢;have ls:=cV N w;simp[OH,-J,-y4,-y3,y0,pD,hr,hc,ls];refine ZC N (fun i σ=>(σ.env 14).v=.sl false (FE N w)/\(σ.env 15).v=.int .i64 N/\(σ.env 16).v=.int .i64 i/\(σ.env 5).v=.sl (decide (i=0)) (XR w i)/\(i=0/\(σ.env 5).a=.ex\/¬i=0/\(σ.env 5).a=.own 24 4))
  (fun e σ=>e=.exit 0/\(σ.env 5).v=.sl (decide (N=0)) (XR w N)) (fun i hi σ k h ih hk=>?_) _ _ ?_ (fun e σ h=>?_)
 ·obtain ⟨mc,jd,lf,e5,an⟩:=h;refine EC ?_;by_cases fa:i<N
  ·have ga:(i:Int)<N:=by omega
   have g1:(FE N w)[i]?=some [.int .i64 (w i)]:=by have:=BG w (t:=(i:Int)) (N:=N) (by omega);simpa using this
   have xj:=cD (i:=i);have q:=U8 w i;have ql:=pV w i;have ta:aE 1 (i+1)=true:=by rw[UD];omega
   rcases an with⟨a0,a5⟩|⟨a0,a5⟩
   ·simp[QH,-J,-y4,-y3,y0,mc,jd,lf,e5,a5,ga,g1,q,ql,xj,ta];refine ih fa _ ⟨?_,?_,?_,?_,?_⟩<;>simp[mc,jd,nS,An.strip]
   ·simp[QH,-J,-y4,-y3,y0,mc,jd,lf,e5,a0,a5,ga,g1,q,ql,xj,ta];refine ih fa _ ⟨?_,?_,?_,?_,?_⟩<;>simp[mc,jd,nS,An.strip]
  ·have ga:¬ (i:Int)<N:=by omega
   have ci:i=N:=by omega
   simp[QH,-J,-y4,-y3,y0,jd,lf,ga];exact hk _ _ ⟨rfl,by rw[<- ci];simp[e5]⟩
 ·simp[XR]
 ·obtain⟨rfl,e5⟩:=h;simp[-J,-y4,-y3,y0,e5]
theorem Nq (s:dR)(hs:s.fine)(ub:s.JB){w:fH}(hw:aF s.types=0->dO s.types.length w/\IC 98 [.agg (pD s)] (.sl false (FE s.types.length w))):IC 57 [.agg (pD s)] (Ku s.types w):=by
 have hr:=E4 s hs ub;refine mC (c:=rJ) rfl rfl ?_;unfold Ku;simp only[IC,pD]at hr hw;by_cases h0:aF s.types=0
 case neg =>
  rw[if_neg h0];simp[rJ,-J,-y4,-y3,y0,pD,hr,h0]
 have hN:=JN (eM h0);obtain⟨uy,hc⟩:=hw h0;rw[if_pos h0];rw[h0]at hr;simp only[pD];generalize s.types=S at *
 generalize s.nl=b at *
 obtain⟨N,ak⟩:∃N,N=S.length:=⟨_,rfl⟩;rw[<- ak]at hN uy hc ⊢;have ls:=cV N w;simp[rJ,-J,-y4,-y3,y0,pD,hr,hc];refine ZC N (fun i σ=>(σ.env 5).v=.sl false (FE N w)/\(σ.env 7).v=.int .i64 i/\(σ.env 6).v=.sl (decide (i=0)) (XR w i)/\(i=0/\(σ.env 6).a=.ex\/¬i=0/\(σ.env 6).a=.own 28 4))
  (fun e σ=>e=.exit 0/\(σ.env 6).v=.sl (decide (N=0)) (XR w N)) (fun i hi σ k h ih hk=>?_) _ _ ?_ (fun e σ h=>?_)
 ·obtain ⟨e5,e7,e6,an⟩:=h;refine EC ?_;by_cases fa:i<N
  ·have ga:(i:Int)<N:=by omega
   have g1:(FE N w)[i]?=some [.int .i64 (w i)]:=by have:=BG w (t:=(i:Int)) (N:=N) (by omega);simpa using this
   have xj:=cD (i:=i);have q:=U8 w i;have ql:=pV w i;have ta:aE 1 (i+1)=true:=by rw[UD];omega
   rcases an with⟨a0,a5⟩|⟨a0,a5⟩
   ·simp[JI,-J,-y4,-y3,y0,e5,e7,e6,a5,ga,ls,g1,q,ql,xj,ta];refine ih fa _ ⟨?_,?_,?_,?_⟩<;>simp[e5,nS,An.strip]
   ·simp[JI,-J,-y4,-y3,y0,e5,e7,e6,a0,a5,ga,ls,g1,q,ql,xj,ta];refine ih fa _ ⟨?_,?_,?_,?_⟩<;>simp[e5,nS,An.strip]
  ·have ga:¬ (i:Int)<N:=by omega
   have ci:i=N:=by omega
   simp[JI,-J,-y4,-y3,y0,e5,e7,ls,ga];exact hk _ _ ⟨rfl,by rw[<- ci];simp[e6]⟩
 ·simp[XR]
 ·obtain⟨rfl,e5⟩:=h;simp[-J,-y4,-y3,y0,e5]
def BK (w:fH):Nat->Bool
 |0=>true
 |n+1=>BK w n&&decide (0<w n)
theorem zY {w:fH}:∀{n:Nat}(i:Nat),i<n->¬0<w i->BK w n=false
 |0,i,h,_=>by omega
 |n+1,i,h,hn=>by
  unfold BK;by_cases e:i=n
  ·subst e;simp[hn]
  ·rw[zY i (by omega) hn];rfl
noncomputable def GW (S:List BC)(w:fH):Int:=if aF S=0 then(if BK w S.length=true then 0 else 10)else aF S
theorem t9 (s:dR)(hs:s.fine)(ub:s.JB){w:fH}(hw:aF s.types=0->dO s.types.length w/\IC 135 [.agg (pD s)] (.sl false (FE s.types.length w))):IC 37 [.agg (pD s)] (.int .i64 (GW s.types w)):=by
 have hf:=Zu s hs ub hw;refine mC (c:=jI) rfl rfl ?_;unfold Ku at hf;unfold GW;simp only[IC,pD]at hf;by_cases h0:aF s.types=0
 case neg =>
  rw[if_neg h0]at hf ⊢;simp[jI,-J,-y4,-y3,y0,pD,hf,h0]
 have hN:=JN (eM h0);clear hw;rw[if_pos h0]at hf ⊢;simp only[pD];generalize s.types=S at *
 generalize s.nl=b at *
 obtain⟨N,ak⟩:∃N,N=S.length:=⟨_,rfl⟩;rw[<- ak]at hN hf ⊢;have ls:=pV w N;simp[jI,-J,-y4,-y3,y0,pD,hf,ls];refine ZC N (fun i σ=>(σ.env 15).v=.sl (decide (N=0)) (XR w N)/\(σ.env 16).v=.int .i64 N/\(σ.env 17).v=.int .i64 i/\BK w i=true)
  (fun e σ=>(e=.exit 0/\BK w N=true)\/(e=.ret/\BK w N=false/\(σ.env 2).v=.int .i64 10)) (fun i hi σ k h ih hk=>?_) _ _ ?_ (fun e σ h=>?_)
 ·obtain ⟨jd,lf,fk,hp⟩:=h;refine EC ?_;by_cases fa:i<N
  ·have ga:(i:Int)<N:=by omega
   have g1:=I8 w fa;have xj:=cD (i:=i);by_cases lb:0<w i
   ·rw[decide_eq_true lb]at g1;simp[uI,-J,-y4,-y3,y0,jd,lf,fk,ga,g1,xj];refine ih fa _ ⟨?_,?_,?_,by rw[BK,hp,decide_eq_true lb];rfl⟩<;>simp[jd,lf]
   ·rw[decide_eq_false lb]at g1;simp[uI,-J,-y4,-y3,y0,jd,lf,fk,ga,g1];exact hk _ _ (.inr ⟨rfl,zY i fa lb,by simp⟩)
  ·have ga:¬ (i:Int)<N:=by omega
   have ci:i=N:=by omega
   simp[uI,-J,-y4,-y3,y0,lf,fk,ga];exact hk _ _ (.inl ⟨rfl,ci▸hp⟩)
 ·simp[BK]
 ·rcases h with ⟨rfl,h1⟩ | ⟨rfl,h1,h2⟩
  ·simp[-J,-y4,-y3,y0,h1]
  ·simp[-J,-y4,-y3,y0,h1,h2]
theorem U4 (s:dR)(hs:s.fine)(ub:s.JB){w:fH}(hw:aF s.types=0->dO s.types.length w/\IC 98 [.agg (pD s)] (.sl false (FE s.types.length w))):IC 25 [.agg (pD s)] (.int .i64 (GW s.types w)):=by
 have hf:=Nq s hs ub hw;refine mC (c:=qK) rfl rfl ?_;unfold Ku at hf;unfold GW;simp only[IC,pD]at hf;by_cases h0:aF s.types=0
 case neg =>
  rw[if_neg h0]at hf ⊢;simp[qK,-J,-y4,-y3,y0,pD,hf,h0]
 have hN:=JN (eM h0);clear hw;rw[if_pos h0]at hf ⊢;simp only[pD];generalize s.types=S at *
 generalize s.nl=b at *
 obtain⟨N,ak⟩:∃N,N=S.length:=⟨_,rfl⟩;rw[<- ak]at hN hf ⊢;have ls:=pV w N;simp[qK,-J,-y4,-y3,y0,pD,hf];refine ZC N (fun i σ=>(σ.env 3).v=.sl (decide (N=0)) (XR w N)/\(σ.env 5).v=.int .i64 i/\BK w i=true)
  (fun e σ=>(e=.exit 0/\BK w N=true)\/(e=.ret/\BK w N=false/\(σ.env 2).v=.int .i64 10)) (fun i hi σ k h ih hk=>?_) _ _ ?_ (fun e σ h=>?_)
 ·obtain ⟨e3,e5,hp⟩:=h;refine EC ?_;by_cases fa:i<N
  ·have ga:(i:Int)<N:=by omega
   have g1:=I8 w fa;have xj:=cD (i:=i);by_cases lb:0<w i
   ·rw[decide_eq_true lb]at g1;simp[EJ,-J,-y4,-y3,y0,e3,e5,ga,ls,g1,xj];refine ih fa _ ⟨?_,?_,by rw[BK,hp,decide_eq_true lb];rfl⟩<;>simp[e3]
   ·rw[decide_eq_false lb]at g1;simp[EJ,-J,-y4,-y3,y0,e3,e5,ga,ls,g1];exact hk _ _ (.inr ⟨rfl,zY i fa lb,by simp⟩)
  ·have ga:¬ (i:Int)<N:=by omega
   have ci:i=N:=by omega
   simp[EJ,-J,-y4,-y3,y0,e3,e5,ls,ga];exact hk _ _ (.inl ⟨rfl,ci▸hp⟩)
 ·simp[BK]
 ·rcases h with ⟨rfl,h1⟩ | ⟨rfl,h1,h2⟩
  ·simp[-J,-y4,-y3,y0,h1]
  ·simp[-J,-y4,-y3,y0,h1,h2]
end Go.Proofs.YthnefkpplcmjdaaGreat
