/- A part of the proof. -/
import Derived.Test.YtbhbeakhognieaaGreatWi
set_option linter.all false
set_option maxRecDepth 100000
set_option maxHeartbeats 8000000
open Option renaming bind_some → J
open List renaming range_succ → y0, map_map → y3, getElem?_eq_getElem → y5, getElem_mem → y8, drop_eq_getElem_cons → yb, drop_eq_nil_of_le → yk, mem_cons_self → yl, mem_cons_of_mem → yo, getElem_of_mem → yq, map_congr_left → yw, replicate → yE, mem_append_left → yS, mem_map_of_mem → Y00
open Int renaming toNat_lt → y4
namespace Go.Proofs.YtbhbeakhognieaaGreat
open Go
section
abbrev RG:=Nat->Int
def QQ (N:Nat) (v:RG):Prop:=∀ j,j<N->0<=v j/\v j<=2
structure O5 (N:Nat) (F:Nat->RG->Int):Prop where
 mono:∀ u v,QQ N u->QQ N v->(∀ j,j<N->u j<=v j)->∀ i,i<N->F i u<=F i v
 rng:∀ u,QQ N u->∀ i,i<N->0<=F i u/\F i u<=2
def upd (F:Nat->RG->Int) (v:RG) (i:Nat):RG:=fun j=>if j=i then F i v else v j
structure OW (N:Nat) (F:Nat->RG->Int) (v:RG):Prop where
 rng:QQ N v
 post:∀ j,j<N->v j<=F j v
 least:∀ m,QQ N m->(∀ j,j<N->F j m<=m j)->∀ j,j<N->v j<=m j
def bO:Nat->RG->Int
 | 0,_=>0
 | n + 1,v=>bO n v + v n
theorem b5 (v:RG):∀ N,QQ N v->bO N v<=2 * N
 | 0,_=>by simp [bO]
 | n + 1,h=>by
  have:=b5 v n fun j hj=>h j (by omega)
  have:=h n (by omega);simp only [bO];omega
theorem sumV_0 (v:RG):∀ N,QQ N v->0<=bO N v
 | 0,_=>by simp [bO]
 | n + 1,h=>by
  have:=sumV_0 v n fun j hj=>h j (by omega)
  have:=h n (by omega);simp only [bO];omega
theorem I3 (v w:RG):∀ N,(∀ j,j<N->v j=w j)->bO N v=bO N w
 | 0,_=>rfl
 | n + 1,h=>by simp only [bO,I3 v w n fun j hj=>h j (by omega),h n (by omega)]
theorem WT (F:Nat->RG->Int) (v:RG) (i:Nat):∀ N,i<N->bO N (upd F v i)=bO N v + (F i v - v i)
 | 0,h=>by omega
 | n + 1,h=>by
  simp only [bO];by_cases e:i=n
  ·subst e;rw [I3 (upd F v i) v i fun j hj=>by simp [upd,show ¬ j=i from by omega]];simp only [upd,if_true];omega
  ·rw [WT F v i n (by omega)];have:upd F v i n=v n:=by simp [upd,show ¬ n=i from fun e'=>e e'.symm]
   omega
section
variable {N:Nat} {F:Nat->RG->Int}
theorem OW.zero (G:O5 N F):OW N F (fun _=>0):=by
 refine ⟨fun j hj=>by omega,fun j hj=>(G.rng _ (fun j hj=>by omega) j hj).1,fun m hm _ j hj=>(hm j hj).1⟩
theorem upd_ge {v:RG} (h:OW N F v) {i:Nat} (hi:i<N) (j:Nat):v j<=upd F v i j:=by
 unfold upd;split
 ·rename_i e; subst e; exact h.post _ hi
 ·exact Int.le_refl _
theorem upd_rng (G:O5 N F) {v:RG} (h:OW N F v) {i:Nat} (hi:i<N):QQ N (upd F v i):=fun j hj=>by
 unfold upd;split
 ·exact G.rng v h.rng i hi
 ·exact h.rng j hj
theorem OW.upd (G:O5 N F) {v:RG} (h:OW N F v) {i:Nat} (hi:i<N):OW N F (upd F v i):=by
 have hr:=upd_rng G h hi;refine ⟨hr,fun j hj=>?_,fun m hm hp j hj=>?_⟩
 ·have hm:=G.mono v (Go.Proofs.YtbhbeakhognieaaGreat.upd F v i) h.rng hr (fun j _=>upd_ge h hi j) j hj;unfold Go.Proofs.YtbhbeakhognieaaGreat.upd at hm ⊢;by_cases e:j=i
  ·subst e; simp only [if_true]; exact hm
  ·simp only [if_neg e]; have:=h.post j hj; omega
 ·unfold Go.Proofs.YtbhbeakhognieaaGreat.upd;split
  ·rename_i e; subst e;have:=G.mono v m h.rng hm (h.least m hm hp) j hj;have:=hp j hj;omega
  ·exact h.least m hm hp j hj
end
end
def wF (N:Nat) (v:RG):List (List AV):=(List.range N).map fun i=>[AV.int .i64 (v i)]
theorem pZ (N:Nat) (v:RG):(wF N v).length=N:=by simp [wF]
theorem UT (N:Nat) (v:RG):iB 1 (wF N v)=true:=KB _ _ _ fun _=>rfl
theorem vecC_free (N:Nat) (v:RG):UD (wF N v)=true:=DK _ _ fun _=>rfl
theorem WJ {N:Nat} (v:RG) {t:Int} (h:0<=t/\t<N):(wF N v)[t.toNat]?=some [.int .i64 (v t.toNat)]:=by
 have:t.toNat<N:=by omega
 simp [wF,this]
theorem vecC_set {N:Nat} (v w:RG) {i:Nat} {x:Int} (hi:w i=x) (h:∀ j,j≠i->w j=v j):(wF N v).set i [.int .i64 x]=wF N w:=by
 apply List.ext_getElem?;intro j;by_cases e:j=i
 ·subst e;by_cases hj:j<N
  ·simp [wF,hj,hi]
  ·simp [wF,hj]
 ·rw [List.getElem?_set_ne (fun e'=>e e'.symm)];by_cases hj:j<N
  ·simp [wF,hj,h j e]
  ·simp [wF,hj]
def jT (v:RG):List zB->Int->Int
 | [],c=>c
 | m :: r,c=>jT v r (min 2 (c * v m.ty.toNat))
def lW (v:RG):List zB->Int->Int
 | [],c=>c
 | m :: r,c=>lW v r (c + v m.ty.toNat)
def x6 (v:RG):List zB->Int->Int
 | [],c=>c
 | m :: r,c=>x6 v r (min 2 (c + v m.ty.toNat))
def HF (x:pA) (v:RG):Int :=
 if x.kind=2 then (if x.low=x.high then 1 else 2)
 else if x.kind=3 then (if x.max=0 then 1 else 2)
 else if x.kind=4 then x.syms.length
 else if x.kind=5 then jT v x.mems 1
 else if x.kind=6 then lW v x.mems 0
 else if x.kind=7 then (if x.max=0\/v x.elem.toNat=0 then 1 else 2)
 else if x.kind=8 then (if x.max=0\/v x.elem.toNat=0\/v x.key.toNat=0 then 1 else 2)
 else if x.kind=9 then 1 + v x.elem.toNat
 else 2
def U6 (x:pA) (v:RG):Int :=
 if x.kind=2 then (if x.low=x.high then 1 else 2)
 else if x.kind=3 then (if x.max=0 then 1 else 2)
 else if x.kind=4 then min 2 x.syms.length
 else if x.kind=5 then jT v x.mems 1
 else if x.kind=6 then x6 v x.mems 0
 else if x.kind=7\/x.kind=8 then (if x.max=0\/v x.elem.toNat=0 then 1 else 2)
 else if x.kind=9 then min 2 (1 + v x.elem.toNat)
 else 2
structure OF (N:Nat) (x:pA):Prop where
 mems:∀ m∈x.mems,0<=m.ty/\m.ty<N
 few:x.mems.length<=16
 elem:7<=x.kind->0<=x.elem/\x.elem<N
 key:x.kind=8->0<=x.key/\x.key<N
theorem QY {N:Nat} {v:RG} (hv:QQ N v):∀ (l:List zB) (c:Int),(∀ m∈l,0<=m.ty/\m.ty<N)->0<=c/\c<=2->0<=jT v l c/\jT v l c<=2
 | [],c,_,hc=>hc
 | m :: r,c,hm,hc=>by
  have h1:=hm m yl;have h2:=hv m.ty.toNat (by omega);refine QY hv r _ (fun m' h=>hm m' (yo _ h)) ?_;have:0<=c * v m.ty.toNat:=Int.mul_nonneg hc.1 h2.1;omega
theorem Q6 {N:Nat} {v:RG} (hv:QQ N v):∀ (l:List zB) (c:Int),(∀ m∈l,0<=m.ty/\m.ty<N)->0<=c/\c<=2->0<=x6 v l c/\x6 v l c<=2
 | [],c,_,hc=>hc
 | m :: r,c,hm,hc=>by
  have h1:=hm m yl;have h2:=hv m.ty.toNat (by omega);refine Q6 hv r _ (fun m' h=>hm m' (yo _ h)) ?_;omega
theorem cap_sum {N:Nat} {v:RG} (hv:QQ N v):∀ (l:List zB) (c:Int),(∀ m∈l,0<=m.ty/\m.ty<N)->x6 v l (min 2 c)=min 2 (lW v l c)
 | [],c,_=>rfl
 | m :: r,c,hm=>by
  have h1:=hm m yl;have h2:=hv m.ty.toNat (by omega);rw [x6,lW,<- cap_sum hv r _ (fun m' h=>hm m' (yo _ h))];congr 1;omega
theorem I7 {a b c d:Int} (h1:0<=a) (h2:a<=b) (h3:0<=c) (h4:c<=d):a * c<=b * d:=Int.mul_le_mul h2 h4 h3 (by omega)
theorem Z2 {N:Nat} {u v:RG} (hu:QQ N u) (hv:QQ N v) (dr:∀ j,j<N->u j<=v j):∀ (l:List zB) (c d:Int),(∀ m∈l,0<=m.ty/\m.ty<N)->0<=c->c<=d->d<=2->jT u l c<=jT v l d
 | [],c,d,_,_,h,_=>h
 | m :: r,c,d,hm,h0,h,hd=>by
  have h1:=hm m yl;have h2:=hu m.ty.toNat (by omega);have h4:=dr m.ty.toNat (by omega);have h5:=I7 h0 h h2.1 h4;have h6:0<=c * u m.ty.toNat:=Int.mul_nonneg h0 h2.1;exact Z2 hu hv dr r _ _ (fun m' h=>hm m' (yo _ h)) (by omega) (by omega) (by omega)
theorem X0 {N:Nat} {u v:RG} (hu:QQ N u) (hv:QQ N v) (dr:∀ j,j<N->u j<=v j):∀ (l:List zB) (c d:Int),(∀ m∈l,0<=m.ty/\m.ty<N)->c<=d->x6 u l c<=x6 v l d
 | [],c,d,_,h=>h
 | m :: r,c,d,hm,h=>by
  have h1:=hm m yl;have h4:=dr m.ty.toNat (by omega);exact X0 hu hv dr r _ _ (fun m' h=>hm m' (yo _ h)) (by omega)
theorem cntR_rng {N:Nat} {v:RG} (hv:QQ N v) {x:pA} (hx:OF N x):0<=U6 x v/\U6 x v<=2:=by
 unfold U6
 repeat' split
 all_goals first
  | omega
  | exact QY hv _ _ hx.mems (by omega)
  | exact Q6 hv _ _ hx.mems (by omega)
  | (have:=hx.elem (by omega); have:=hv x.elem.toNat (by omega); omega)
theorem JW {N:Nat} {v:RG} (hv:QQ N v) {x:pA} (hx:OF N x) (hk:x.kind≠8):min 2 (HF x v)=U6 x v:=by
 unfold U6 HF;by_cases h5:x.kind=5
 ·have:=QY hv x.mems 1 hx.mems (by omega);simp [h5];omega
 ·by_cases h6:x.kind=6
  ·have:=cap_sum hv x.mems 0 hx.mems;simp [h6];exact this.symm
  ·by_cases h7:x.kind=7
   ·simp [h7]; split <;> rfl
   ·simp only [h5,h6,h7,hk,if_false,or_self]
    repeat' split
    all_goals rfl
theorem E9 {v:RG} {x:pA} (hk:x.kind=8):min 2 (HF x v)=if x.max=0\/v x.elem.toNat=0\/v x.key.toNat=0 then 1 else 2:=by
 simp [HF,hk];split <;> rfl
theorem cntR_mono {N:Nat} {u v:RG} (hu:QQ N u) (hv:QQ N v) (dr:∀ j,j<N->u j<=v j) {x:pA} (hx:OF N x):U6 x u<=U6 x v:=by
 have he:7<=x.kind->0<=u x.elem.toNat/\u x.elem.toNat<=v x.elem.toNat:=fun h=>by
  have:=hx.elem h;exact ⟨(hu _ (by omega)).1,dr _ (by omega)⟩
 unfold U6;by_cases h5:x.kind=5
 ·simp [h5]; exact Z2 hu hv dr _ _ _ hx.mems (by omega) (by omega) (by omega)
 ·by_cases h6:x.kind=6
  ·simp [h6]; exact X0 hu hv dr _ _ _ hx.mems (by omega)
  ·by_cases h7:x.kind=7\/x.kind=8
   ·have:=he (by omega);have h2:¬ x.kind=2:=by omega
    have h3:¬ x.kind=3:=by omega
    have h4:¬ x.kind=4:=by omega
    simp only [h2,h3,h4,h5,h6,h7,if_true,if_false];split <;> split <;> omega
   ·by_cases h9:x.kind=9
    ·have:=he (by omega);simp [h9]; omega
    ·simp only [h5,h6,h7,h9,if_false]
     repeat' split
     all_goals omega
def FP (S:List pA) (i:Nat) (v:RG):Int:=match S[i]? with
 | some x=>min 2 (HF x v)
 | none=>0
theorem FP_rng {N:Nat} {v:RG} (hv:QQ N v) {x:pA} (hx:OF N x):0<=min 2 (HF x v)/\min 2 (HF x v)<=2:=by
 by_cases h8:x.kind=8
 ·rw [E9 h8]; split <;> omega
 ·rw [JW hv hx h8]; exact cntR_rng hv hx
theorem I5 {S:List pA} (hS:∀ x∈S,OF S.length x):O5 S.length (FP S):=by
 refine ⟨fun u v hu hv dr i hi=>?_,fun u hu i hi=>?_⟩
 ·unfold FP;rw [y5 hi];have hx:=hS _ (y8 hi);simp only;by_cases h8:S[i].kind=8
  ·rw [E9 h8,E9 h8];have h1:=hx.elem (by omega);have h2:=hx.key h8;have:=hu S[i].elem.toNat (by omega);have:=dr S[i].elem.toNat (by omega);have:=hu S[i].key.toNat (by omega);have:=dr S[i].key.toNat (by omega);split <;> split <;> omega
  ·rw [JW hu hx h8,JW hv hx h8];exact cntR_mono hu hv dr hx
 ·unfold FP;rw [y5 hi];exact FP_rng hu (hS _ (y8 _))

section
variable {N:Nat} {v:RG} (hv:QQ N v) {x:pA} (hx:OF N x)
include N v hv x hx
theorem cp_ev1 (h:x.kind=1):gA 76 [.agg (eA x),.bl (wF N v)] (.int .i64 (HF x v)):=by
 refine rA (c:=WA) rfl rfl ?_;simp [WA,-J,-y4,-y3,y0,eA,h,HF]
theorem cp_ev2 (h:x.kind=2):gA 76 [.agg (eA x),.bl (wF N v)] (.int .i64 (HF x v)):=by
 refine rA (c:=WA) rfl rfl ?_;by_cases c1:x.low=x.high
 ·simp [WA,-J,-y4,-y3,y0,eA,h,HF,c1]
 ·simp [WA,-J,-y4,-y3,y0,eA,h,HF,c1]
theorem cp_ev3 (h:x.kind=3):gA 76 [.agg (eA x),.bl (wF N v)] (.int .i64 (HF x v)):=by
 refine rA (c:=WA) rfl rfl ?_;by_cases c1:x.max=0
 ·simp [WA,-J,-y4,-y3,y0,eA,h,HF,c1]
 ·simp [WA,-J,-y4,-y3,y0,eA,h,HF,c1]
theorem cp_ev4 (h:x.kind=4):gA 76 [.agg (eA x),.bl (wF N v)] (.int .i64 (HF x v)):=by
 refine rA (c:=WA) rfl rfl ?_;simp [WA,-J,-y4,-y3,y0,eA,h,HF]
theorem cp_ev7 (h:x.kind=7):gA 76 [.agg (eA x),.bl (wF N v)] (.int .i64 (HF x v)):=by
 refine rA (c:=WA) rfl rfl ?_;have ac:=hx.elem (by omega);have gel:=WJ v ac;have sf:=ac.1;by_cases c1:x.max=0
 ·simp [WA,-J,-y4,-y3,y0,eA,h,HF,c1]
 ·by_cases c2:v x.elem.toNat=0
  ·simp [WA,-J,-y4,-y3,y0,eA,h,HF,c1,c2,gel,sf]
  ·simp [WA,-J,-y4,-y3,y0,eA,h,HF,c1,c2,gel,sf]
theorem cp_ev8 (h:x.kind=8):gA 76 [.agg (eA x),.bl (wF N v)] (.int .i64 (HF x v)):=by
 refine rA (c:=WA) rfl rfl ?_;have ac:=hx.elem (by omega);have gel:=WJ v ac;have sf:=ac.1;have lg:=hx.key h;have gkl:=WJ v lg;have pm:=lg.1;by_cases c1:x.max=0
 ·simp [WA,-J,-y4,-y3,y0,eA,h,HF,c1]
 ·by_cases c2:v x.elem.toNat=0
  ·simp [WA,-J,-y4,-y3,y0,eA,h,HF,c1,c2,gel,sf]
  ·by_cases c3:v x.key.toNat=0
   ·simp [WA,-J,-y4,-y3,y0,eA,h,HF,c1,c2,c3,gel,sf,gkl,pm]
   ·simp [WA,-J,-y4,-y3,y0,eA,h,HF,c1,c2,c3,gel,sf,gkl,pm]
theorem cp_ev9 (h:x.kind=9):gA 76 [.agg (eA x),.bl (wF N v)] (.int .i64 (HF x v)):=by
 refine rA (c:=WA) rfl rfl ?_;have ac:=hx.elem (by omega);have gel:=WJ v ac;have sf:=ac.1;have ve:=hv x.elem.toNat (by omega);have hw:IntKind.i64.wrap (1 + v x.elem.toNat)=1 + v x.elem.toNat:=IntWalk.i64_in _ (by omega);simp [WA,-J,-y4,-y3,y0,eA,h,HF,gel,sf,hw]
theorem cp_ev5 (h:x.kind=5):gA 76 [.agg (eA x),.bl (wF N v)] (.int .i64 (HF x v)):=by
 refine rA (c:=WA) rfl rfl ?_;simp [WA,-J,-y4,-y3,y0,eA,h,HF];refine RA x.mems.length (fun i s=>(s.env 1).v=.bl (wF N v)/\(s.env 33).v=.sl x.mn (x.mems.map nA)/\(s.env 34).v=.int .i64 x.mems.length/\(s.env 35).v=.int .i64 i/\∃ a,(s.env 5).v=.int .i64 a/\jT v (x.mems.drop i) a=jT v x.mems 1/\0<=a/\a<=2)
  (fun e s=>e=.exit 1/\(s.env 5).v=.int .i64 (jT v x.mems 1)) (fun i hi s k h' ih hk=>?_) _ _ ?_ (fun e s h'=>?_)
 ·obtain ⟨e1,e2,e3,e4,a,ea,hs,hb⟩:=h';refine iA ?_;by_cases fa:i<x.mems.length
  ·have ga:(i:Int)<x.mems.length:=by omega
   have g1:(x.mems.map nA)[i]?=some (nA x.mems[i]):=by simp [fa]
   have hw:=WB (i:=i) (by have:=hx.few; omega);have cw:=hx.mems x.mems[i] (y8 _);rw [yb fa,jT] at hs;generalize x.mems[i]=m at *
   have hvm:=hv m.ty.toNat (by omega);have gm:=WJ v cw;have oj:=cw.1;have bq:=Int.mul_nonneg hb.1 hvm.1;have hm3:a * v m.ty.toNat<=2 * 2:=I7 hb.1 hb.2 hvm.1 hvm.2;have jl:IntKind.i64.wrap (a * v m.ty.toNat)=a * v m.ty.toNat:=IntWalk.i64_in _ (by omega);simp only [nA] at g1;simp [lI,-J,-y4,-y3,y0,e1,e2,e3,e4,ea,ga,g1,gm,oj,hw,jl];refine ih fa _ ⟨?_,?_,?_,?_,min 2 (a * v m.ty.toNat),?_,hs,by omega⟩ <;> simp [e1,e2,e3]
  ·have ga:¬ (i:Int)<x.mems.length:=by omega
   simp [lI,-J,-y4,-y3,y0,e1,e2,e3,e4,ga];rw [yk (by omega),jT] at hs;exact hk _ _ ⟨rfl,by simp [ea,hs]⟩
 ·simp [eA,h]
 ·obtain ⟨rfl,ea⟩:=h';simp [-J,-y4,-y3,y0,ea]
theorem cp_ev6 (h:x.kind=6):gA 76 [.agg (eA x),.bl (wF N v)] (.int .i64 (HF x v)):=by
 refine rA (c:=WA) rfl rfl ?_;simp [WA,-J,-y4,-y3,y0,eA,h,HF];refine RA x.mems.length (fun i s=>(s.env 1).v=.bl (wF N v)/\(s.env 52).v=.sl x.mn (x.mems.map nA)/\(s.env 53).v=.int .i64 x.mems.length/\(s.env 54).v=.int .i64 i/\∃ a,(s.env 8).v=.int .i64 a/\lW v (x.mems.drop i) a=lW v x.mems 0/\0<=a/\a<=2 * i)
  (fun e s=>e=.exit 3/\(s.env 8).v=.int .i64 (lW v x.mems 0)) (fun i hi s k h' ih hk=>?_) _ _ ?_ (fun e s h'=>?_)
 ·obtain ⟨e1,e2,e3,e4,a,ea,hs,hb⟩:=h';refine iA ?_;by_cases fa:i<x.mems.length
  ·have ga:(i:Int)<x.mems.length:=by omega
   have g1:(x.mems.map nA)[i]?=some (nA x.mems[i]):=by simp [fa]
   have hw:=WB (i:=i) (by have:=hx.few; omega);have cw:=hx.mems x.mems[i] (y8 _);rw [yb fa,lW] at hs;generalize x.mems[i]=m at *
   have hvm:=hv m.ty.toNat (by omega);have gm:=WJ v cw;have oj:=cw.1;have jl:IntKind.i64.wrap (a + v m.ty.toNat)=a + v m.ty.toNat:=IntWalk.i64_in _ (by have:=hx.few; omega);simp only [nA] at g1;simp [kI,-J,-y4,-y3,y0,e1,e2,e3,e4,ea,ga,g1,gm,oj,hw,jl];refine ih fa _ ⟨?_,?_,?_,?_,a + v m.ty.toNat,?_,hs,by omega⟩ <;> simp [e1,e2,e3]
  ·have ga:¬ (i:Int)<x.mems.length:=by omega
   simp [kI,-J,-y4,-y3,y0,e1,e2,e3,e4,ga];rw [yk (by omega),lW] at hs;exact hk _ _ ⟨rfl,by simp [ea,hs]⟩
 ·simp [eA,h]
 ·obtain ⟨rfl,ea⟩:=h';simp [-J,-y4,-y3,y0,ea]
theorem cp_ev (hk:1<=x.kind/\x.kind<=9):gA 76 [.agg (eA x),.bl (wF N v)] (.int .i64 (HF x v)):=by
 rcases kinds x.kind with e | e | e | e | e | e | e | e | e | e
 ·exact cp_ev1 hv hx e
 ·exact cp_ev2 hv hx e
 ·exact cp_ev3 hv hx e
 ·exact cp_ev4 hv hx e
 ·exact cp_ev5 hv hx e
 ·exact cp_ev6 hv hx e
 ·exact cp_ev7 hv hx e
 ·exact cp_ev8 hv hx e
 ·exact cp_ev9 hv hx e
 ·exact absurd hk e
end
theorem AS {l:List zB} (h:jB l []=true):l=[]:=by
 cases l with
 | nil=>rfl
 | cons=>simp [jB] at h
theorem good_few {t:pA} (h:dB t=true):t.mems.length<=16:=by
 have hk:=lH h;unfold dB LG pA.left at h;rcases kinds t.kind with e | e | e | e | e | e | e | e | e | e
 all_goals first | exact absurd hk e | skip
 all_goals simp [e,pA.same,tC,IG] at h
 all_goals first
  | (obtain ⟨⟨_,h⟩,_⟩:=h; omega)
  | (have:=AS h.2; rw [this]; simp)
  | (have:=AS h.2.2; rw [this]; simp)
  | omega
theorem dD {S:List pA} (h:valid S=0):∀ x∈S,OF S.length x:=fun x hx=>by
 obtain ⟨j,hj,rfl⟩:=yq hx;obtain ⟨h1,h2⟩:=AK (SI h j hj);generalize S[j]=t at *
 have use:∀ u∈t.usesL,0<=u/\u<S.length:=fun u hu=>by
  have:=List.any_eq_false.1 h2 u hu;simp [sB] at this;omega
 refine ⟨fun m hm=>use _ ?_,good_few h1,fun h7=>use _ ?_,fun h8=>key_in h8 h2⟩
 ·unfold pA.usesL;exact yS _ (yS _ (Y00 hm))
 ·unfold pA.usesL;rw [if_pos h7];exact List.mem_append_right _ (by simp)
theorem GN {S:List pA} (h:valid S=0):S.length<=32:=by
 unfold valid at h;by_cases wv:32<S.length
 ·rw [if_pos wv] at h; cases h
 ·omega
theorem vec0 (N:Nat):(yE N [AV.int .i64 0]).flatten.map (fun v=>(⟨v,.no⟩:wA))=kA (wF N fun _=>0):=by
 unfold kA;congr 1;congr 1;apply List.ext_getElem?;intro i;by_cases h:i<N
 ·simp [wF,h]
 ·simp [wF,h]
theorem vec0' (N:Nat):yE N (⟨AV.int .i64 0,.no⟩:wA)=kA (wF N fun _=>0):=by
 rw [<- vec0];simp
theorem vec_els (N:Nat) (v:RG):zE (kA (wF N v)) 1 0 N=some (wF N v):=by
 have:=mH (UT N v) (vecC_free N v)
 rwa [pZ] at this
theorem vec_load (N:Nat) (v:RG) {i:Nat} (hi:i<N):RB false 1 i (kA (wF N v))=some ⟨.int .i64 (v i),.no⟩:=Q8 (UT N v) (by have:=WJ v (t:=(i:Int)) (N:=N) (by omega); simpa using this) 1
theorem vec_at (N:Nat) (v:RG) {i:Nat} (hi:i<N):(kA (wF N v))[i]?=some ⟨.int .i64 (v i),.no⟩:=x8 (UT N v) (by have:=WJ v (t:=(i:Int)) (N:=N) (by omega); simpa using this)
theorem vec_store (N:Nat) (v w:RG) {i:Nat} (hi:i<N) {x:Int} (hx:w i=x) (h:∀ j,j≠i->w j=v j):UA false 1 i (kA (wF N v)) (.int .i64 x) .no=some (kA (wF N w)):=by
 rw [M4 (UT N v) (by rw [pZ]; exact hi) rfl,vecC_set v w hx h]
theorem lfp {N:Nat} {F:Nat->RG->Int} (G:O5 N F):∃ w,OW N F w/\∀ j,j<N->F j w=w j:=by
 have:∀ (k:Nat) (v:RG),OW N F v->2 * (N:Int) - bO N v<=k->∃ w,OW N F w/\∀ j,j<N->F j w=w j:=by
  intro k
  induction k with
  | zero =>
   intro v hv hk;refine ⟨v,hv,fun j hj=>Classical.byContradiction fun ma=>?_⟩;have h1:=b5 _ N (OW.upd G hv hj).rng;rw [WT F v j N hj] at h1;have:=hv.post j hj;omega
  | succ k ih =>
   intro v hv hk;by_cases h:∀ j,j<N->F j v=v j
   ·exact ⟨v,hv,h⟩
   ·obtain ⟨j,hj⟩:=Classical.not_forall.1 h;obtain ⟨hj,ma⟩:=Classical.not_imp.1 hj;refine ih (upd F v j) (OW.upd G hv hj) ?_;rw [WT F v j N hj];have:=hv.post j hj;omega
 exact this (2 * N) _ (OW.zero G) (by have:=sumV_0 (fun _=>0) N (fun j _=>⟨Int.le_refl _,by show (0:Int)<=2; decide⟩); omega)
theorem lfp_eq {N:Nat} {F:Nat->RG->Int} {v w:RG} (hv:OW N F v) (fv:∀ j,j<N->F j v=v j) (hw:OW N F w) (fw:∀ j,j<N->F j w=w j):∀ j,j<N->v j=w j:=fun j hj=>by
 have h1:=hv.least w hw.rng (fun j hj=>by rw [fw j hj]; exact Int.le_refl _) j hj;have h2:=hw.least v hv.rng (fun j hj=>by rw [fv j hj]; exact Int.le_refl _) j hj;omega
theorem iZ {N:Nat} {v w:RG} (h:∀ j,j<N->v j=w j):wF N v=wF N w:=by
 unfold wF;exact yw fun j hj=>by rw [h j (List.mem_range.1 hj)]
theorem counts_ev (s:FI) (h0:valid s.types=0) {w:RG} (hw:OW s.types.length (FP s.types) w) (fw:∀ j,j<s.types.length->FP s.types j w=w j):gA 42 [.agg (GA s)] (.sl false (wF s.types.length w)):=by
 have hW:=dD h0;have hN:=GN h0;have hG:=I5 hW;have ju:∀ x∈s.types,1<=x.kind/\x.kind<=9:=fun x hx=>by
  obtain ⟨j,hj,rfl⟩:=yq hx;exact lH (AK (SI h0 j hj)).1
 clear h0;simp only [GA];generalize s.types=S at *
 generalize s.nl=b at *
 obtain ⟨N,gw⟩:∃ N,N=S.length:=⟨_,rfl⟩;rw [<- gw] at hW hN hG hw fw ⊢;have oa:ZA 8 N=true:=by rw [xA]; omega
 have kf:(N:Int)=(S.length:Int):=by omega
 refine rA (c:=sH) rfl rfl ?_;have hb8:N * 8<=140737488355328:=by omega
 have hb1:N<=140737488355328:=by omega
 simp [sH,-J,-y4,-y3,y0,-RB,-UA,qC,jC,fB,gB,<- gw,hb8,hb1];refine RA (2 * N + 1) (fun r σ=>(σ.env 1).v=.ptr 1 1 0/\σ.mem 1 1=some [⟨.sl b (S.map eA),.no⟩]/\(σ.env 3).v=.ref 11 2 1 0 N N/\∃ v,σ.mem 11 2=some (kA (wF N v))/\OW N (FP S) v/\((σ.env 4).v=.bool true/\(r:Int)<=bO N v\/(σ.env 4).v=.bool false/\∀ j,j<N->FP S j v=v j))
  (fun e σ=>e=.exit 0/\(σ.env 3).v=.ref 11 2 1 0 N N/\∃ v,σ.mem 11 2=some (kA (wF N v))/\OW N (FP S) v/\∀ j,j<N->FP S j v=v j) (fun r hr σ k h ih hk=>?_) _ _ ?_ (fun e σ h=>?_)
 ·obtain ⟨e1,m1,e3,v0,m3,hv0,lc⟩:=h;refine iA ?_;rcases lc with ⟨e4,hsum⟩ | ⟨e4,hfix⟩
  case inr =>
   simp [IH,-J,-y4,-y3,y0,-RB,-UA,qC,jC,fB,gB,e4];exact hk _ _ ⟨rfl,by simp [e3],v0,by simp [m3],hv0,hfix⟩
  have hrN:r<2 * N + 1:=by
   have:=b5 v0 N hv0.rng;omega
  simp [IH,-J,-y4,-y3,y0,-RB,-UA,qC,jC,fB,gB,e1,m1,e4,<- gw];refine RA N (fun i σ=>(σ.env 1).v=.ptr 1 1 0/\σ.mem 1 1=some [⟨.sl b (S.map eA),.no⟩]/\(σ.env 3).v=.ref 11 2 1 0 N N/\(σ.env 14).v=.sl b (S.map eA)/\(σ.env 15).v=.int .i64 N/\(σ.env 16).v=.int .i64 i/\∃ v,σ.mem 11 2=some (kA (wF N v))/\OW N (FP S) v/\((σ.env 4).v=.bool false/\v=v0/\(∀ j,j<i->FP S j v=v j)\/(σ.env 4).v=.bool true/\bO N v0 + 1<=bO N v))
   (fun e σ=>e=.exit 2/\(σ.env 1).v=.ptr 1 1 0/\σ.mem 1 1=some [⟨.sl b (S.map eA),.no⟩]/\(σ.env 3).v=.ref 11 2 1 0 N N/\∃ v,σ.mem 11 2=some (kA (wF N v))/\OW N (FP S) v/\((σ.env 4).v=.bool false/\(∀ j,j<N->FP S j v=v j)\/(σ.env 4).v=.bool true/\bO N v0 + 1<=bO N v)) (fun i hi σ k' h ih' zc=>?_) _ _ ?_ (fun e σ h=>?_)
  ·obtain ⟨f1,n1,f3,f14,jk,f16,v,n3,hv,lc⟩:=h;refine iA ?_;by_cases fa:i<N
   ·have ga:(i:Int)<N:=by omega
    have bx:i<S.length:=by omega
    have g1:(S.map eA)[i]?=some (eA S[i]):=by simp [bx]
    have zg:=WB (i:=i);have hc:=cp_ev hv.rng (hW _ (y8 bx)) (ju _ (y8 bx));have hF:FP S i v=min 2 (HF S[i] v):=by unfold FP; rw [y5 bx]
    generalize S[i]=x at *
    simp only [eA] at g1;simp only [gA,eA] at hc;have ac:=vec_els N v;have ku:=vec_load N v fa;have ne:=vec_at N v fa;have hpost:=hv.post i fa;have hup:=OW.upd hG hv fa;have hsu:=WT (FP S) v i N fa;have hstv:=vec_store N v (upd (FP S) v i) fa (x:=FP S i v) (by simp [upd]) (fun j hj=>by simp [upd,hj]);rw [hF] at hpost hsu hstv;by_cases ma:min 2 (HF x v)=v i
    ·rcases lc with ⟨f4,rfl,hj⟩ | ⟨f4,jq⟩
     ·simp [cE,-J,-y4,-y3,y0,-RB,-UA,qC,jC,fB,gB,f1,n1,f3,f14,jk,f16,n3,ga,g1,ac,hc,ku,ne,zg,fa,ma];refine ih' fa _ ⟨?_,?_,?_,?_,?_,?_,v,?_,hv,.inl ⟨?_,rfl,fun j hj'=>?_⟩⟩
      case refine_9=>
       rcases Nat.lt_succ_iff_lt_or_eq.1 hj' with h | rfl
       ·exact hj j h
       ·exact hF.trans ma
      all_goals simp [f1,n1,f3,f14,jk,n3,f4]
     ·simp [cE,-J,-y4,-y3,y0,-RB,-UA,qC,jC,fB,gB,f1,n1,f3,f14,jk,f16,n3,ga,g1,ac,hc,ku,ne,zg,fa,ma];refine ih' fa _ ⟨?_,?_,?_,?_,?_,?_,v,?_,hv,.inr ⟨?_,jq⟩⟩
      all_goals simp [f1,n1,f3,f14,jk,n3,f4]
    ·simp [cE,-J,-y4,-y3,y0,-RB,-UA,qC,jC,fB,gB,f1,n1,f3,f14,jk,f16,n3,ga,g1,ac,hc,ku,ne,zg,fa,ma,hstv];refine ih' fa _ ⟨?_,?_,?_,?_,?_,?_,upd (FP S) v i,?_,hup,.inr ⟨?_,?_⟩⟩
     case refine_9 =>
      rcases lc with ⟨f4,rfl,hj⟩ | ⟨f4,jq⟩ <;> omega
     all_goals simp [f1,n1,f3,f14,jk,n3]
   ·have ga:¬ (i:Int)<N:=by omega
    have hiN:i=N:=by omega
    simp [cE,-J,-y4,-y3,y0,-RB,-UA,qC,jC,fB,gB,jk,f16,ga];refine zc _ _ ⟨rfl,by simp [f1],by simp [n1],by simp [f3],v,by simp [n3],hv,?_⟩;rcases lc with ⟨f4,rfl,hj⟩ | ⟨f4,jq⟩
    ·exact .inl ⟨by simp [f4],hiN ▸ hj⟩
    ·exact .inr ⟨by simp [f4],jq⟩
  ·refine ⟨?_,?_,?_,?_,?_,?_,v0,?_,hv0,.inl ⟨?_,rfl,fun j hj=>absurd hj (by omega)⟩⟩
   all_goals simp [e1,m1,e3,m3]
  ·obtain ⟨rfl,e1,m1,e3,v,m3,hv,lc⟩:=h;simp [-J,-y4,-y3,y0,-RB,-UA,qC,jC,fB,gB];refine ih hrN _ ⟨by simp [e1],by simp [m1],by simp [e3],v,by simp [m3],hv,?_⟩;rcases lc with ⟨e4,hf⟩ | ⟨e4,hs⟩
   ·exact .inr ⟨by simp [e4],hf⟩
   ·exact .inl ⟨by simp [e4],by omega⟩
 ·refine ⟨?_,?_,?_,fun _=>0,?_,OW.zero hG,.inl ⟨?_,?_⟩⟩
  case refine_4=>simp [vec0']
  case refine_6=>exact sumV_0 _ N (fun j _=>⟨Int.le_refl _,by show (0:Int)<=2; decide⟩)
  all_goals simp
 ·obtain ⟨rfl,e3,v,m3,hv,hf⟩:=h;have ac:=vec_els N v;rw [iZ (lfp_eq hv hf hw fw)] at ac;rw [iZ (lfp_eq hv hf hw fw)] at m3;simp [-J,-y4,-y3,y0,-RB,-UA,qC,jC,fB,gB,e3,m3,ac]

def ZU (w:RG) (n:Nat):List (List AV):=(List.range n).map fun j=>[AV.bool (decide (0<w j))]
theorem F2 (w:RG) (n:Nat):ZU w (n + 1)=ZU w n++[[AV.bool (decide (0<w n))]]:=by simp [ZU,y0]
theorem posV_els (w:RG) (n:Nat):iB 1 (ZU w n)=true:=KB _ _ _ fun _=>rfl
theorem B7 (w:RG) (n:Nat):(ZU w n).length=n:=by simp [ZU]
theorem posV_get (w:RG) {n i:Nat} (h:i<n):(ZU w n)[i]?=some [.bool (decide (0<w i))]:=by simp [ZU,h]
noncomputable def finA (S:List pA) (w:RG):AV:=if bF S=0 then .tup [.sl (decide (S.length=0)) (ZU w S.length),.int .i64 0] else .tup [.sl true [],.int .i64 (bF S)]
theorem WN {S:List pA} (h:bF S=0):valid S=0:=by
 unfold bF at h;by_cases h0:valid S=0
 ·exact h0
 ·rw [if_neg h0] at h; exact absurd h h0
theorem finite_ev (s:FI) (hs:s.fine) (de:s.d64) {w:RG} (hw:bF s.types=0->QQ s.types.length w/\gA 42 [.agg (GA s)] (.sl false (wF s.types.length w))):gA 10 [.agg (GA s)] (finA s.types w):=by
 have hr:=right_ev s hs de;refine rA (c:=PF) rfl rfl ?_;unfold finA;simp only [gA,GA] at hr hw;by_cases h0:bF s.types=0
 case neg =>
  rw [if_neg h0];simp [PF,-J,-y4,-y3,y0,GA,hr,h0]
 have hN:=GN (WN h0);obtain ⟨hrng,hc⟩:=hw h0;rw [if_pos h0];rw [h0] at hr;simp only [GA];generalize s.types=S at *
 generalize s.nl=b at *
 obtain ⟨N,gw⟩:∃ N,N=S.length:=⟨_,rfl⟩;rw [<- gw] at hN hrng hc ⊢;have js:=pZ N w;simp [PF,-J,-y4,-y3,y0,GA,hr,hc,js];refine RA N (fun i σ=>(σ.env 14).v=.sl false (wF N w)/\(σ.env 15).v=.int .i64 N/\(σ.env 16).v=.int .i64 i/\(σ.env 5).v=.sl (decide (i=0)) (ZU w i)/\(i=0/\(σ.env 5).a=.ex\/¬ i=0/\(σ.env 5).a=.own 24 4))
  (fun e σ=>e=.exit 0/\(σ.env 5).v=.sl (decide (N=0)) (ZU w N)) (fun i hi σ k h ih hk=>?_) _ _ ?_ (fun e σ h=>?_)
 ·obtain ⟨jc,df,af,e5,an⟩:=h;refine iA ?_;by_cases fa:i<N
  ·have ga:(i:Int)<N:=by omega
   have g1:(wF N w)[i]?=some [.int .i64 (w i)]:=by have:=WJ w (t:=(i:Int)) (N:=N) (by omega); simpa using this
   have ji:=WB (i:=i);have q:=posV_els w i;have ql:=B7 w i;have oa:ZA 1 (i + 1)=true:=by rw [xA]; omega
   rcases an with ⟨a0,a5⟩ | ⟨a0,a5⟩
   ·simp [mF,-J,-y4,-y3,y0,jc,df,af,e5,a5,ga,g1,q,ql,ji,oa];refine ih fa _ ⟨?_,?_,?_,?_,?_⟩ <;> simp [jc,df,F2,An.strip]
   ·simp [mF,-J,-y4,-y3,y0,jc,df,af,e5,a0,a5,ga,g1,q,ql,ji,oa];refine ih fa _ ⟨?_,?_,?_,?_,?_⟩ <;> simp [jc,df,F2,An.strip]
  ·have ga:¬ (i:Int)<N:=by omega
   have hiN:i=N:=by omega
   simp [mF,-J,-y4,-y3,y0,df,af,ga];exact hk _ _ ⟨rfl,by rw [<- hiN]; simp [e5]⟩
 ·simp [ZU]
 ·obtain ⟨rfl,e5⟩:=h;simp [-J,-y4,-y3,y0,e5]
def CL (w:RG):Nat->Bool
 | 0=>true
 | n + 1=>CL w n&&decide (0<w n)
theorem X5 {w:RG}:∀ {n:Nat} (i:Nat),i<n->¬ 0<w i->CL w n=false
 | 0,i,h,_=>by omega
 | n + 1,i,h,hn=>by
  unfold CL;by_cases e:i=n
  ·subst e; simp [hn]
  ·rw [X5 i (by omega) hn]; rfl
noncomputable def l5 (S:List pA) (w:RG):Int:=if bF S=0 then (if CL w S.length=true then 0 else 10) else bF S
theorem sound_ev (s:FI) (hs:s.fine) (de:s.d64) {w:RG} (hw:bF s.types=0->QQ s.types.length w/\gA 42 [.agg (GA s)] (.sl false (wF s.types.length w))):gA 20 [.agg (GA s)] (.int .i64 (l5 s.types w)):=by
 have hf:=finite_ev s hs de hw;refine rA (c:=sG) rfl rfl ?_;unfold finA at hf;unfold l5;simp only [gA,GA] at hf;by_cases h0:bF s.types=0
 case neg =>
  rw [if_neg h0] at hf ⊢;simp [sG,-J,-y4,-y3,y0,GA,hf,h0]
 have hN:=GN (WN h0);clear hw;rw [if_pos h0] at hf ⊢;simp only [GA];generalize s.types=S at *
 generalize s.nl=b at *
 obtain ⟨N,gw⟩:∃ N,N=S.length:=⟨_,rfl⟩;rw [<- gw] at hN hf ⊢;have js:=B7 w N;simp [sG,-J,-y4,-y3,y0,GA,hf,js];refine RA N (fun i σ=>(σ.env 15).v=.sl (decide (N=0)) (ZU w N)/\(σ.env 16).v=.int .i64 N/\(σ.env 17).v=.int .i64 i/\CL w i=true)
  (fun e σ=>(e=.exit 0/\CL w N=true)\/(e=.ret/\CL w N=false/\(σ.env 2).v=.int .i64 10)) (fun i hi σ k h ih hk=>?_) _ _ ?_ (fun e σ h=>?_)
 ·obtain ⟨df,af,ld,hp⟩:=h;refine iA ?_;by_cases fa:i<N
  ·have ga:(i:Int)<N:=by omega
   have g1:=posV_get w fa;have ji:=WB (i:=i);by_cases lb:0<w i
   ·rw [decide_eq_true lb] at g1;simp [NF,-J,-y4,-y3,y0,df,af,ld,ga,g1,ji];refine ih fa _ ⟨?_,?_,?_,by rw [CL,hp,decide_eq_true lb]; rfl⟩ <;> simp [df,af]
   ·rw [decide_eq_false lb] at g1;simp [NF,-J,-y4,-y3,y0,df,af,ld,ga,g1];exact hk _ _ (.inr ⟨rfl,X5 i fa lb,by simp⟩)
  ·have ga:¬ (i:Int)<N:=by omega
   have hiN:i=N:=by omega
   simp [NF,-J,-y4,-y3,y0,af,ld,ga];exact hk _ _ (.inl ⟨rfl,hiN ▸ hp⟩)
 ·simp [CL]
 ·rcases h with ⟨rfl,h1⟩ | ⟨rfl,h1,h2⟩
  ·simp [-J,-y4,-y3,y0,h1]
  ·simp [-J,-y4,-y3,y0,h1,h2]
end Go.Proofs.YtbhbeakhognieaaGreat
