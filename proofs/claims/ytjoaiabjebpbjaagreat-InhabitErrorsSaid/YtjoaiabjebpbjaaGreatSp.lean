/- A part of the proof. -/
import Derived.Test.YtjoaiabjebpbjaaGreatSk
set_option linter.all false
set_option maxRecDepth 100000
set_option maxHeartbeats 8000000
open Option renaming bind_some → V
open List renaming range_succ → J, map_map → y0, getElem?_eq_getElem → y4, getElem_mem → y5, drop_eq_getElem_cons → y9, drop_eq_nil_of_le → ye, mem_cons_of_mem → yh, mem_cons_self → yk
open Int renaming toNat_lt → y3
namespace Go.Proofs.YtjoaiabjebpbjaaGreat
open Go
abbrev xE:Int:=1073741824
def kZ (v:kE):List bB->Int->Int
 | [],a=>a
 | m :: r,a=>kZ v r (if m.has=true then a else max a (v m.ty.toNat + 1))
def KZ (v:kE):List bB->Int->Int
 | [],a=>a
 | m :: r,a=>KZ v r (min a (v m.ty.toNat + 1))
def EV (x:gA) (v:kE):Int:=if x.kind=5 then min (kZ v x.mems 0) xE else if x.kind=6 then min (KZ v x.mems xE) xE else 0
def inB (N:Nat) (v:kE):Prop:=∀ j,j<N->0<=v j/\v j<=xE
theorem N8 {N:Nat} {v:kE} (hv:inB N v):∀ (l:List bB) (a:Int),(∀ m∈l,0<=m.ty/\m.ty<N)->0<=a/\a<=xE + 1->0<=kZ v l a/\kZ v l a<=xE + 1
 | [],a,_,ha=>ha
 | m :: r,a,hm,ha=>by
  have h1:=hm m yk;have h2:=hv m.ty.toNat (by omega);refine N8 hv r _ (fun x hx=>hm x (yh _ hx)) ?_;split
  ·exact ha
  ·omega
theorem A9 {N:Nat} {v:kE} (hv:inB N v):∀ (l:List bB) (a:Int),(∀ m∈l,0<=m.ty/\m.ty<N)->0<=a/\a<=xE->0<=KZ v l a/\KZ v l a<=xE
 | [],a,_,ha=>ha
 | m :: r,a,hm,ha=>by
  have h1:=hm m yk;have h2:=hv m.ty.toNat (by omega);refine A9 hv r _ (fun x hx=>hm x (yh _ hx)) ?_;omega
theorem round_ev {N:Nat} {v:kE} (hv:inB N v) {x:gA} (hx:FC N x):sA 69 [.agg (eA x),.bl (QB N v)] (.int .i64 (EV x v)):=by
 refine wA (c:=mF) rfl rfl ?_;have ik:=hx.few;have ss:xE=1073741824:=rfl;by_cases h5:x.kind=5
 ·simp [mF,-V,-y3,-y0,J,eA,h5,EV];refine bA x.mems.length (fun i s=>(s.env 1).v=.bl (QB N v)/\(s.env 15).v=.sl x.mn (x.mems.map nA)/\(s.env 16).v=.int .i64 x.mems.length/\(s.env 17).v=.int .i64 i/\∃ a,(s.env 5).v=.int .i64 a/\kZ v (x.mems.drop i) a=kZ v x.mems 0/\0<=a/\a<=xE + 1)
   (fun e s=>e=.exit 1/\(s.env 5).v=.int .i64 (kZ v x.mems 0)) (fun i hi s k h ih hk=>?_) _ _ ?_ (fun e s h=>?_)
  ·obtain ⟨e1,bd,je,fi,a,e5,hr,a0,a1⟩:=h;refine uA ?_;by_cases fa:i<x.mems.length
   ·have ga:(i:Int)<x.mems.length:=by omega
    have g1:(x.mems.map nA)[i]?=some (nA x.mems[i]):=by simp [fa]
    have fh:=LA (i:=i);have pt:=hx.mems _ (y5 fa);rw [y9 fa,kZ] at hr;generalize x.mems[i]=m at *
    have gv:=qE v pt;have et:=hv m.ty.toNat (by omega);rw [ss] at et a1;have be:=pt.1;have ri:IntKind.i64.wrap (v m.ty.toNat + 1)=v m.ty.toNat + 1:=IntWalk.i64_in _ (by omega);simp only [nA] at g1;by_cases hh:m.has=true
    ·rw [if_pos hh] at hr;simp [cG,-V,-y3,-y0,J,e1,bd,je,fi,e5,ga,g1,hh,fh];refine ih fa _ ⟨?_,?_,?_,?_,a,?_,hr,a0,by rw [ss]; omega⟩ <;> simp [e1,bd,je,e5]
    ·rw [if_neg hh] at hr;have hh':m.has=false:=by simpa using hh
     simp [cG,-V,-y3,-y0,J,e1,bd,je,fi,e5,ga,g1,hh',fh,gv,be,ri];refine ih fa _ ⟨?_,?_,?_,?_,_,?_,hr,by omega,by rw [ss]; omega⟩ <;> simp [e1,bd,je]
   ·have ga:¬ (i:Int)<x.mems.length:=by omega
    simp [cG,-V,-y3,-y0,J,je,fi,ga];refine hk _ _ ⟨rfl,?_⟩;rw [ye (by omega),kZ] at hr;simp [e5,hr]
  ·exact ⟨by simp,by simp,by simp,by simp,0,by simp,rfl,by omega,by rw [ss]; omega⟩
  ·obtain ⟨rfl,e5⟩:=h;simp [-V,-y3,-y0,J,e5]
 by_cases h6:x.kind=6
 ·simp [mF,-V,-y3,-y0,J,eA,h6,EV];refine bA x.mems.length (fun i s=>(s.env 1).v=.bl (QB N v)/\(s.env 36).v=.sl x.mn (x.mems.map nA)/\(s.env 37).v=.int .i64 x.mems.length/\(s.env 38).v=.int .i64 i/\∃ a,(s.env 5).v=.int .i64 a/\KZ v (x.mems.drop i) a=KZ v x.mems xE/\0<=a/\a<=xE)
   (fun e s=>e=.exit 3/\(s.env 5).v=.int .i64 (KZ v x.mems xE)) (fun i hi s k h ih hk=>?_) _ _ ?_ (fun e s h=>?_)
  ·obtain ⟨e1,bd,je,fi,a,e5,hr,a0,a1⟩:=h;refine uA ?_;by_cases fa:i<x.mems.length
   ·have ga:(i:Int)<x.mems.length:=by omega
    have g1:(x.mems.map nA)[i]?=some (nA x.mems[i]):=by simp [fa]
    have fh:=LA (i:=i);have pt:=hx.mems _ (y5 fa);rw [y9 fa,KZ] at hr;generalize x.mems[i]=m at *
    have gv:=qE v pt;have et:=hv m.ty.toNat (by omega);rw [ss] at et a1;have be:=pt.1;have ri:IntKind.i64.wrap (v m.ty.toNat + 1)=v m.ty.toNat + 1:=IntWalk.i64_in _ (by omega);simp only [nA] at g1;simp [LI,-V,-y3,-y0,J,e1,bd,je,fi,e5,ga,g1,fh,gv,be,ri];refine ih fa _ ⟨?_,?_,?_,?_,_,?_,hr,by omega,by rw [ss]; omega⟩ <;> simp [e1,bd,je]
   ·have ga:¬ (i:Int)<x.mems.length:=by omega
    simp [LI,-V,-y3,-y0,J,je,fi,ga];refine hk _ _ ⟨rfl,?_⟩;rw [ye (by omega),KZ] at hr;simp [e5,hr]
  ·exact ⟨by simp,by simp,by simp,by simp,xE,by simp,rfl,by rw [ss]; omega,by rw [ss]; omega⟩
  ·obtain ⟨rfl,e5⟩:=h;simp [-V,-y3,-y0,J,e5]
 ·simp [mF,-V,-y3,-y0,J,eA,h5,h6,EV];decide
def fX (S:List gA) (i:Nat) (v:kE):Int:=match S[i]? with
 | some x=>EV x v
 | none=>0
def ON (x:Int):Int:=if x=xE then -1 else x
theorem L3 {N:Nat} {u v:kE} (h:∀ j,j<N->u j<=v j):∀ (l:List bB) (a b:Int),(∀ m∈l,0<=m.ty/\m.ty<N)->a<=b->kZ u l a<=kZ v l b
 | [],a,b,_,ff=>ff
 | m :: r,a,b,hm,ff=>by
  have h1:=hm m yk;have h2:=h m.ty.toNat (by omega);refine L3 h r _ _ (fun x hx=>hm x (yh _ hx)) ?_;split
  ·exact ff
  ·omega
theorem b4 {N:Nat} {u v:kE} (h:∀ j,j<N->u j<=v j):∀ (l:List bB) (a b:Int),(∀ m∈l,0<=m.ty/\m.ty<N)->a<=b->KZ u l a<=KZ v l b
 | [],a,b,_,ff=>ff
 | m :: r,a,b,hm,ff=>by
  have h1:=hm m yk;have h2:=h m.ty.toNat (by omega);refine b4 h r _ _ (fun x hx=>hm x (yh _ hx)) ?_;omega
theorem rndP_mono {N:Nat} {u v:kE} (h:∀ j,j<N->u j<=v j) {x:gA} (hx:FC N x):EV x u<=EV x v:=by
 unfold EV;split
 ·have:=L3 h x.mems 0 0 hx.mems (Int.le_refl _);omega
 ·split
  ·have:=b4 h x.mems xE xE hx.mems (Int.le_refl _);omega
  ·exact Int.le_refl _
theorem t9 {N:Nat} {v:kE} (hv:inB N v) {x:gA} (hx:FC N x):0<=EV x v/\EV x v<=xE:=by
 have ss:xE=1073741824:=rfl;unfold EV;split
 ·have:=N8 hv x.mems 0 hx.mems (by omega);omega
 ·split
  ·have:=A9 hv x.mems xE hx.mems (by omega);omega
  ·omega
structure dX (S:List gA) (v:kE):Prop where
 rng:inB S.length v
 post:∀ j,j<S.length->fX S j v<=v j
theorem dX.top {S:List gA} (hW:∀ x∈S,FC S.length x):dX S (fun _=>xE):=by
 have hr:inB S.length fun _=>xE:=fun j hj=>⟨by show (0:Int)<=xE; decide,Int.le_refl _⟩
 refine ⟨hr,fun j hj=>?_⟩;unfold fX;rw [y4 hj];exact (t9 hr (hW _ (y5 hj))).2
theorem dX.upd {S:List gA} (hW:∀ x∈S,FC S.length x) {v:kE} (h:dX S v) {i:Nat} (hi:i<S.length):dX S (upd (fX S) v i):=by
 have ub:∀ j,j<S.length->Go.Proofs.YtjoaiabjebpbjaaGreat.upd (fX S) v i j<=v j:=fun j hj=>by
  unfold Go.Proofs.YtjoaiabjebpbjaaGreat.upd;split
  ·rename_i e; subst e; exact h.post _ hi
  ·exact Int.le_refl _
 have hm:∀ j,j<S.length->fX S j (Go.Proofs.YtjoaiabjebpbjaaGreat.upd (fX S) v i)<=fX S j v:=fun j hj=>by
  unfold fX;rw [y4 hj];exact rndP_mono ub (hW _ (y5 hj))
 refine ⟨fun j hj=>?_,fun j hj=>?_⟩
 ·have h1:=ub j hj;have h2:=h.rng j hj;refine ⟨?_,by omega⟩;unfold Go.Proofs.YtjoaiabjebpbjaaGreat.upd;split
  ·unfold fX;rw [y4 hi];exact (t9 h.rng (hW _ (y5 hi))).1
  ·exact h2.1
 ·have h1:=hm j hj;have h2:=h.post j hj;by_cases e:j=i
  ·subst e;have:Go.Proofs.YtjoaiabjebpbjaaGreat.upd (fX S) v j j=fX S j v:=by simp [Go.Proofs.YtjoaiabjebpbjaaGreat.upd]
   omega
  ·have:Go.Proofs.YtjoaiabjebpbjaaGreat.upd (fX S) v i j=v j:=by simp [Go.Proofs.YtjoaiabjebpbjaaGreat.upd,e]
   omega
theorem sumB_le (v:kE):∀ N,inB N v->ZH N v<=1073741824 * N
 | 0,_=>by simp [ZH]
 | n + 1,h=>by
  have h1:=sumB_le v n fun j hj=>h j (by omega)
  have h2:=h n (by omega);have ss:xE=1073741824:=rfl;rw [ss] at h2;simp only [ZH];omega
theorem sumB_0 (v:kE):∀ N,inB N v->0<=ZH N v
 | 0,_=>by simp [ZH]
 | n + 1,h=>by
  have:=sumB_0 v n fun j hj=>h j (by omega)
  have:=h n (by omega);simp only [ZH];omega
def M9 (S:List gA) (e:Ex) (s:aA):Prop:=e=.ret/\∃ t n v,(s.env 2).v=.ref t n 1 0 S.length S.length/\(s.env 3).v=.int .i64 0/\inB S.length v/\(∀ j,j<S.length->fX S j v=v j)/\s.mem t n=some (jA (QB S.length fun j=>ON (v j)))
theorem rounds_run (b:Bool) (S:List gA) (hs:(⟨b,S⟩:PM).fine) (nb:(⟨b,S⟩:PM).d64) (h0:AB S=0) (k:Ex->aA->Option RV) (r:RV) (hk:∀ e s',M9 S e s'->k e s'=some r):WD.code.run (BI kA tA) (aN kA tA) (aA.init [.agg (JA ⟨b,S⟩)] none) k=some r:=by
 have xv:=DT ⟨b,S⟩ hs nb;simp only [sA,JA,h0] at xv;have eo:valid S=0:=by
  unfold AB at h0;by_cases h:valid S=0
  ·exact h
  ·rw [if_neg h] at h0; exact absurd h0 h
 have hW:=pK eo;have hN:=KK eo;have ss:xE=1073741824:=rfl;obtain ⟨N,ug⟩:∃ N,N=S.length:=⟨_,rfl⟩;unfold M9 at hk;rw [<- ug] at hN hk;have hb8:N * 8<=140737488355328:=by omega
 have du:N<=140737488355328:=by omega
 simp [WD,-V,-y3,-y0,J,-SA,-xA,RA,OA,lA,zA,JA,xv,<- ug,hb8,du];refine bA N (fun i σ=>(σ.env 1).v=.ptr 1 1 0/\σ.mem 1 1=some [⟨.sl b (S.map eA),.no⟩]/\(σ.env 5).v=.ref 20 4 1 0 N N/\(σ.env 22).v=.int .i64 N/\(σ.env 23).v=.int .i64 i/\σ.mem 20 4=some (jA (QB N fun j=>if j<i then xE else 0)))
  (fun e σ=>e=.exit 0/\(σ.env 1).v=.ptr 1 1 0/\σ.mem 1 1=some [⟨.sl b (S.map eA),.no⟩]/\(σ.env 5).v=.ref 20 4 1 0 N N/\σ.mem 20 4=some (jA (QB N fun _=>xE))) (fun i hi σ k4 h ih hk4=>?_) _ _ ?_ (fun e σ h=>?_)
 ·obtain ⟨e1,m1,e5,e22,e23,ml⟩:=h;refine uA ?_;by_cases fa:i<N
  ·have ga:(i:Int)<N:=by omega
   have fh:=LA (i:=i);have mb:=cO N (fun j=>if j<i then xE else 0) (fun j=>if j<i + 1 then xE else 0) fa (x:=1073741824) (by simp) (fun j hj=>by simp [show (j<i + 1)=(j<i) from by simp only [eq_iff_iff]; omega]);simp [MH,-V,-y3,-y0,J,-SA,-xA,RA,OA,lA,zA,e5,e22,e23,ga,fa,ml,mb,fh];refine ih fa _ ⟨?_,?_,?_,?_,?_,?_⟩ <;> simp [e1,m1,e5,e22]
  ·have ga:¬ (i:Int)<N:=by omega
   simp [MH,-V,-y3,-y0,J,-SA,-xA,RA,OA,lA,zA,e22,e23,ga];refine hk4 _ _ ⟨rfl,by simp [e1],by simp [m1],by simp [e5],?_⟩;rw [show QB N (fun _=>xE)=QB N (fun j=>if j<i then xE else 0) from mH fun j hj=>by rw [if_pos (by omega)]];simp [ml]
 ·refine ⟨?_,?_,?_,?_,?_,?_⟩
  case refine_6=>simp [vec0']
  all_goals simp
 obtain ⟨rfl,e1,m1,e5,ml⟩:=h;simp [-V,-y3,-y0,J,-SA,-xA,RA,OA,lA,zA];refine bA (1073741824 * N + 1) (fun r σ=>(σ.env 1).v=.ptr 1 1 0/\σ.mem 1 1=some [⟨.sl b (S.map eA),.no⟩]/\(σ.env 5).v=.ref 20 4 1 0 N N/\∃ v,σ.mem 20 4=some (jA (QB N v))/\dX S v/\((σ.env 7).v=.bool true/\ZH N v + r<=1073741824 * N\/(σ.env 7).v=.bool false/\∀ j,j<N->fX S j v=v j))
  (fun e σ=>e=.exit 2/\(σ.env 5).v=.ref 20 4 1 0 N N/\∃ v,σ.mem 20 4=some (jA (QB N v))/\dX S v/\∀ j,j<N->fX S j v=v j) (fun q hq σ k3 h ih hk3=>?_) _ _ ?_ (fun e σ h=>?_)
 ·obtain ⟨e1,m1,e5,v0,ml,eo,mb⟩:=h;refine uA ?_;rcases mb with ⟨e7,hsum⟩ | ⟨e7,hfix⟩
  case inr =>
   simp [NH,-V,-y3,-y0,J,-SA,-xA,RA,OA,lA,zA,e7];exact hk3 _ _ ⟨rfl,by simp [e5],v0,by simp [ml],eo,hfix⟩
  have hqN:q<1073741824 * N + 1:=by
   have:=sumB_0 v0 N (by rw [ug]; exact eo.rng);omega
  simp [NH,-V,-y3,-y0,J,-SA,-xA,RA,OA,lA,zA,e1,m1,e7,<- ug];refine bA N (fun i σ=>(σ.env 1).v=.ptr 1 1 0/\σ.mem 1 1=some [⟨.sl b (S.map eA),.no⟩]/\(σ.env 5).v=.ref 20 4 1 0 N N/\(σ.env 32).v=.sl b (S.map eA)/\(σ.env 33).v=.int .i64 N/\(σ.env 34).v=.int .i64 i/\∃ v,σ.mem 20 4=some (jA (QB N v))/\dX S v/\((σ.env 7).v=.bool false/\v=v0/\(∀ j,j<i->fX S j v=v j)\/(σ.env 7).v=.bool true/\ZH N v + 1<=ZH N v0))
   (fun e σ=>e=.exit 4/\(σ.env 1).v=.ptr 1 1 0/\σ.mem 1 1=some [⟨.sl b (S.map eA),.no⟩]/\(σ.env 5).v=.ref 20 4 1 0 N N/\∃ v,σ.mem 20 4=some (jA (QB N v))/\dX S v/\((σ.env 7).v=.bool false/\(∀ j,j<N->fX S j v=v j)\/(σ.env 7).v=.bool true/\ZH N v + 1<=ZH N v0)) (fun i hi σ k' h dt tc=>?_) _ _ ?_ (fun e σ h=>?_)
  ·obtain ⟨f1,n1,f5,f32,f33,f34,v,n20,hv,mb⟩:=h;refine uA ?_;by_cases fa:i<N
   ·have ga:(i:Int)<N:=by omega
    have zf:i<S.length:=by omega
    have g1:(S.map eA)[i]?=some (eA S[i]):=by simp [zf]
    have fh:=LA (i:=i);have hc:=round_ev hv.rng (hW _ (y5 zf));have hF:fX S i v=EV S[i] v:=by unfold fX; rw [y4 zf]
    generalize S[i]=x at *
    simp only [eA] at g1;simp only [sA,eA,<- ug] at hc;have sc:=KQ N v;have od:=J9 N v fa;have ic:=vec_at N v fa;have um:=hv.post i zf;have gk:=dX.upd hW hv zf;have gq:=zO (fX S) v i N fa;have nn:=cO N v (upd (fX S) v i) fa (x:=fX S i v) (by simp [upd]) (fun j hj=>by simp [upd,hj]);rw [hF] at um gq nn;by_cases ta:EV x v<v i
    ·simp [EE,-V,-y3,-y0,J,-SA,-xA,RA,OA,lA,zA,f1,n1,f5,f32,f33,f34,n20,ga,g1,sc,hc,od,ic,fh,fa,ta,nn];refine dt fa _ ⟨?_,?_,?_,?_,?_,?_,upd (fX S) v i,?_,gk,.inr ⟨?_,?_⟩⟩
     case refine_9 =>
      rcases mb with ⟨f7,rfl,hj⟩ | ⟨f7,ng⟩ <;> omega
     all_goals simp [f1,n1,f5,f32,f33,n20]
    ·rcases mb with ⟨f7,rfl,hj⟩ | ⟨f7,ng⟩
     ·simp [EE,-V,-y3,-y0,J,-SA,-xA,RA,OA,lA,zA,f1,n1,f5,f32,f33,f34,n20,ga,g1,sc,hc,od,ic,fh,fa,ta];refine dt fa _ ⟨?_,?_,?_,?_,?_,?_,v,?_,hv,.inl ⟨?_,rfl,fun j kp=>?_⟩⟩
      case refine_9 =>
       rcases Nat.lt_succ_iff_lt_or_eq.1 kp with h | rfl
       ·exact hj j h
       ·omega
      all_goals simp [f1,n1,f5,f32,f33,n20,f7]
     ·simp [EE,-V,-y3,-y0,J,-SA,-xA,RA,OA,lA,zA,f1,n1,f5,f32,f33,f34,n20,ga,g1,sc,hc,od,ic,fh,fa,ta];refine dt fa _ ⟨?_,?_,?_,?_,?_,?_,v,?_,hv,.inr ⟨?_,ng⟩⟩
      all_goals simp [f1,n1,f5,f32,f33,n20,f7]
   ·have ga:¬ (i:Int)<N:=by omega
    have ji:i=N:=by omega
    simp [EE,-V,-y3,-y0,J,-SA,-xA,RA,OA,lA,zA,f33,f34,ga];refine tc _ _ ⟨rfl,by simp [f1],by simp [n1],by simp [f5],v,by simp [n20],hv,?_⟩;rcases mb with ⟨f7,rfl,hj⟩ | ⟨f7,ng⟩
    ·exact .inl ⟨by simp [f7],ji ▸ hj⟩
    ·exact .inr ⟨by simp [f7],ng⟩
  ·refine ⟨?_,?_,?_,?_,?_,?_,v0,?_,eo,.inl ⟨?_,rfl,fun j hj=>absurd hj (by omega)⟩⟩
   all_goals simp [e1,m1,e5,ml]
  ·obtain ⟨rfl,e1,m1,e5,v,ml,hv,mb⟩:=h;simp [-V,-y3,-y0,J,-SA,-xA,RA,OA,lA,zA];refine ih hqN _ ⟨by simp [e1],by simp [m1],by simp [e5],v,by simp [ml],hv,?_⟩;rcases mb with ⟨e7,hf⟩ | ⟨e7,hs⟩
   ·exact .inr ⟨by simp [e7],hf⟩
   ·exact .inl ⟨by simp [e7],by omega⟩
 ·refine ⟨?_,?_,?_,fun _=>xE,?_,dX.top hW,.inl ⟨?_,?_⟩⟩
  case refine_6 =>
   have:=sumB_le (fun _=>xE) N fun j _=>⟨by show (0:Int)<=xE; decide,Int.le_refl _⟩
   omega
  all_goals simp [e1,m1,e5,ml]
 obtain ⟨rfl,e5,v,ml,hv,hf⟩:=h;simp [-V,-y3,-y0,J,-SA,-xA,RA,OA,lA,zA,e5];refine bA N (fun i σ=>(σ.env 5).v=.ref 20 4 1 0 N N/\(σ.env 54).v=.int .i64 N/\(σ.env 55).v=.int .i64 i/\σ.mem 20 4=some (jA (QB N fun j=>if j<i then ON (v j) else v j)))
  (fun e σ=>e=.exit 6/\(σ.env 5).v=.ref 20 4 1 0 N N/\σ.mem 20 4=some (jA (QB N fun j=>ON (v j)))) (fun i hi σ k1 h ih wc=>?_) _ _ ?_ (fun e σ h=>?_)
 ·obtain ⟨e5,e54,e55,ml⟩:=h;refine uA ?_;by_cases fa:i<N
  ·have ga:(i:Int)<N:=by omega
   have fh:=LA (i:=i);have ic:=vec_at N (fun j=>if j<i then ON (v j) else v j) fa;simp only [Nat.lt_irrefl,if_false] at ic;by_cases hv1:v i=1073741824
   ·have mb:=cO N (fun j=>if j<i then ON (v j) else v j) (fun j=>if j<i + 1 then ON (v j) else v j) fa (x:=-1) (by simp [ON,hv1]) (fun j hj=>by simp [show (j<i + 1)=(j<i) from by simp only [eq_iff_iff]; omega]);simp [ZF,-V,-y3,-y0,J,-SA,-xA,RA,OA,lA,zA,e5,e54,e55,ga,fa,ml,ic,hv1,mb,fh];refine ih fa _ ⟨?_,?_,?_,?_⟩ <;> simp [e5,e54]
   ·have hcg:QB N (fun j=>if j<i + 1 then ON (v j) else v j)=QB N (fun j=>if j<i then ON (v j) else v j):=mH fun j hj=>by
     by_cases e:j=i
     ·subst e; simp [ON,ss,hv1]
     ·simp [show (j<i + 1)=(j<i) from by simp only [eq_iff_iff]; omega]
    simp [ZF,-V,-y3,-y0,J,-SA,-xA,RA,OA,lA,zA,e5,e54,e55,ga,fa,ml,ic,hv1,fh];refine ih fa _ ⟨?_,?_,?_,?_⟩ <;> simp [e5,e54,hcg,ml]
  ·have ga:¬ (i:Int)<N:=by omega
   simp [ZF,-V,-y3,-y0,J,-SA,-xA,RA,OA,lA,zA,e54,e55,ga];refine wc _ _ ⟨rfl,by simp [e5],?_⟩;rw [show QB N (fun j=>ON (v j))=QB N (fun j=>if j<i then ON (v j) else v j) from mH fun j hj=>by rw [if_pos (by omega)]];simp [ml]
 ·refine ⟨?_,?_,?_,?_⟩ <;> simp [e5,ml]
 obtain ⟨rfl,e5,ml⟩:=h;simp [-V,-y3,-y0,J,-SA,-xA,RA,OA,lA,zA,e5];refine hk _ _ ⟨rfl,20,4,v,?_,?_,by rw [ug]; exact hv.rng,hf,?_⟩ <;> simp [ml]
end Go.Proofs.YtjoaiabjebpbjaaGreat
