/- A part of the proof. -/
import Derived.Test.YtbnlmgncbgaepaaGreatTb
import Derived.Deep.Slices
import Derived.Deep.Fields
import Derived.ChangeSame
import Derived.OpenShut
import Derived.Carry
import Derived.ChangeOld
import Derived.SizedLaws
import Derived.Test.YtbnlmgncbgaepaaGreatChecked
import Derived.Lib.Builder
import Derived.Lib.UnsafeStr
import Derived.Shelf.RegionOpenPlain
import Derived.ProofKit
import Derived.JoinedCond
set_option linter.all false
set_option maxRecDepth 100000
set_option maxHeartbeats 8000000
open Option renaming bind_some → V, bind_eq_some_iff → yb, map_eq_some_iff → yj
open List renaming getElem?_eq_getElem → y5, all_eq_true → y6, getElem_mem → y7, drop_eq_getElem_cons → y8, drop_eq_nil_of_le → yc, getElem?_map → ye, getElem?_eq_some_iff → yf, mem_cons → yh, mem_of_getElem? → yl, mem_cons_self → ym, mem_cons_of_mem → yo, mem_append → yp, length_map → yq, map_congr_left → yr, mem_map → yu, length_append → yy, getElem_of_mem → yz, take_of_length_le → yC, flatten_cons → yD, length_take → yF, length_cons → yI, map_append → yM, getElem?_append_right → yR, mem_singleton → yS, mem_append_left → yX
open Bool renaming and_eq_true → y9, false_eq_true → yt
open Nat renaming le_refl → yn, succ_mul → yA, zero_add → yG
namespace Go.Proofs.YtbnlmgncbgaepaaGreat
open Go
section
section
variable {α:Type}
def xB (p:Nat->Prop):Prop:=∃ n,∀ m,n<=m->p m
theorem xB.and {p q:Nat->Prop} (h:xB p) (h':xB q):xB fun m=>p m/\q m:=by
 obtain ⟨n,h⟩:=h;obtain ⟨n',h'⟩:=h';exact ⟨max n n',fun m hm=>⟨h m (by omega),h' m (by omega)⟩⟩
theorem xB.imp {p q:Nat->Prop} (h:xB p) (hi:∀ m,p m->q m):xB q:=by
 obtain ⟨n,h⟩:=h;exact ⟨n,fun m hm=>hi m (h m hm)⟩
theorem xB.now {p:Prop} (h:p):xB fun _=>p:=⟨0,fun _ _=>h⟩
theorem xB.succ {p:Nat->Prop} (h:xB p):xB fun m=>p (m + 1):=by
 obtain ⟨n,h⟩:=h;exact ⟨n,fun m hm=>h (m + 1) (by omega)⟩
theorem xB.pred {p:Nat->Prop} (h:xB fun m=>p (m + 1)):xB p:=by
 obtain ⟨n,h⟩:=h;exact ⟨n + 1,fun m hm=>by have:=h (m - 1) (by omega); simp only at this; rwa [show m - 1 + 1=m from by omega] at this⟩
theorem xB.some {p:Nat->Prop} (h:xB p):∃ m,p m:=by
 obtain ⟨n,h⟩:=h;exact ⟨n,h n (yn _)⟩
theorem A9 {s:pA} {callA:iB} {callB:Nat->iB} (hc:∀ f args S r,callA f args S=some r->xB fun m=>callB m f args S=some r) (k:K) {xe:wA × zD} (h:k.run callA s=some xe):xB fun m=>k.run (callB m) s=some xe:=by
 cases k with
 | call cl f xs =>
  simp only [K.run] at h ⊢;cases hl:bE s cl xs with
  | none=>rw [hl] at h; cases h
  | some vs =>
   rw [hl] at h;simp only [V] at h ⊢;split at h
   ·obtain ⟨r,hr,h⟩:=yb.1 h;exact (hc f vs _ r hr).imp fun m hm=>by rw [hm]; exact h
   ·obtain ⟨r,hr,h⟩:=yb.1 h;exact (hc f vs _ r hr).imp fun m hm=>by rw [hm]; exact h
   ·cases h
 | callf cl f z xs =>
  simp only [K.run] at h ⊢;cases hl:bE s cl xs with
  | none=>rw [hl] at h; cases h
  | some vs =>
   rw [hl] at h;simp only [V] at h ⊢;split at h
   ·obtain ⟨r,hr,h⟩:=yb.1 h;exact (hc f (.undef :: vs) _ r hr).imp fun m hm=>by rw [hm]; exact h
   ·cases h
 | callv cl x xs =>
  simp only [K.run] at h ⊢;split at h
  ·rename_i f cs hx
   try simp only [hx]
   split at h
   ·rename_i vs ws hl hw ho
    try simp only [hl,hw,ho]
    obtain ⟨r,hr,h⟩:=yb.1 h;exact (hc f (vs++ws) _ r hr).imp fun m hm=>by rw [hm]; exact h
   ·cases h
  ·cases h
 | callr cl f xs =>
  simp only [K.run] at h ⊢;split at h
  ·rename_i t n hp
   try simp only [hp]
   split at h
   ·rename_i na;simp only [if_pos na];split at h
    ·rename_i r vs hr hv
     try simp only [hr,hv]
     split at h
     ·rename_i ra;simp only [if_pos ra];obtain ⟨q,hq,h⟩:=yb.1 h;exact (hc f _ _ q hq).imp fun m hm=>by rw [hm]; exact h
     ·cases h
    ·cases h
   ·cases h
  ·cases h
 | _=>exact xB.now h
theorem step_late {s s1:pA} {callA:iB} {callB:Nat->iB} (hc:∀ f args S r,callA f args S=some r->xB fun m=>callB m f args S=some r) (o:WA) (h1:o.step callA s=some s1):xB fun m=>o.step (callB m) s=some s1:=by
 unfold WA.step at h1 ⊢;cases hg:o.guard with
 | none =>
  rw [hg] at h1;simp only at h1 ⊢;obtain ⟨xe,hx,he⟩:=yb.1 h1;exact (A9 hc o.op hx).imp fun m hm=>by rw [hm]; exact he
 | some p =>
  obtain ⟨t,want⟩:=p;rw [hg] at h1;simp only at h1 ⊢;cases hv:(s.env t).v with
  | bool b =>
   rw [hv] at h1;simp only at h1 ⊢;by_cases hb:b=want
   ·rw [if_pos hb] at h1;simp only [if_pos hb];obtain ⟨xe,hx,he⟩:=yb.1 h1;exact (A9 hc o.op hx).imp fun m hm=>by rw [hm]; exact he
   ·rw [if_neg hb] at h1;simp only [if_neg hb];exact xB.now h1
  | tup l=>rw [hv] at h1; cases l with
   | nil=>exact xB.now h1
   | cons=>cases h1
  | _=>rw [hv] at h1; cases h1
def iV (hA:HpT) (hB:Nat->HpT):Prop:=∀ f xs s k r (km:Nat->wA->pA->Option RV),(∀ y s' r',k y s'=some r'->xB fun m=>km m y s'=some r')->hA f xs s k=some r->xB fun m=>hB m f xs s (km m)=some r
theorem xX {s:pA} {lhA:LH} {lhB:Nat->LH} (hh:iV lhA.h fun m=>(lhB m).h) (d:Option Nat) (nt:Nat) (x:JB) (xs:List JB) {k:pA->Option RV} {r:RV} {km:Nat->pA->Option RV} (hk:∀ s' r',k s'=some r'->xB fun m=>km m s'=some r') (h:cL lhA d nt x xs s k=some r):xB fun m=>cL (lhB m) d nt x xs s (km m)=some r:=by
 unfold cL at h ⊢;split at h
 ·rename_i f cs hx
  try simp only [hx]
  exact hh _ _ _ _ _ (fun m y s'=>km m ((s'.leave nt).put d y)) (fun y s' r' h'=>hk _ _ h') h
 ·cases h
theorem xB.all {l:List Nat} {Q:Nat->Nat->Prop} (h:∀ i∈l,xB fun m=>Q i m):xB fun m=>∀ i∈l,Q i m:=by
 induction l with
 | nil=>exact ⟨0,fun m _ i hi=>by cases hi⟩
 | cons a r ih =>
  refine ((h a ym).and (ih fun i hi=>h i (yo _ hi))).imp fun m hm i hi=>?_
  rcases yh.1 hi with rfl | hi
  ·exact hm.1
  ·exact hm.2 i hi
theorem KX {s:pA} (d:Option Nat) (x:JB) {k:pA->Option RV} {r:RV} {km:Nat->pA->Option RV} (hk:∀ s' r',k s'=some r'->xB fun m=>km m s'=some r') (h:HP d x s k=some r):xB fun m=>HP d x s (km m)=some r:=by
 unfold HP at h ⊢;split at h
 ·rename_i t n hx
  try simp only [hx]
  split at h
  ·rename_i tm nm N seen hi
   try simp only [hi]
   split at h
   ·rename_i L hL
    try simp only [hL]
    split at h
    ·rename_i hN
     try simp only [hN,if_true]
     obtain ⟨h1,h2⟩:=QT _ h;have il:=xB.all (Q:=fun i m=>(match L[i]? with | some [y,v]=>if y.flat&&v.flat then km m ((s.setObj t n (BS tm nm N (seen++[i]))).put d ⟨.tup [.bool true,y,v],.no⟩) else none | _=>none)=some r) fun i fc=>by
      have:=h2 i fc;split at this
      ·rename_i y v hy;split at this
       ·rename_i hf;simp only [hy,hf,if_true];exact hk _ _ this
       ·cases this
      ·cases this
     by_cases he:(List.range N).filter (fun i=>!seen.contains i)=[]
     ·refine (hk _ _ (h1 he)).imp fun m hm=>TO _ (fun _=>hm) fun i fc=>?_
      rw [he] at fc;cases fc
     ·exact il.imp fun m hm=>TO _ (fun e=>absurd e he) hm
    ·cases h
   ·cases h
  ·cases h
 ·cases h
theorem qZ {s:pA} {callA:iB} {callB:Nat->iB} {lhA:LH} {lhB:Nat->LH} (hc:∀ f args S r,callA f args S=some r->xB fun m=>callB m f args S=some r) (hh:iV lhA.h fun m=>(lhB m).h) (o:WA) {k:pA->Option RV} {r:RV} {km:Nat->pA->Option RV} (hk:∀ s' r',k s'=some r'->xB fun m=>km m s'=some r') (h:o.stepK callA lhA s k=some r):xB fun m=>o.stepK (callB m) (lhB m) s (km m)=some r:=by
 obtain ⟨d,op,g⟩:=o;by_cases fb:isH op=true
 ·cases op with
  | callh nt x xs =>
   simp only [WA.stepK,IH] at h ⊢;cases g with
   | none=>exact xX hh d nt x xs hk h
   | some p =>
    obtain ⟨t,want⟩:=p;simp only at h ⊢;cases hv:(s.env t).v with
    | bool b =>
     rw [hv] at h;simp only at h ⊢;by_cases hb:b=want
     ·rw [if_pos hb] at h;simp only [if_pos hb];exact xX hh d nt x xs hk h
     ·rw [if_neg hb] at h;simp only [if_neg hb];exact hk _ _ h
    | tup l=>rw [hv] at h; cases l with
     | nil=>exact hk _ _ h
     | cons=>cases h
    | _=>rw [hv] at h; cases h
  | nxt x =>
   simp only [WA.stepK,IH] at h ⊢;cases g with
   | none=>exact KX d x hk h
   | some p =>
    obtain ⟨t,want⟩:=p;simp only at h ⊢;cases hv:(s.env t).v with
    | bool b =>
     rw [hv] at h;simp only at h ⊢;by_cases hb:b=want
     ·rw [if_pos hb] at h;simp only [if_pos hb];exact KX d x hk h
     ·rw [if_neg hb] at h;simp only [if_neg hb];exact hk _ _ h
    | tup l=>rw [hv] at h; cases l with
     | nil=>exact hk _ _ h
     | cons=>cases h
    | _=>rw [hv] at h; cases h
  | _=>cases fb
 ·have fb:isH op=false:=by simpa using fb
  rw [eH fb] at h;obtain ⟨s1,h1,h2⟩:=yb.1 h;exact ((step_late hc ⟨d,op,g⟩ h1).and (hk _ _ h2)).imp fun m hm=>by rw [eH fb,hm.1]; exact hm.2
theorem u9 {callA:iB} {callB:Nat->iB} {lhA:LH} {lhB:Nat->LH} (hc:∀ f args S r,callA f args S=some r->xB fun m=>callB m f args S=some r) (hh:iV lhA.h fun m=>(lhB m).h):∀ (ops:List WA) {s:pA} {k:pA->Option RV} {r:RV} {km:Nat->pA->Option RV},(∀ s' r',k s'=some r'->xB fun m=>km m s'=some r')->SF callA lhA ops s k=some r->xB fun m=>SF (callB m) (lhB m) ops s (km m)=some r
 | [],s,k,r,km,hk,h=>hk _ _ h
 | o :: l,s,k,r,km,hk,h=>qZ hc hh o (km:=fun m s=>SF (callB m) (lhB m) l s (km m)) (fun s' r' h'=>u9 hc hh l hk h') h
theorem GD {callA:iB} {lpA:LH} {callB:Nat->iB} {IV:Nat->LH} (hc:∀ f args S r,callA f args S=some r->xB fun m=>callB m f args S=some r) (hh:iV lpA.h fun m=>(IV m).h)
  (hl:∀ b s k r (km:Nat->Ex->pA->Option RV),(∀ e s' r',k e s'=some r'->xB fun m=>km m e s'=some r')->lpA b s k=some r->xB fun m=>IV m b s (km m)=some r) :
  ∀ (c:C) (s:pA) (k:Ex->pA->Option RV) (r:RV) (km:Nat->Ex->pA->Option RV),(∀ e s' r',k e s'=some r'->xB fun m=>km m e s'=some r')->c.run callA lpA s k=some r->xB fun m=>c.run (callB m) (IV m) s (km m)=some r
 | .skip,s,k,r,km,hk,h=>hk _ _ _ h
 | .exit id,s,k,r,km,hk,h=>hk _ _ _ h
 | .ret,s,k,r,km,hk,h=>hk _ _ _ h
 | .seq a b,s,k,r,km,hk,h=>by
  refine GD hc hh hl a s _ r (fun m e s'=>match e with | .nrm=>b.run (callB m) (IV m) s' (km m) | e=>km m e s') (fun e s' r' h'=>?_) h;cases e with
  | nrm=>exact GD hc hh hl b s' k r' km hk h'
  | exit id=>exact hk _ _ _ h'
  | ret=>exact hk _ _ _ h'
 | .reg ops,s,k,r,km,hk,h=>by
  simp only [C.run] at h ⊢;exact u9 hc hh ops (km:=fun m s=>km m .nrm { s with next:=s.next + 1 }) (fun s' r' h'=>hk _ _ _ h') h
 | .cond x t e,s,k,r,km,hk,h=>by
  simp only [C.run] at h ⊢;cases hv:x.get s with
  | bool b =>
   rw [hv] at h;cases b with
   | true=>exact GD hc hh hl t s k r km hk (by simpa using h)
   | false=>exact GD hc hh hl e s k r km hk (by simpa using h)
  | _=>rw [hv] at h; cases h
 | .block id b,s,k,r,km,hk,h=>by
  refine GD hc hh hl b s _ r (fun m e s'=>match e with | .exit j=>if j=id then km m .nrm s' else km m (.exit j) s' | e=>km m e s') (fun e s' r' h'=>?_) h;cases e with
  | nrm=>exact hk _ _ _ h'
  | ret=>exact hk _ _ _ h'
  | exit j =>
   simp only at h' ⊢;by_cases e:j=id
   ·rw [if_pos e] at h'; simp only [if_pos e]; exact hk _ _ _ h'
   ·rw [if_neg e] at h'; simp only [if_neg e]; exact hk _ _ _ h'
 | .loop b,s,k,r,km,hk,h=>hl b s k r km hk h
variable {T:Nat->Option qB} {ext:iB}
theorem N_mono {ext':iB} (hx:∀ f args S r,ext f args S=some r->ext' f args S=some r):∀ N,(∀ f args S r,jD T ext N f args S=some r->xB fun m=>jD T ext' m f args S=some r) ∧
  (∀ b s k r (km:Nat->Ex->pA->Option RV),(∀ e s' r',k e s'=some r'->xB fun m=>km m e s'=some r')->FJ T ext N b s k=some r->xB fun m=>FJ T ext' m b s (km m)=some r) ∧
  iV (wM T ext N) (wM T ext')
 | 0=>by
  refine ⟨fun f args S r h=>⟨0,fun m _=>?_⟩,fun b s k r km _ h=>(by cases h),fun f xs s k r km _ h=>(by cases h)⟩;unfold jD at h;cases hT:T f with
  | none=>rw [hT] at h; cases m <;> (unfold jD; rw [hT]; exact hx _ _ _ _ h)
  | some c=>rw [hT] at h; cases h
 | N + 1=>by
  obtain ⟨wo,dl,xo⟩:=N_mono hx N;refine ⟨?_,?_,?_⟩
  ·intro f args S0 r h;unfold jD at h;cases hT:T f with
   | none=>rw [hT] at h; exact ⟨0,fun m _=>by cases m <;> (unfold jD; rw [hT]; exact hx _ _ _ _ h)⟩
   | some c =>
    rw [hT] at h;cases hm:DP args with
    | some rest =>
     cases S0 with
     | none=>rw [hm] at h; cases h
     | some S =>
      cases S with
      | agg cs =>
       rw [hm] at h;simp only at h;split at h
       ·rename_i hl;refine xB.pred ((GD (lpA:=⟨FJ T ext N,wM T ext N⟩) (IV:=fun m=>⟨FJ T ext' m,wM T ext' m⟩) wo xo dl c.code _ _ r (fun _=>GL c cs.length) (fun e s' r' h'=>xB.now h') h).imp fun m bd=>?_);unfold jD;rw [hT];simp only [hm];rw [if_pos hl];exact bd
       ·cases h
      | _=>rw [hm] at h; cases h
    | none =>
     rw [hm] at h;simp only at h;split at h
     ·rename_i hl;refine xB.pred ((GD (lpA:=⟨FJ T ext N,wM T ext N⟩) (IV:=fun m=>⟨FJ T ext' m,wM T ext' m⟩) wo xo dl c.code _ _ r (fun _=>uO c S0) (fun e s' r' h'=>xB.now h') h).imp fun m bd=>?_);unfold jD;rw [hT];simp only [hm];rw [if_pos hl];exact bd
     ·cases h
  ·intro b s k r km hk h;unfold FJ at h;refine xB.pred ((GD (lpA:=⟨FJ T ext N,wM T ext N⟩) (IV:=fun m=>⟨FJ T ext' m,wM T ext' m⟩) wo xo dl b s _ r (fun m=>HJ (FJ T ext' m) b (km (m + 1))) (fun e s' r' h'=>?_) h).imp fun m hm=>?_)
   ·cases e with
    | nrm=>exact dl b s' k r' (fun m=>km (m + 1)) (fun e s'' r'' h''=>(hk e s'' r'' h'').succ) h'
    | exit id=>exact (hk _ _ _ h').succ
    | ret=>exact (hk _ _ _ h').succ
   ·unfold FJ;exact hm
  ·intro f xs s k r km hk h;unfold wM at h;cases hT:T f with
   | none=>rw [hT] at h; cases h
   | some c =>
    rw [hT] at h;simp only at h;split at h
    ·rename_i hl;refine xB.pred ((GD (lpA:=⟨FJ T ext N,wM T ext N⟩) (IV:=fun m=>⟨FJ T ext' m,wM T ext' m⟩) wo xo dl c.code _ _ r (fun m=>FQ c (km (m + 1))) (fun e s' r' h'=>?_) h).imp fun m hm=>?_)
     ·cases e with
      | exit id=>cases h'
      | nrm =>
       simp only [FQ] at h' ⊢;obtain ⟨y,hy,h'⟩:=yb.1 h';simp only [hy,V];exact (hk _ _ _ h').succ
      | ret =>
       simp only [FQ] at h' ⊢;obtain ⟨y,hy,h'⟩:=yb.1 h';simp only [hy,V];exact (hk _ _ _ h').succ
     ·unfold wM;rw [hT];simp only;rw [if_pos hl];exact hm
    ·cases h
theorem pM:∀ N,(∀ f args S r,jD T ext N f args S=some r->xB fun m=>jD T ext m f args S=some r) ∧
  (∀ b s k r (km:Nat->Ex->pA->Option RV),(∀ e s' r',k e s'=some r'->xB fun m=>km m e s'=some r')->FJ T ext N b s k=some r->xB fun m=>FJ T ext m b s (km m)=some r)/\iV (wM T ext N) (wM T ext):=N_mono fun _ _ _ _ h=>h
open Classical in
noncomputable def cE (T:Nat->Option qB) (ext:iB) (f:Nat) (args:List AV) (S0:Option AV):Option RV:=if h:∃ r n,jD T ext n f args S0=some r then some h.choose else none
open Classical in
noncomputable def GG (T:Nat->Option qB) (ext:iB):LpT:=fun b s k=>if h:∃ r n,FJ T ext n b s k=some r then some h.choose else none
open Classical in
noncomputable def evH (T:Nat->Option qB) (ext:iB):HpT:=fun f xs s k=>if h:∃ r n,wM T ext n f xs s k=some r then some h.choose else none
noncomputable def BJ (T:Nat->Option qB) (ext:iB):LH:=⟨GG T ext,evH T ext⟩
theorem pF {f:Nat} {args:List AV} {S0:Option AV} {r:RV}:cE T ext f args S0=some r ↔ ∃ n,jD T ext n f args S0=some r:=by
 unfold cE;constructor
 ·intro h;split at h
  ·rename_i hh; injection h with h; exact h ▸ hh.choose_spec
  ·cases h
 ·rintro ⟨n,hn⟩;have hh:∃ r n,jD T ext n f args S0=some r:=⟨r,n,hn⟩;rw [dif_pos hh];obtain ⟨n',og⟩:=hh.choose_spec;obtain ⟨m,h1,h2⟩:=(((pM n).1 f args S0 r hn).and ((pM n').1 f args S0 _ og)).some;rw [h1] at h2;exact h2.symm
theorem aX {b:C} {s:pA} {k:Ex->pA->Option RV} {r:RV}:GG T ext b s k=some r ↔ ∃ n,FJ T ext n b s k=some r:=by
 unfold GG;constructor
 ·intro h;split at h
  ·rename_i hh; injection h with h; exact h ▸ hh.choose_spec
  ·cases h
 ·rintro ⟨n,hn⟩;have hh:∃ r n,FJ T ext n b s k=some r:=⟨r,n,hn⟩;rw [dif_pos hh];obtain ⟨n',og⟩:=hh.choose_spec;obtain ⟨m,h1,h2⟩:=(((pM n).2.1 b s k r (fun _=>k) (fun e s' r' h=>xB.now h) hn).and ((pM n').2.1 b s k _ (fun _=>k) (fun e s' r' h=>xB.now h) og)).some;rw [h1] at h2;exact h2.symm
theorem pX {f:Nat} {xs:List wA} {s:pA} {k:wA->pA->Option RV} {r:RV}:evH T ext f xs s k=some r ↔ ∃ n,wM T ext n f xs s k=some r:=by
 unfold evH;constructor
 ·intro h;split at h
  ·rename_i hh; injection h with h; exact h ▸ hh.choose_spec
  ·cases h
 ·rintro ⟨n,hn⟩;have hh:∃ r n,wM T ext n f xs s k=some r:=⟨r,n,hn⟩;rw [dif_pos hh];obtain ⟨n',og⟩:=hh.choose_spec;obtain ⟨m,h1,h2⟩:=(((pM n).2.2 f xs s k r (fun _=>k) (fun e s' r' h=>xB.now h) hn).and ((pM n').2.2 f xs s k _ (fun _=>k) (fun e s' r' h=>xB.now h) og)).some;rw [h1] at h2;exact h2.symm
theorem bM {ext':iB} (hx:∀ f args S r,ext f args S=some r->ext' f args S=some r) {f:Nat} {args:List AV} {S0:Option AV} {r:RV} (h:cE T ext f args S0=some r):cE T ext' f args S0=some r:=by
 obtain ⟨n,hn⟩:=pF.1 h;exact pF.2 ((N_mono hx n).1 f args S0 r hn).some
theorem PS (f:Nat) (args:List AV) (S0:Option AV) (r:RV) (h:cE T ext f args S0=some r):xB fun m=>jD T ext m f args S0=some r:=by
 obtain ⟨n,hn⟩:=pF.1 h;exact (pM n).1 f args S0 r hn
theorem p8 (b:C) (s:pA) (k:Ex->pA->Option RV) (r:RV) (km:Nat->Ex->pA->Option RV) (hk:∀ e s' r',k e s'=some r'->xB fun m=>km m e s'=some r') (h:GG T ext b s k=some r):xB fun m=>FJ T ext m b s (km m)=some r:=by
 obtain ⟨n,hn⟩:=aX.1 h;exact (pM n).2.1 b s k r km hk hn
theorem ev_late3:iV (evH T ext) (wM T ext):=fun f xs s k r km hk h=>by
 obtain ⟨n,hn⟩:=pX.1 h;exact (pM n).2.2 f xs s k r km hk hn
theorem OS (c:C) (s:pA) (k:Ex->pA->Option RV) (r:RV) (km:Nat->Ex->pA->Option RV) (hk:∀ e s' r',k e s'=some r'->xB fun m=>km m e s'=some r') (h:c.run (cE T ext) (BJ T ext) s k=some r):xB fun m=>c.run (jD T ext m) ⟨FJ T ext m,wM T ext m⟩ s (km m)=some r :=
 GD (lpA:=BJ T ext) (IV:=fun m=>⟨FJ T ext m,wM T ext m⟩) PS ev_late3 p8 c s k r km hk h
theorem qM {f:Nat} {args:List AV} {S0:Option AV} {r:RV} (c:qB) (hT:T f=some c) (hl:args.length=c.np) (h:c.code.run (cE T ext) (BJ T ext) (pA.init args S0) (uO c S0)=some r) (hm:OI args=false:=by rfl) (hS:noItO S0=true:=by rfl):cE T ext f args S0=some r:=by
 obtain ⟨m,bd⟩:=(OS c.code _ _ r (fun _=>uO c S0) (fun e s' r' h'=>xB.now h') h).some;refine pF.2 ⟨m + 1,?_⟩;have hR:DP args=none:=by
  unfold DP;split
  ·cases hm
  ·rfl
 unfold jD;rw [hT];simp only [hR];rw [if_pos ⟨hl,hm,hS⟩];exact bd
theorem GR {f:Nat} {args cs:List AV} {r:RV} (c:qB) (hT:T f=some c) (hl:args.length=c.np) (h:c.code.run (cE T ext) (BJ T ext) (pA.initR args cs) (GL c cs.length)=some r) (hm:OI args=false:=by rfl):cE T ext f (.undef :: .undef :: args) (some (.agg cs))=some r:=by
 obtain ⟨m,bd⟩:=(OS c.code _ _ r (fun _=>GL c cs.length) (fun e s' r' h'=>xB.now h') h).some;refine pF.2 ⟨m + 1,?_⟩;unfold jD;rw [hT];simp only [DP];rw [if_pos ⟨hl,hm⟩];exact bd
theorem H0 {f:Nat} {xs:List wA} {s:pA} {k:wA->pA->Option RV} {r:RV} (c:qB) (hT:T f=some c) (hl:xs.length=c.np) (h:c.code.run (cE T ext) (BJ T ext) (s.initH xs) (FQ c k)=some r):evH T ext f xs s k=some r:=by
 obtain ⟨m,bd⟩:=(OS c.code _ _ r (fun _=>FQ c k) (fun e s' r' h'=>xB.now h') h).some;refine pX.2 ⟨m + 1,?_⟩;unfold wM;rw [hT];simp only;rw [if_pos hl];exact bd
theorem tA {b:C} {s:pA} {k:Ex->pA->Option RV} {r:RV} (h:b.run (cE T ext) (BJ T ext) s (HJ (GG T ext) b k)=some r):GG T ext b s k=some r:=by
 have:=OS b s _ r (fun m=>HJ (FJ T ext m) b k) (fun e s' r' h'=>by
  cases e with
  | nrm=>exact p8 b s' k r' (fun _=>k) (fun e s'' r'' h''=>xB.now h'') h'
  | exit id=>exact xB.now h'
  | ret=>exact xB.now h') h
 obtain ⟨m,hm⟩:=this.some;refine aX.2 ⟨m + 1,?_⟩;unfold FJ;exact hm
theorem UN {P:Program} {O:rH} (hm:P.follows .mixedOrders=true) (hT:∀ f c,T f=some c->bA P f c) (dr:∀ f args S r,ext f args S=some r->aD P O f args S r) {f:Nat} {args:List AV} {S0:Option AV} {r:RV} (h:cE T ext f args S0=some r):aD P O f args S0 r:=by
 obtain ⟨n,hn⟩:=pF.1 h;exact (NW hm hT dr n).1 f args S0 r hn
end
end
section
open Go Go.RowKit Go.ChangeShapes Go.WideShapes Go.Deep
section
variable {H:Type} {enc:TypeId × Value->H} {P:Program} {w:World} {base:Nat} {spare:Nat->Bool} {held:Bool}
theorem Rows_of {av:Av} {b sz:Nat}:∀ {els:List (List AV)} {off:Nat},(∀ bc∈els,bc.length=sz)->(∀ (i:Nat) (bc:List AV),els[i]?=some bc->QE av w bc b (off + i * sz))->tE av w els b off
 | [],_,_,_=>by simp [tE]
 | bc :: r,off,hl,h=>by
  simp only [tE];have h0:=h 0 bc rfl;rw [Nat.zero_mul,Nat.add_zero] at h0;refine ⟨h0,Rows_of (fun x hx=>hl x (yo _ hx)) fun i x hx=>?_⟩;have:=h (i + 1) x (by simpa using hx);rw [hl bc ym,show off + sz + i * sz=off + (i + 1) * sz from by rw [yA]; omega];exact this
abbrev Av0:Av:=fun _ _=>False
end
end
section
open Go Go.RowKit Go.ChangeShapes Go.WideShapes Go.Deep
def TM (P:Program) (t:TypeId):Bool:=match P.underlying t with
 | some (.struct _) | some (.array ..)=>true
 | _=>false
section
variable {H:Type} {enc:TypeId × Value->H} {P:Program} {w:World} {base:Nat} {spare:Nat->Bool} {held:Bool}
theorem KT (hl:laidOutB P=true) {W W':World} (hb:Below W.heap.size W W'):∀ {ts:List TypeId} {vs:List Value} {ds:List (DataW H)} {p:List MemPlace},DataW.TrodAll enc P W 0 (fun _=>true) true ts vs ds p->ts.all (fun t=>P.readableRec t&&decide (t<P.types.size))=true →
  DataW.TrodAll enc P W' 0 (fun b=>decide (b<W.heap.size)) true ts vs ds p
 | [],vs,ds,p,h,_=>by
  cases vs with
  | nil=>cases ds with
   | nil=>exact h
   | cons=>exact h.elim
  | cons=>cases ds <;> exact h.elim
 | t :: ts,vs,ds,p,h,hs=>by
  have fa:=DataW.TrodAll.lt h;obtain ⟨v,zu,d,ds',p',q',rfl,rfl,rfl,h0,h⟩:=trodAll_cons h;simp only [List.all_cons,y9,decide_eq_true_eq] at hs;exact trodAll_cons_mk (Below.trod hl hs.1.1 hs.1.2 h0 hb fun x hx=>fa x (yX _ hx)) (KT hl hb h hs.2)
end
end
section
open Go Go.RowKit Go.ChangeShapes Go.WideShapes Go.Deep
def RI (P:Program) (r:TypeId->List AV->Prop):List Field->List AV->Prop
 | [],bc=>bc=[]
 | f :: fs,bc=>∃ a b,bc=a++b/\a.length=P.cellsOf f.type/\r f.type a/\RI P r fs b
def ArrT (P:Program) (r:TypeId->List AV->Prop) (e:TypeId):Nat->List AV->Prop
 | 0,bc=>bc=[]
 | n + 1,bc=>∃ a b,bc=a++b/\a.length=P.cellsOf e/\r e a/\ArrT P r e n b
def bF (P:Program):Nat->TypeId->List AV->Prop
 | 0,_,_=>False
 | n + 1,t,bc=>match P.underlying t with
  | some .bool=>∃ b,bc=[.bool b]
  | some (.int k)=>∃ i,bc=[.int k i]/\(Lit.int k i).wf=true
  | some .string=>∃ s,bc=[.str s]/\s.size<=maxLen
  | some (.slice e)=>∃ nl els,bc=[.sl nl els]/\els.length<=maxLen/\els.length * P.bytesOf e<=reachBytes/\(nl=true->els=[])/\∀ x∈els,x.length=P.cellsOf e/\bF P n e x
  | some (.struct fs)=>RI P (bF P n) fs.toList bc
  | some (.array k e)=>ArrT P (bF P n) e k bc
  | _=>False
def jX (P:Program) (ts:List TypeId):Nat->Nat->List Field->Bool
 | off,total,[]=>decide (off=total)
 | off,total,f :: fs=>decide (f.offset=off)&&ts.contains f.type&&jX P ts (off + P.cellsOf f.type) total fs
def oO (P:Program) (ts:List TypeId) (t:TypeId):Bool:=match P.underlying t with
 | some .bool | some (.int _) | some .string=>decide (P.cellsOf t=1)
 | some (.slice e)=>ts.contains e&&decide (0<P.cellsOf e)&&decide (P.cellsOf t=1)
 | some (.struct fs)=>jX P ts 0 (P.cellsOf t) fs.toList
 | some (.array k e)=>ts.contains e&&decide (0<P.cellsOf e)&&decide (k * P.cellsOf e=P.cellsOf t)
 | _=>false
section
variable {H:Type} {enc:TypeId × Value->H} {P:Program} {w:World} {base:Nat} {spare:Nat->Bool} {held:Bool}
theorem t9 {t e:TypeId} {fuel:Nat} {cs:List Value} {x:DataW H × List MemPlace} (ht:P.underlying t=some (.slice e)) (h:DataW.trod enc P w base spare held fuel t cs=some x) :
  (∃ n,fuel=n + 1)/\((cs=[.slice none 0 0]) ∨
  ∃ (a:Addr) (len cap n:Nat) (y:Nat->DataW H × List MemPlace) (D sp:List (DataW H)),cs=[.slice (some a) len cap]/\fuel=n + 1/\len<=cap/\cap<=maxLen/\x.1=.slice D sp/\D.length=len/\(∀ i,i<len->(y i).1∈D) ∧
   ∀ i,i<len->∃ gv,w.cells? base (a.add (i * P.cellsOf e)) (P.cellsOf e)=some gv/\DataW.trod enc P w base spare held n e gv=some (y i)):=by
 refine ⟨?_,?_⟩
 ·cases fuel with
  | zero=>simp [DataW.trod] at h
  | succ n=>exact ⟨n,rfl⟩
 rcases DataW.trod_slice ht h with h0 | ⟨a,len,cap,elems,rest,n,az,rfl,rfl,hb,hl,hm,ia,jc,ph,hns⟩
 ·exact Or.inl h0.1
 right;refine ⟨a,len,cap,n,fun i=>elems.getD i (.nil,[]),elems.map (·.1),rest.map (·.1),rfl,az,hl,hm,rfl,by simpa using ia,fun i hi=>?_,fun i hi=>?_⟩
 ·have e:elems.getD i (.nil,[])=elems[i]'(by omega):=by simp [List.getD,y5 (show i<elems.length by omega)]
  show (elems.getD i (.nil,[])).1∈_;rw [e];exact List.mem_map_of_mem (y7 _)
 have key:=jc i hi;rw [y5 (by omega)] at key;obtain ⟨gv,h1,h2⟩:=yb.1 key;refine ⟨gv,h1,?_⟩;rw [h2];simp [List.getD,y5 (show i<elems.length by omega)]
theorem sQ {e:TypeId}:∀ {D:List (DataW H)} {d:DataW H},d∈D->∀ m∈d.weights P e,m∈DataW.weightsAll P e D
 | d0 :: r,d,h,m,hm=>by
  simp only [DataW.weightsAll,yp];rcases yh.1 h with rfl | h
  ·exact .inl hm
  ·exact .inr (sQ h m hm)
def nM (P:Program) (t:TypeId) (d:DataW H):Prop:=∀ m∈d.weights P t,m<=reachBytes
section
variable {t e:TypeId} {D sp:List (DataW H)} (ht:P.underlying t=some (.slice e)) (h:nM P t (.slice D sp))
include t e D sp ht h
theorem light_elem {d:DataW H} (hd:d∈D):nM P e d:=fun m hm=>h m (by
 simp only [DataW.weights,ht,yh,yp];exact .inr (.inl (sQ hd m hm)))
theorem light_len:D.length * P.bytesOf e<=reachBytes:=by
 have:=h ((D.length + sp.length) * P.bytesOf e) (by simp [DataW.weights,ht]);exact Nat.le_trans (Nat.mul_le_mul_right _ (by omega)) this
end
theorem light_arr {t e:TypeId} {k:Nat} {D:List (DataW H)} (ht:P.underlying t=some (.array k e)) (h:nM P t (.agg D)) {d:DataW H} (hd:d∈D):nM P e d:=fun m hm=>h m (by
 simp only [DataW.weights,ht];exact sQ hd m hm)
theorem A8 {t:TypeId} {fs:Array Field} {D:List (DataW H)} (ht:P.underlying t=some (.struct fs)) (h:nM P t (.agg D)) {i:Nat} {f:Field} {d:DataW H} (hf:fs.toList[i]?=some f) (hd:D[i]?=some d):nM P f.type d:=fun m hm=>h m (by
 simp only [DataW.weights,ht];exact DataW.weights_mem_each (j:=i) (by rw [ye,hf]; rfl) hd m hm)
theorem s8 {ts:List TypeId} {n:Nat} {cs:List Value}
  (ih:∀ (t:TypeId) (cs:List Value) (x:DataW H × List MemPlace),ts.contains t=true->nM P t x.1->DataW.trod enc P w base spare held n t cs=some x->∃ bc,lD Av0 w bc cs/\bF P n t bc/\bc.length=P.cellsOf t) :
  ∀ (fs:List Field) (off:Nat),jX P ts off cs.length fs=true->(∀ f∈fs,∃ x,nM P f.type x.1/\DataW.trod enc P w base spare held n f.type ((cs.drop f.offset).take (P.cellsOf f.type))=some x)->∃ bc,lD Av0 w bc (cs.drop off)/\RI P (bF P n) fs bc
 | [],off,h,_=>by
  simp only [jX,decide_eq_true_eq] at h;refine ⟨[],?_,rfl⟩;rw [yc (by omega)];rfl
 | f :: fs,off,h,hx=>by
  simp only [jX,y9,decide_eq_true_eq] at h;obtain ⟨⟨ho,ht⟩,h⟩:=h;obtain ⟨x,fa,hx0⟩:=hx f ym;obtain ⟨bc,h1,h2,il⟩:=ih _ _ _ ht fa hx0;obtain ⟨bs,h3,h4⟩:=s8 ih fs (off + P.cellsOf f.type) h fun g hg=>hx g (yo _ hg)
  refine ⟨bc++bs,?_,bc,bs,rfl,il,h2,h4⟩;have:cs.drop off=(cs.drop off).take (P.cellsOf f.type)++cs.drop (off + P.cellsOf f.type):=by rw [<- List.drop_drop,List.take_append_drop]
  rw [this];rw [ho] at h1;exact HM h1 h3
theorem array_T {e:TypeId} {n:Nat} {cs:List Value} (f:∀ i:Nat,i * P.cellsOf e<cs.length->∃ bc,lD Av0 w bc ((cs.drop (i * P.cellsOf e)).take (P.cellsOf e))/\bF P n e bc/\bc.length=P.cellsOf e) (hp:0<P.cellsOf e) :
  ∀ (m i:Nat),(i + m) * P.cellsOf e=cs.length->∃ bc,lD Av0 w bc (cs.drop (i * P.cellsOf e))/\ArrT P (bF P n) e m bc
 | 0,i,h=>by
  refine ⟨[],?_,rfl⟩;rw [yc (by simp at h; omega)];rfl
 | m + 1,i,h=>by
  have h1:(i + 1 + m) * P.cellsOf e=cs.length:=by rw [<- h]; congr 1; omega
  have hs:(i + 1) * P.cellsOf e=i * P.cellsOf e + P.cellsOf e:=yA i _;have fa:i * P.cellsOf e<cs.length:=by
   have:(i + 1) * P.cellsOf e<=(i + (m + 1)) * P.cellsOf e:=Nat.mul_le_mul_right _ (by omega);omega
  obtain ⟨bc,g1,g2,g2'⟩:=f i fa;obtain ⟨av2,g3,g4⟩:=array_T f hp m (i + 1) h1;refine ⟨bc++av2,?_,bc,av2,rfl,g2',g2,g4⟩;have:cs.drop (i * P.cellsOf e)=(cs.drop (i * P.cellsOf e)).take (P.cellsOf e)++cs.drop ((i + 1) * P.cellsOf e):=by rw [hs,<- List.drop_drop,List.take_append_drop]
  rw [this];exact HM g1 g3
theorem JM {av:Av}:∀ {l:List AV} {us:List Value},lD av w l us->l.length=us.length
 | [],us,h=>by simp only [lD] at h; subst h; rfl
 | a :: r,us,h=>by
  simp only [lD] at h;obtain ⟨u,sa,rfl,_,_,h⟩:=h;simp [JM h]
theorem N4 {ts:List TypeId} (hg:ts.all (oO P ts)=true):∀ (n:Nat) (t:TypeId) (cs:List Value) (x:DataW H × List MemPlace),ts.contains t=true->nM P t x.1->DataW.trod enc P w base spare held n t cs=some x->∃ bc,lD Av0 w bc cs/\bF P n t bc/\bc.length=P.cellsOf t
 | 0,t,cs,x,_,_,hx=>by simp [DataW.trod] at hx
 | n + 1,t,cs,x,ma,uz,hx=>by
  have h:oO P ts t=true:=y6.1 hg t (by simpa using ma);unfold oO at h;split at h
  ·rename_i ht;simp only [decide_eq_true_eq] at h;obtain ⟨b,rfl,_⟩:=DataW.trod_bool ht hx;exact ⟨[.bool b],⟨_,_,rfl,rfl,rfl,rfl⟩,by simp only [bF,ht]; exact ⟨b,rfl⟩,by simp [h]⟩
  ·rename_i kk ht;simp only [decide_eq_true_eq] at h;obtain ⟨b,rfl,_,hw⟩:=DataW.trod_int ht hx;exact ⟨[.int kk b],⟨_,_,rfl,rfl,rfl,rfl⟩,by simp only [bF,ht]; exact ⟨b,rfl,hw⟩,by simp [h]⟩
  ·rename_i ht;simp only [decide_eq_true_eq] at h;obtain ⟨b,rfl,_,hw⟩:=DataW.trod_string ht hx;exact ⟨[.str b],⟨_,_,rfl,rfl,rfl,rfl⟩,by simp only [bF,ht]; exact ⟨b,rfl,hw⟩,by simp [h]⟩
  ·rename_i e ht;simp only [y9,decide_eq_true_eq] at h;obtain ⟨⟨he,db⟩,wq⟩:=h;rcases (t9 ht hx).2 with rfl | ⟨a,len,cap,n',y,D,sp,rfl,hn,ub,xq,hxe,hDl,hyD,hi⟩
   ·exact ⟨[.sl true []],⟨_,_,rfl,⟨none,0,rfl,yn _,(fun _ h=>by cases h),fun _=>⟨rfl,rfl,rfl⟩,fun h=>by cases h⟩,rfl,rfl⟩,by simp only [bF,ht]; exact ⟨true,[],rfl,Nat.zero_le _,by simp,fun _=>rfl,(fun _ h=>by cases h)⟩,by simp [wq]⟩
   ·have og:n'=n:=by omega
    subst og;rw [hxe] at uz;have tj:=light_len ht uz;rw [hDl] at tj;have ka:∀ i:Nat,∃ bc:List AV,i<len->((bc.length=P.cellsOf e/\bF P n' e bc)/\∃ us,lD Av0 w bc us/\us.length=P.cellsOf e/\∀ j,j<P.cellsOf e->w.cell? ((a.add (i * P.cellsOf e)).add j)=us[j]?):=fun i=>by
     by_cases fa:i<len
     ·obtain ⟨us,wq,hc2⟩:=hi i (by omega);obtain ⟨bc,h1,h2,il⟩:=N4 hg n' e us _ he (light_elem ht uz (hyD i fa)) hc2;obtain ⟨_,g1,g2⟩:=World.cells?_some wq;exact ⟨bc,fun _=>⟨⟨il,h2⟩,us,h1,g1,g2⟩⟩
     ·exact ⟨[],fun h=>absurd h fa⟩
    have tk:=Classical.axiomOfChoice ka;obtain ⟨f,hf⟩:=tk;have td:∀ bc∈(List.range len).map f,bc.length=P.cellsOf e/\bF P n' e bc:=fun bc ha=>by
     obtain ⟨i,fc,rfl⟩:=yu.1 ha;exact (hf i (List.mem_range.1 fc)).1
    refine ⟨[.sl false ((List.range len).map f)],⟨_,_,rfl,⟨some a,cap,by simp,by simpa using ub,fun x hx y hy=>((td x hx).1).trans ((td y hy).1).symm,(fun h=>by cases h),fun _=>⟨fun h=>(by cases h),fun h0=>?_⟩⟩,rfl,rfl⟩,by simp only [bF,ht]; exact ⟨false,_,rfl,by simp; omega,by simpa using tj,(fun h=>by cases h),td⟩,by simp [wq]⟩;have df:0<len:=by simpa using h0
    have hspot:∃ b off,a=⟨b,off,none⟩:=by
     obtain ⟨_,us,_,g1,g2⟩:=hf 0 df;have g3:=g2 0 db;simp only [Nat.zero_mul,Addr.add,if_true] at g3;rw [y5 (by omega)] at g3;obtain ⟨b,off,sp⟩:=a;cases sp with
     | none=>exact ⟨b,off,rfl⟩
     | some q =>
      simp only [World.cell?] at g3;split at g3
      ·simp at g3
      ·cases g3
    obtain ⟨b,off,rfl⟩:=hspot;refine ⟨b,off,rfl,Rows_of (fun x hx=>(td x hx).1) fun i bc uh=>?_⟩;rw [ye] at uh;obtain ⟨i',fc,rfl⟩:=yj.1 uh;rw [yf] at fc;obtain ⟨fa,sg⟩:=fc;simp at fa sg;subst sg;obtain ⟨_,us,g0,g1,g2⟩:=hf i fa;refine ZK g0 fun j u hu=>⟨?_,fun h=>h⟩
    have hj:j<P.cellsOf e:=by rw [<- g1]; exact (yf.1 hu).1
    have:=g2 j hj;rw [Addr.add_lit,Addr.add_lit,hu] at this;exact this
  ·rename_i fs ht;obtain ⟨xs,n',hn,rfl,ia,hxl,hf⟩:=DataW.trod_struct ht hx;have og:n'=n:=by omega
   subst og;rw [<- ia] at h;obtain ⟨bc,h1,h2⟩:=s8 (cs:=cs) (n:=n') (fun t cs x=>N4 hg n' t cs x) fs.toList 0 h fun g hg=>by
    obtain ⟨i,hi,he⟩:=yz hg;have fc:i<fs.size:=by simpa using hi
    have h1:=hf i g (by rw [<- he]; simp [fc]);refine ⟨xs[i]'(by omega),A8 ht uz (i:=i) (f:=g) (by rw [<- he]; simp [fc]) ?_,by rw [h1]; exact y5 (by omega)⟩;rw [ye,y5 (by omega)];rfl
   rw [List.drop_zero] at h1;exact ⟨bc,h1,by simp only [bF,ht]; exact h2,(JM h1).trans ia⟩
  ·rename_i k e ht;simp only [y9,decide_eq_true_eq] at h;obtain ⟨⟨he,db⟩,wq⟩:=h;obtain ⟨xs,m,hm,rfl,ia,hxl,hf⟩:=DataW.trod_array ht hx;have bd:m=n:=by omega
   subst bd;obtain ⟨bc,h1,h2⟩:=array_T (cs:=cs) (n:=m) (e:=e) (fun i hi=>by
    have hik:i<k:=by
     rw [ia,<- wq] at hi;exact Nat.lt_of_mul_lt_mul_right hi
    have h1:=hf i hik;rw [y5 (by omega)] at h1;exact N4 hg m e _ _ he (light_arr ht uz (List.mem_map_of_mem (y7 _))) h1) db k 0 (by rw [yG,ia,wq])
   rw [Nat.zero_mul,List.drop_zero] at h1;exact ⟨bc,h1,by simp only [bF,ht]; exact h2,(JM h1).trans ia⟩
  ·cases h
def ParT (P:Program) (t:TypeId) (a:AV):Prop:=∃ n,(TM P t=true/\∃ cs,a=.agg cs/\bF P n t cs)\/(TM P t=false/\bF P n t [a])
def ArgsT (P:Program):List TypeId->List AV->Prop
 | [],xs=>xs=[]
 | t :: ts,xs=>∃ a r,xs=a :: r/\ParT P t a/\ArgsT P ts r
theorem par_T {ts:List TypeId} (hg:ts.all (oO P ts)=true) {t:TypeId} {r:Reach} {b0:Nat} {v:Value} {d:DataW H} {p:List MemPlace} (hs:ts.contains t=true) (hv:Value.okWide P w r b0 t v) (uz:nM P t d) (h:DataW.Trod enc P w base spare held t v d p) :
  ∃ a,MA Ix.none Av0 Av0 w a v/\ParT P t a:=by
 obtain ⟨fuel,hf⟩:=h;obtain ⟨xs,h1,h2,_⟩:=N4 hg fuel t _ _ hs uz hf;have one:∀ (u:Value),v=u->v.cells.toList=[u]->TM P t=false->(∀ a,bF P fuel t [a]->a.leaf=true)->∃ a,MA Ix.none Av0 Av0 w a v/\ParT P t a:=fun u hu hc hw pr=>by
  rw [hc] at h1;have hl:=JM h1
  match xs,hl with
  | [a],_ =>
   simp only [lD] at h1;obtain ⟨u',_,e,h0,_,_⟩:=h1;injection e with e;subst e;exact ⟨a,by rw [hu]; exact sV h0 (pr a h2),fuel,.inr ⟨hw,h2⟩⟩
 cases fuel with
 | zero=>exact h2.elim
 | succ k =>
  have hgt:oO P ts t=true:=y6.1 hg t (by simpa using hs);unfold oO at hgt;split at hgt
  ·rename_i ht;obtain ⟨b,rfl⟩:=okWide_bool ht hv;refine one _ rfl rfl (by simp [TM,ht]) fun a ha=>?_
   simp only [bF,ht] at ha;obtain ⟨b',e⟩:=ha;injection e with e;subst e;rfl
  ·rename_i kk ht;obtain ⟨b,rfl⟩:=okWide_int ht hv;refine one _ rfl rfl (by simp [TM,ht]) fun a ha=>?_
   simp only [bF,ht] at ha;obtain ⟨b',e,_⟩:=ha;injection e with e;subst e;rfl
  ·rename_i ht;obtain ⟨b,rfl⟩:=okWide_string ht hv;refine one _ rfl rfl (by simp [TM,ht]) fun a ha=>?_
   simp only [bF,ht] at ha;obtain ⟨b',e,_⟩:=ha;injection e with e;subst e;rfl
  ·rename_i e' ht;obtain ⟨A,n,c,rfl⟩:=okWide_slice ht hv;refine one _ rfl rfl (by simp [TM,ht]) fun a ha=>?_
   simp only [bF,ht] at ha;obtain ⟨nl,els,e,_⟩:=ha;injection e with e;subst e;rfl
  ·rename_i fs ht;have:∃ cs,v=.agg cs:=by
    simp only [Value.okWide,ht] at hv;obtain ⟨cs,hv,_⟩:=hv;exact ⟨cs,hv⟩
   obtain ⟨cs,rfl⟩:=this;exact ⟨.agg xs,⟨cs,rfl,OD h1⟩,k + 1,.inl ⟨by simp [TM,ht],xs,rfl,h2⟩⟩
  ·rename_i n' e' ht;have:∃ cs,v=.agg cs:=by
    simp only [Value.okWide,ht] at hv;obtain ⟨cs,hv,_⟩:=hv;exact ⟨cs,hv⟩
   obtain ⟨cs,rfl⟩:=this;exact ⟨.agg xs,⟨cs,rfl,OD h1⟩,k + 1,.inl ⟨by simp [TM,ht],xs,rfl,h2⟩⟩
  ·cases hgt
theorem args_T {T:List TypeId} (hg:T.all (oO P T)=true) {r:Reach} {b0:Nat}:∀ {ts:List TypeId} {vs:List Value} {ds:List (DataW H)} {p:List MemPlace},DataW.TrodAll enc P w base spare held ts vs ds p->(∀ (j:Nat) t v,ts[j]?=some t->vs[j]?=some v->Value.okWide P w r b0 t v)->(∀ m∈DataW.weightsEach P ts ds,m<=reachBytes)->ts.all (fun t=>T.contains t)=true →
  ∃ xs,aM Ix.none Av0 Av0 w xs vs/\ArgsT P ts xs
 | [],vs,ds,p,h,_,_,_=>by
  cases vs with
  | nil=>exact ⟨[],rfl,rfl⟩
  | cons=>cases ds <;> exact h.elim
 | t :: ts,vs,ds,p,h,hv,hw,hs=>by
  obtain ⟨v,zu,d,ds',p',q',rfl,rfl,rfl,h0,h⟩:=trodAll_cons h;simp only [DataW.weightsEach,yp] at hw;simp only [List.all_cons,y9] at hs;obtain ⟨a,h1,h2⟩:=par_T hg hs.1 (hv 0 t v rfl rfl) (fun m hm=>hw m (.inl hm)) h0;obtain ⟨xs,h3,h4⟩:=args_T hg h (fun j t' v' e e'=>hv (j + 1) t' v' (by simpa using e) (by simpa using e')) (fun m hm=>hw m (.inr hm)) hs.2;exact ⟨a :: xs,⟨v,zu,rfl,h1,h3⟩,a,xs,rfl,h2,h4⟩
end
end
section
open Go Go.RowKit
section
variable {P:Program}
end
set_option maxHeartbeats 1000000
end
section
open Go Go.RowKit
variable {O:rH}
end
abbrev oM (d n:Nat):WA:=⟨some d,.mv (.t n),none⟩
abbrev oF (d a n:Nat):WA:=⟨some d,.faddr a (.t n),none⟩
abbrev oL (d n:Nat):WA:=⟨some d,.load .any false 1 (.t n),none⟩
abbrev oA (d z n:Nat):WA:=⟨some d,.load .any true z (.t n),none⟩
abbrev oB (d:Nat)(o:BinOp)(a b:Nat):WA:=⟨some d,.bin o false (.t a) (.t b),none⟩
abbrev oC (d:Nat)(o:BinOp)(a:Nat)(n:Int):WA:=⟨some d,.bin o false (.t a) (.c (.int .i64 n)),none⟩
abbrev oX (d n i:Nat):WA:=⟨some d,.ext (.t n) i,none⟩
abbrev oV (z a b:Nat):WA:=⟨none,.store .any true z (.t a) (.t b),none⟩
abbrev oW (a b:Nat):WA:=⟨none,.store .any false 1 (.t a) (.t b),none⟩
abbrev oI (d z a b:Nat):WA:=⟨some d,.iaddr z (.t a) (.t b),none⟩
abbrev oJ (d:Nat)(n:Int):WA:=⟨some d,.mv (.c (.int .i64 n)),none⟩
abbrev oH (d n:Nat):WA:=⟨some d,.len false (.t n),none⟩
abbrev oU (d n:Nat):WA:=⟨some d,.un .not (.t n),none⟩
abbrev oZ (d:Nat)(b:Bool):WA:=⟨some d,.mv (.c (.bool b)),none⟩
abbrev oK (d n:Nat):WA:=⟨some d,.nilchk (.t n),none⟩
abbrev oY (d:Nat)(l:List AV):WA:=⟨some d,.alloc l,none⟩
abbrev oQ (d z n:Nat):WA:=⟨some d,.box z (.t n),none⟩
abbrev oS (d:Nat)(k:K):WA:=⟨some d,k,none⟩
abbrev oN (k:K):WA:=⟨none,k,none⟩
abbrev oG (d:Nat)(k:K)(g:Nat)(b:Bool):WA:=⟨some d,k,some (g,b)⟩
abbrev oP (d n g:Nat)(b:Bool):WA:=⟨some d,.load .any false 1 (.t n),some (g,b)⟩
abbrev oR (l:List WA)(c:C):C:=.seq (.reg l) c
abbrev oD (n:Nat)(a b:C):C:=.cond (.t n) a b
abbrev oFg (d o n g:Nat)(b:Bool):WA:=⟨some d,.faddr o (.t n),some (g,b)⟩
abbrev oPa (d a b:Nat):WA:=⟨some d,.pick (.t a) (.t b) (.c (.bool false)),none⟩
abbrev oPo (d a b:Nat):WA:=⟨some d,.pick (.t a) (.c (.bool true)) (.t b),none⟩
abbrev oMg (d n g:Nat)(b:Bool):WA:=⟨some d,.mv (.t n),some (g,b)⟩
abbrev oC1 (d f a:Nat):WA:=⟨some d,.call .any f [.t a],none⟩
abbrev oC2 (d f a b:Nat):WA:=⟨some d,.call .any f [.t a,.t b],none⟩
abbrev oC4 (d f a b c e:Nat):WA:=⟨some d,.call .any f [.t a,.t b,.t c,.t e],none⟩
abbrev oLr (d r z n:Nat):WA:=⟨some d,.load (.root r) false z (.t n),none⟩
abbrev oLg (d z n g:Nat)(b:Bool):WA:=⟨some d,.load .any true z (.t n),some (g,b)⟩
abbrev oBg (d:Nat)(o:BinOp)(a b g:Nat)(w:Bool):WA:=⟨some d,.bin o false (.t a) (.t b),some (g,w)⟩
abbrev oCi (d:Nat)(o:BinOp)(a:Nat)(n:Int)(g:Nat)(w:Bool):WA:=⟨some d,.bin o false (.t a) (.c (.int .i64 n)),some (g,w)⟩
abbrev oHg (d n g:Nat)(b:Bool):WA:=⟨some d,.len false (.t n),some (g,b)⟩
abbrev oUg (d n g:Nat)(b:Bool):WA:=⟨some d,.un .not (.t n),some (g,b)⟩
abbrev oIg (d z a b g:Nat)(w:Bool):WA:=⟨some d,.iaddr z (.t a) (.t b),some (g,w)⟩
abbrev oAp (d e z y a b:Nat):WA:=⟨some d,.app .any e z y (.t a) (.t b),none⟩
abbrev oPb (d a b g:Nat)(w:Bool):WA:=⟨some d,.pick (.t a) (.t b) (.c (.bool false)),some (g,w)⟩
abbrev oCg (d f a b g:Nat)(w:Bool):WA:=⟨some d,.call .any f [.t a,.t b],some (g,w)⟩
abbrev zza:List AV:=[(.int .i64 0),(.bool false),(.int .i64 0),(.str (ByteArray.mk #[])),(.int .i64 0),(.sl true []),(.sl true []),(.sl true [])]
abbrev zzb:List AV:=[(.int .i64 0),(.bool false),(.int .i64 0),(.str (ByteArray.mk #[])),(.int .i64 0),(.sl true []),(.sl true []),(.sl true []),(.sl true []),(.bool false)]
abbrev zzc:List AV:=[(.int .i64 0),(.str (ByteArray.mk #[]))]
abbrev zzd:List AV:=[(.int .u8 0),(.int .u8 0),(.int .u8 0),(.int .u8 0),(.sl true [])]
abbrev zze:List AV:=[(.int .i64 0),(.str (ByteArray.mk #[])),(.int .i64 0),(.int .i64 0),(.int .i64 0),(.sl true []),(.sl true []),(.int .i64 0),(.int .i64 0),(.bool false)]
abbrev zzf:List AV:=[(.int .u8 0),(.int .u8 0),(.int .u8 0),(.int .u8 0)]
abbrev zzg:List AV:=[(.int .u8 0),(.int .u8 0),(.int .u8 0)]
abbrev zzh:List AV:=[(.int .i64 0),(.str (ByteArray.mk #[])),(.int .i64 0),(.bool false),(.bool false),(.int .i64 0),(.bool false),(.int .i64 0),(.str (ByteArray.mk #[])),(.int .i64 0),(.sl true []),(.sl true []),(.sl true [])]
abbrev zzi:List AV:=[(.sl true []),(.sl true []),(.sl true []),(.sl true [])]
abbrev zzj:List AV:=[(.str (ByteArray.mk #[])),(.int .i64 0)]
noncomputable def cF (l:List Nat) (f:Func):qB:=(xV Tryz.prog l f).getD ⟨.skip,[],0,[]⟩
noncomputable def LJ:qB:=cF [] Tryz.f11
theorem okF {n:Nat} {f:Func} {c:qB} (h:Tryz.prog.funcs[n]?=some f) (a:∀ xs w,(callFunc n xs).run Tryz.prog w=.ok (.enter n xs) w:=by intro _ _;kernel_rfl) (b:xV Tryz.prog c.mu f=some c:=by kernel_rfl):bA Tryz.prog n c:=⟨a,f,h,b⟩
theorem cO:bA Tryz.prog 11 LJ:=okF Tryz.func11
def BC:qB:=⟨(oR [oQ 1 3 0,oZ 2 false] (oR [oA 14 3 1,oC1 15 44 14,oM 13 15,oX 16 13 0,oX 17 13 1,oM 3 16,oM 4 17] (.seq (oR [oS 18 (.call .any 45 []),oU 19 18,oM 20 19,oMg 21 4 20 false,oUg 22 21 20 false,oPo 23 20 22] (oD 23 (oR [oS 24 (.call .any 45 []),oM 2 24] .ret) .skip)) (oR [oM 26 3,oC1 27 48 26,oM 25 27,oX 28 25 0,oX 29 25 1,oX 30 25 2,oX 31 25 3,oM 5 28,oM 6 29,oM 7 30,oM 8 31] (oR [oM 33 3,oC1 34 49 33,oM 32 34,oX 35 32 0,oX 36 32 1,oX 37 32 2,oX 38 32 3,oM 9 35,oM 10 36,oM 11 37,oM 12 38] (oR [oM 39 5,oM 40 9,oB 41 .eql 39 40,oM 42 41,oMg 43 6 42 true,oMg 44 10 42 true,oBg 45 .eql 43 44 42 true,oPa 46 42 45,oM 47 46,oMg 48 7 47 true,oMg 49 11 47 true,oBg 50 .eql 48 49 47 true,oPa 51 47 50,oM 52 51,oMg 53 8 52 true,oMg 54 12 52 true,oBg 55 .eql 53 54 52 true,oPa 56 52 55,oM 2 56] .ret)))))),[(.tmp 2)],1,[]⟩
theorem nO:bA Tryz.prog 12 BC:=okF Tryz.func12
def xL:qB:=⟨(oR [oQ 1 3 0,oZ 2 false] (oR [oA 18 3 1,oC1 19 44 18,oM 17 19,oX 20 17 0,oX 21 17 1,oM 3 20,oM 4 21] (.seq (oR [oS 22 (.call .any 45 []),oU 23 22,oM 24 23,oMg 25 4 24 false,oUg 26 25 24 false,oPo 27 24 26] (oD 27 (oR [oS 28 (.call .any 45 []),oM 2 28] .ret) .skip)) (oR [oM 30 3,oC1 31 50 30,oM 29 31,oX 32 29 0,oX 33 29 1,oM 5 32,oM 6 33] (oR [oM 35 3,oC1 36 51 35,oM 34 36,oX 37 34 0,oX 38 34 1,oM 7 37,oM 8 38] (oR [oM 40 3,oC1 41 52 40,oM 39 41,oX 42 39 0,oX 43 39 1,oM 9 42,oM 10 43] (oR [oM 45 3,oC1 46 53 45,oM 44 46,oX 47 44 0,oX 48 44 1,oM 11 47,oM 12 48] (oR [oM 50 3,oC1 51 54 50,oM 49 51,oX 52 49 0,oX 53 49 1,oM 13 52,oM 14 53] (oR [oM 55 3,oC1 56 55 55,oM 54 56,oX 57 54 0,oX 58 54 1,oM 15 57,oM 16 58] (oR [oM 59 5,oM 60 7,oS 61 (.bin .eql true (.t 59) (.t 60)),oM 62 61,oMg 63 6 62 true,oMg 64 8 62 true,oBg 65 .eql 63 64 62 true,oPa 66 62 65,oM 67 66,oMg 68 9 67 true,oMg 69 11 67 true,oG 70 (.bin .eql true (.t 68) (.t 69)) 67 true,oPa 71 67 70,oM 72 71,oMg 73 10 72 true,oMg 74 12 72 true,oBg 75 .eql 73 74 72 true,oPa 76 72 75,oM 77 76,oMg 78 13 77 true,oMg 79 15 77 true,oCg 80 28 78 79 77 true,oPa 81 77 80,oM 82 81,oMg 83 14 82 true,oMg 84 16 82 true,oBg 85 .eql 83 84 82 true,oPa 86 82 85,oM 87 86,oMg 88 5 87 true,oUg 89 88 87 true,oMg 90 89 87 true,oMg 91 13 90 false,oHg 92 91 90 false,oCi 93 .eql 92 0 90 false,oG 94 (.pick (.t 90) (.c (.bool true)) (.t 93)) 87 true,oPa 95 87 94,oM 2 95] .ret)))))))))),[(.tmp 2)],1,[]⟩
theorem KP:bA Tryz.prog 13 xL:=okF Tryz.func13
def DB:qB:=⟨(oR [oZ 2 false] (.seq (oR [oS 16 (.call .any 45 []),oU 17 16,oM 18 17,oMg 19 0 18 false,oHg 20 19 18 false,oCi 21 .gtr 20 10 18 false,oPo 22 18 21,oM 23 22,oMg 24 0 23 false,oG 25 (.call .any 56 [(.t 24),(.c (.fn 57 []))]) 23 false,oPo 26 23 25] (oD 26 (oR [oS 27 (.call .any 45 []),oM 2 27] .ret) .skip)) (oR [oM 28 0,oC1 29 58 28,oM 3 29] (.seq (oR [oM 30 3,oC 31 .eql 30 0] (oD 31 (oR [oZ 2 true] .ret) .skip)) (oR [oM 33 0,oC1 34 46 33,oM 32 34,oX 35 32 0,oX 36 32 1,oM 4 35,oM 5 36] (oR [oM 38 0,oC1 39 48 38,oM 37 39,oX 40 37 0,oX 41 37 1,oX 42 37 2,oX 43 37 3,oM 6 40,oM 7 41,oM 8 42,oM 9 43] (oR [oM 45 0,oC1 46 50 45,oM 44 46,oX 47 44 0,oX 48 44 1,oM 10 47,oM 11 48] (oR [oM 50 0,oC1 51 52 50,oM 49 51,oX 52 49 0,oX 53 49 1,oM 12 52,oM 13 53] (oR [oM 55 0,oC1 56 54 55,oM 54 56,oX 57 54 0,oX 58 54 1,oM 14 57,oM 15 58] (oR [oM 59 5,oM 60 3,oB 61 .eql 59 60,oM 62 61,oMg 63 9 62 true,oMg 64 3 62 true,oBg 65 .eql 63 64 62 true,oPa 66 62 65,oM 67 66,oMg 68 11 67 true,oMg 69 3 67 true,oBg 70 .eql 68 69 67 true,oPa 71 67 70,oM 72 71,oMg 73 13 72 true,oMg 74 3 72 true,oBg 75 .eql 73 74 72 true,oPa 76 72 75,oM 77 76,oMg 78 15 77 true,oMg 79 3 77 true,oBg 80 .eql 78 79 77 true,oPa 81 77 80,oM 82 81,oMg 83 4 82 true,oHg 84 83 82 true,oMg 85 6 82 true,oBg 86 .add 84 85 82 true,oMg 87 7 82 true,oG 88 (.len true (.t 87)) 82 true,oBg 89 .add 86 88 82 true,oMg 90 8 82 true,oBg 91 .add 89 90 82 true,oMg 92 14 82 true,oHg 93 92 82 true,oBg 94 .add 91 93 82 true,oCi 95 .eql 94 0 82 true,oPa 96 82 95,oM 97 96,oMg 98 10 97 true,oUg 99 98 97 true,oPa 100 97 99,oM 101 100,oMg 102 12 101 true,oUg 103 102 101 true,oPa 104 101 103,oM 2 104] .ret)))))))))),[(.tmp 2)],1,[]⟩
theorem zO:bA Tryz.prog 14 DB:=okF Tryz.func14
def zL:qB:=⟨(oR [oZ 4 false] (.seq (oR [oS 5 (.call .any 45 []),oU 6 5,oM 7 6,oMg 8 0 7 false,oHg 9 8 7 false,oCi 10 .gtr 9 10 7 false,oPo 11 7 10,oM 12 11,oMg 13 0 12 false,oG 14 (.call .any 59 [(.t 13),(.c (.fn 60 []))]) 12 false,oPo 15 12 14] (oD 15 (oR [oS 16 (.call .any 45 []),oM 4 16] .ret) .skip)) (oR [oM 17 0,oM 18 1,oC2 19 61 17 18,oM 20 0,oM 21 1,oC2 22 62 20 21,oB 23 .eql 19 22,oM 24 23,oMg 25 0 24 true,oMg 26 1 24 true,oCg 27 63 25 26 24 true,oMg 28 0 24 true,oMg 29 1 24 true,oCg 30 64 28 29 24 true,oBg 31 .eql 27 30 24 true,oPa 32 24 31,oM 4 32] .ret))),[(.tmp 4)],2,[]⟩
theorem JP:bA Tryz.prog 15 zL:=okF Tryz.func15
noncomputable def KJ:qB:=cF [] Tryz.f16
theorem xO:bA Tryz.prog 16 KJ:=okF Tryz.func16
noncomputable def ZJ:qB:=cF [] Tryz.f17
theorem bO:bA Tryz.prog 17 ZJ:=okF Tryz.func17
def CW:qB:=⟨(oR [oQ 1 4 0,oS 2 (.alloc [(.sl true []),(.int .i64 0)]),oS 3 (.alloc [(.sl true []),(.int .i64 0)]),oZ 4 false] (oR [oF 11 0 1,oA 12 1 11,oC1 13 34 12,oM 10 13,oX 14 10 0,oX 15 10 1,oS 5 (.alloc [(.sl true [])]),oV 1 5 14,oM 6 15] (oR [oF 17 0 1,oA 18 1 17,oF 19 1 1,oL 20 19,oC2 21 69 18 20,oC1 22 34 21,oM 16 22,oX 23 16 0,oX 24 16 1,oS 7 (.alloc [(.sl true [])]),oV 1 7 23,oM 8 24] (.seq (oR [oM 25 6,oU 26 25,oM 27 26,oMg 28 8 27 false,oUg 29 28 27 false,oPo 30 27 29,oM 31 30,oFg 32 1 1 31 false,oP 33 32 31 false,oHg 34 33 31 false,oCi 35 .gtr 34 5 31 false,oPo 36 31 35] (oD 36 (oR [oS 37 (.build [(.sl true []),(.int .i64 0)] []),oS 38 (.build [(.sl true []),(.int .i64 0)] []),oV 2 2 37,oV 2 3 38,oZ 4 false] .ret) .skip)) (oR [oS 39 (.load (.root 5) true 1 (.t 5)),oF 40 2 1,oLr 41 1 1 40,oS 42 (.conv (.some .i64) (.t 41)),oF 43 0 5,oLr 44 5 1 43,oH 45 44,oB 46 .rem 42 45,oS 47 (.build [(.sl true []),(.int .i64 0)] [(0,(1,(.t 39))),(1,(1,(.t 46)))]),oS 9 (.alloc [(.sl true []),(.int .i64 0)]),oN (.store (.root 9) true 2 (.t 9) (.t 47))] (oR [oS 48 (.load (.root 9) true 2 (.t 9)),oS 49 (.load (.root 7) true 1 (.t 7)),oF 50 1 9,oLr 51 9 1 50,oF 52 3 1,oLr 53 1 1 52,oS 54 (.conv (.some .i64) (.t 53)),oB 55 .add 51 54,oF 56 0 7,oLr 57 7 1 56,oH 58 57,oB 59 .rem 55 58,oS 60 (.build [(.sl true []),(.int .i64 0)] [(0,(1,(.t 49))),(1,(1,(.t 59)))]),oN (.store (.root 2) true 2 (.t 2) (.t 48)),oN (.store (.root 3) true 2 (.t 3) (.t 60)),oZ 4 true] .ret)))))),[(.cell 2 true 2),(.cell 3 true 2),(.tmp 4)],1,[]⟩
theorem M8:bA Tryz.prog 18 CW:=okF Tryz.func18
def XJ:qB:=⟨(oR [oQ 2 2 0,oQ 3 2 1,oZ 4 false,oJ 5 0] (oR [oA 10 2 2,oA 11 2 3,oC2 12 32 10 11,oM 9 12,oX 13 9 0,oX 14 9 1,oX 15 9 2,oM 6 13,oM 7 14,oM 8 15] (.seq (oR [oM 16 8] (.block 0 (oR [oC 18 .eql 16 15,oM 17 18] (oD 17 (oR [oZ 4 true,oJ 5 0] .ret) (oR [oC 20 .eql 16 0,oM 19 20] (oD 19 (oR [oZ 4 false,oJ 5 0] .ret) .skip)))))) (oR [oM 21 8,oZ 4 false,oM 5 21] .ret)))),[(.tmp 4),(.tmp 5)],2,[]⟩
theorem mO:bA Tryz.prog 21 XJ:=okF Tryz.func21
def dG:qB:=⟨(oR [oQ 5 1 0,oQ 7 8 2,oQ 8 1 3,oY 10 zza,oJ 11 0] (.seq (oR [oA 14 1 5,oM 15 1,oA 16 8 7,oA 17 1 8,oM 18 4,oS 19 (.call .any 74 [(.t 14),(.t 15),(.t 16),(.t 17),(.t 18)]),oM 12 19] (oR [oM 20 12,oC 21 .neq 20 0] (oD 21 (oR [oS 22 (.build zza []),oM 23 12,oV 8 10 22,oM 11 23] .ret) .skip))) (oR [oA 24 1 5,oM 25 1,oA 26 8 7,oA 27 1 8,oM 28 4,oS 29 (.call .any 75 [(.t 24),(.t 25),(.t 26),(.t 27),(.t 28),(.c (.sl true []))]),oY 13 zzb,oV 10 13 29] (.seq (oR [oF 30 9 13,oL 31 30,oU 32 31] (oD 32 (oR [oS 33 (.build zza []),oV 8 10 33,oJ 11 12] .ret) .skip)) (oR [oF 34 0 13,oA 35 8 34,oV 8 10 35,oJ 11 0] .ret))))),[(.cell 10 true 8),(.tmp 11)],5,[]⟩
theorem PU:bA Tryz.prog 23 dG:=okF Tryz.func23
def WN:qB:=⟨(oR [oQ 4 1 0,oQ 6 1 2,oJ 8 0,oJ 9 0] (.seq (oR [oA 11 1 4,oM 12 1,oS 13 (.build [(.sl true []),(.int .i64 0)] [(0,(1,(.t 11))),(1,(1,(.t 12)))]),oA 14 1 6,oM 15 3,oS 16 (.build [(.sl true []),(.int .i64 0)] [(0,(1,(.t 14))),(1,(1,(.t 15)))]),oC2 17 76 13 16,oM 10 17] (oR [oM 18 10,oC 19 .neq 18 0] (oD 19 (oR [oM 20 10,oJ 8 0,oM 9 20] .ret) .skip))) (oR [oA 21 1 4,oM 22 1,oA 23 1 6,oM 24 3,oC4 25 77 21 22 23 24,oM 8 25,oJ 9 0] .ret))),[(.tmp 8),(.tmp 9)],4,[]⟩
theorem bT:bA Tryz.prog 24 WN:=okF Tryz.func24
def lR:qB:=⟨(oR [oQ 4 1 0,oQ 6 1 2,oJ 8 0,oJ 9 0] (.seq (oR [oA 11 1 4,oM 12 1,oS 13 (.build [(.sl true []),(.int .i64 0)] [(0,(1,(.t 11))),(1,(1,(.t 12)))]),oA 14 1 6,oM 15 3,oS 16 (.build [(.sl true []),(.int .i64 0)] [(0,(1,(.t 14))),(1,(1,(.t 15)))]),oC2 17 43 13 16,oM 10 17] (oR [oM 18 10,oC 19 .neq 18 0] (oD 19 (oR [oM 20 10,oJ 8 0,oM 9 20] .ret) .skip))) (oR [oA 21 1 4,oM 22 1,oA 23 1 6,oM 24 3,oC4 25 78 21 22 23 24,oM 8 25,oJ 9 0] .ret))),[(.tmp 8),(.tmp 9)],4,[]⟩
theorem jY:bA Tryz.prog 25 lR:=okF Tryz.func25
def CJ:qB:=⟨(oR [oQ 4 1 0,oQ 6 1 2,oS 8 (.mv (.c (.sl true []))),oJ 9 0] (.seq (oR [oA 11 1 4,oM 12 1,oS 13 (.build [(.sl true []),(.int .i64 0)] [(0,(1,(.t 11))),(1,(1,(.t 12)))]),oA 14 1 6,oM 15 3,oS 16 (.build [(.sl true []),(.int .i64 0)] [(0,(1,(.t 14))),(1,(1,(.t 15)))]),oC2 17 76 13 16,oM 10 17] (oR [oM 18 10,oC 19 .neq 18 0] (oD 19 (oR [oM 20 10,oS 8 (.mv (.c (.sl true []))),oM 9 20] .ret) .skip))) (oR [oA 21 1 4,oM 22 1,oA 23 1 6,oM 24 3,oC4 25 79 21 22 23 24,oM 8 25,oJ 9 0] .ret))),[(.tmp 8),(.tmp 9)],4,[]⟩
theorem QO:bA Tryz.prog 26 CJ:=okF Tryz.func26
def kM:qB:=⟨(oR [oQ 4 1 0,oQ 6 1 2,oS 8 (.mv (.c (.sl true []))),oJ 9 0] (.seq (oR [oA 11 1 4,oM 12 1,oS 13 (.build [(.sl true []),(.int .i64 0)] [(0,(1,(.t 11))),(1,(1,(.t 12)))]),oA 14 1 6,oM 15 3,oS 16 (.build [(.sl true []),(.int .i64 0)] [(0,(1,(.t 14))),(1,(1,(.t 15)))]),oC2 17 43 13 16,oM 10 17] (oR [oM 18 10,oC 19 .neq 18 0] (oD 19 (oR [oM 20 10,oS 8 (.mv (.c (.sl true []))),oM 9 20] .ret) .skip))) (oR [oA 21 1 4,oM 22 1,oA 23 1 6,oM 24 3,oC4 25 41 21 22 23 24,oM 8 25,oJ 9 0] .ret))),[(.tmp 8),(.tmp 9)],4,[]⟩
theorem CQ:bA Tryz.prog 27 kM:=okF Tryz.func27
def NT:C:=.seq (oR [oM 11 5,oM 12 0,oH 13 12,oB 14 .lss 11 13] (oD 14 .skip (.exit 0))) (.seq (.block 1 (oR [oM 17 0,oM 18 5,oI 19 2 17 18,oA 20 2 19,oM 21 1,oM 22 5,oI 23 2 21 22,oA 24 2 23,oS 25 (.eqa true [0,0] (.t 20) (.t 24))] (oD 25 (oR [oZ 4 false] .ret) .skip))) (.reg [oM 15 5,oC 16 .add 15 1,oM 5 16]))
def zR:qB:=⟨(oR [oZ 4 false] (.seq (oR [oM 6 0,oH 7 6,oM 8 1,oH 9 8,oB 10 .neq 7 9] (oD 10 (oR [oZ 4 false] .ret) .skip)) (.seq (oR [oJ 5 0] (.block 0 (.loop NT))) (oR [oZ 4 true] .ret)))),[(.tmp 4)],2,[]⟩
theorem kY:bA Tryz.prog 28 zR:=okF Tryz.func28
def jM:qB:=⟨(oR [oQ 2 2 0,oQ 3 2 1,oZ 4 false,oJ 5 0] (.seq (oR [oA 7 2 2,oA 8 2 3,oC2 9 43 7 8,oM 6 9] (oR [oM 10 6,oC 11 .neq 10 0] (oD 11 (oR [oM 12 6,oZ 4 false,oM 5 12] .ret) .skip))) (oR [oF 13 0 2,oA 14 1 13,oF 15 1 2,oL 16 15,oF 17 0 3,oA 18 1 17,oF 19 1 3,oL 20 19,oC4 21 80 14 16 18 20,oM 4 21,oJ 5 0] .ret))),[(.tmp 4),(.tmp 5)],2,[]⟩
theorem XQ:bA Tryz.prog 29 jM:=okF Tryz.func29
def AQ:C:=.seq (oR [oM 44 10,oC 45 .geq 44 0] (oD 45 .skip (.exit 2))) (.seq (.block 3 (.reg [oM 50 13,oM 51 8,oM 52 10,oI 53 2 51 52,oA 54 2 53,oS 55 (.bsl [(.int .i64 0),(.int .i64 0)] 1 [(0,(.t 54))]),oS 56 (.appm .any 63 2 16 (.t 50) (.t 55)),oM 13 56])) (.reg [oM 46 9,oM 47 10,oI 48 1 46 47,oL 49 48,oM 10 49]))
def SQ:C:=oR [oB 29 .lss 28 27] (.seq (oD 29 .skip (.exit 0)) (.seq (.block 1 (oR [oM 30 28,oI 31 2 26 28,oA 32 2 31,oY 11 [(.int .i64 0),(.int .i64 0)],oM 10 30,oV 2 11 32] (oR [oF 33 0 2,oA 34 1 33,oS 35 (.aaddr 2 1 (.t 11) (.c (.int .i64 0))),oL 36 35,oF 37 0 3,oA 38 1 37,oS 39 (.aaddr 2 1 (.t 11) (.c (.int .i64 1))),oL 40 39,oC4 41 77 34 36 38 40,oM 12 41] (.seq (oR [oM 42 12,oC 43 .eql 42 0] (oD 43 (.exit 1) .skip)) (oR [oS 13 (.mv (.c (.sl true [])))] (.seq (.block 2 (.loop AQ)) (oR [oM 57 13,oS 58 (.callh 62 (.c (.fn 86 [])) [(.t 57)])] (oR [oM 59 13,oM 60 12,oM 4 59,oM 5 60,oJ 6 0] .ret)))))))) (.reg [oC 61 .add 28 1,oM 28 61])))
def QN:qB:=⟨(oR [oQ 2 2 0,oQ 3 2 1,oS 4 (.mv (.c (.sl true []))),oJ 5 0,oJ 6 0] (.seq (oR [oA 14 2 2,oA 15 2 3,oC2 16 76 14 15,oM 7 16] (oR [oM 17 7,oC 18 .neq 17 0] (oD 18 (oR [oM 19 7,oS 4 (.mv (.c (.sl true []))),oJ 5 0,oM 6 19] .ret) .skip))) (oR [oA 21 2 2,oA 22 2 3,oC2 23 81 21 22,oM 20 23,oX 24 20 0,oX 25 20 1,oM 8 24,oM 9 25] (.seq (oR [oM 26 8,oH 27 26,oJ 28 0] (.block 0 (.loop SQ))) (oR [oS 4 (.mv (.c (.sl true []))),oJ 5 0,oJ 6 15] .ret))))),[(.tmp 4),(.tmp 5),(.tmp 6)],2,[113,1000000 + 86]⟩
theorem cT:bA Tryz.prog 32 QN:=okF Tryz.func32
def CT:C:=.seq (oR [oM 69 14,oM 70 13,oH 71 70,oB 72 .lss 69 71] (oD 72 .skip (.exit 2))) (.seq (.block 3 (oR [oM 75 9,oM 76 13,oM 77 14,oI 78 2 76 77,oA 79 2 78,oC2 80 35 75 79,oU 81 80] (oD 81 (oR [oM 82 9,oM 83 13,oM 84 14,oI 85 2 83 84,oA 86 2 85,oS 87 (.bsl [(.int .i64 0),(.int .i64 0)] 1 [(0,(.t 86))]),oAp 88 63 2 16 82 87,oM 9 88] (.reg [oM 89 8,oS 90 (.bsl [(.int .i64 0),(.int .i64 0)] 0 []),oM 91 8,oM 92 10,oI 93 1 91 92,oL 94 93,oAp 95 63 2 16 90 94,oM 96 13,oM 97 14,oI 98 2 96 97,oA 99 2 98,oS 100 (.bsl [(.int .i64 0),(.int .i64 0)] 1 [(0,(.t 99))]),oAp 101 63 2 16 95 100,oS 102 (.bsl [(.sl true [])] 1 [(0,(.t 101))]),oAp 103 51 1 24 89 102,oM 8 103])) .skip))) (.reg [oM 73 14,oC 74 .add 73 1,oM 14 74]))
def BT:C:=.seq (oR [oM 34 10,oM 35 8,oH 36 35,oB 37 .lss 34 36] (oD 37 .skip (.exit 0))) (.seq (.block 1 (oR [oM 40 9,oM 41 10,oI 42 2 40 41,oA 43 2 42,oY 11 [(.int .i64 0),(.int .i64 0)],oV 2 11 43] (.seq (oR [oF 44 0 2,oA 45 1 44,oS 46 (.aaddr 2 1 (.t 11) (.c (.int .i64 0))),oL 47 46,oF 48 0 3,oA 49 1 48,oS 50 (.aaddr 2 1 (.t 11) (.c (.int .i64 1))),oL 51 50,oC4 52 78 45 47 49 51,oM 12 52] (oR [oM 53 12,oC 54 .neq 53 0] (oD 54 (oR [oM 55 8,oM 56 10,oI 57 1 55 56,oL 58 57,oM 59 12,oM 4 58,oM 5 59,oJ 6 0] .ret) .skip))) (oR [oF 60 0 2,oA 61 1 60,oS 62 (.aaddr 2 1 (.t 11) (.c (.int .i64 0))),oL 63 62,oF 64 0 3,oA 65 1 64,oS 66 (.aaddr 2 1 (.t 11) (.c (.int .i64 1))),oL 67 66,oC4 68 41 61 63 65 67,oM 13 68] (oR [oJ 14 0] (.block 2 (.loop CT))))))) (.reg [oM 38 10,oC 39 .add 38 1,oM 10 39]))
def gR:qB:=⟨(oR [oQ 2 2 0,oQ 3 2 1,oS 4 (.mv (.c (.sl true []))),oJ 5 0,oJ 6 0] (.seq (oR [oA 15 2 2,oA 16 2 3,oC2 17 43 15 16,oM 7 17] (oR [oM 18 7,oC 19 .neq 18 0] (oD 19 (oR [oM 20 7,oS 4 (.mv (.c (.sl true []))),oJ 5 0,oM 6 20] .ret) .skip))) (oR [oF 21 1 2,oL 22 21,oF 23 1 3,oL 24 23,oS 25 (.build [(.int .i64 0),(.int .i64 0)] [(0,(1,(.t 22))),(1,(1,(.t 24)))]),oS 26 (.bsl [(.int .i64 0),(.int .i64 0)] 1 [(0,(.t 25))]),oS 27 (.bsl [(.sl true [])] 1 [(0,(.t 26))]),oM 8 27] (oR [oF 28 1 2,oL 29 28,oF 30 1 3,oL 31 30,oS 32 (.build [(.int .i64 0),(.int .i64 0)] [(0,(1,(.t 29))),(1,(1,(.t 31)))]),oS 33 (.bsl [(.int .i64 0),(.int .i64 0)] 1 [(0,(.t 32))]),oM 9 33] (.seq (oR [oJ 10 0] (.block 0 (.loop BT))) (oR [oS 4 (.mv (.c (.sl true []))),oJ 5 0,oJ 6 15] .ret)))))),[(.tmp 4),(.tmp 5),(.tmp 6)],2,[]⟩
theorem dY:bA Tryz.prog 33 gR:=okF Tryz.func33
def nG:C:=.seq (oR [oM 69 10,oM 70 9,oH 71 70,oB 72 .lss 69 71] (oD 72 .skip (.exit 3))) (.seq (.block 4 (.reg [oF 75 5 8,oLr 76 8 1 75,oM 77 9,oM 78 10,oI 79 1 77 78,oL 80 79,oM 81 9,oM 82 10,oI 83 1 81 82,oL 84 83,oS 85 (.bin .add false (.c (.int .i64 97)) (.t 84)),oS 86 (.conv (.some .i32) (.t 85)),oS 87 (.rstr (.t 86)),oS 88 (.bin .add false (.c (.str (ByteArray.mk #[115]))) (.t 87)),oS 89 (.build zzc [(0,(1,(.t 80))),(1,(1,(.t 88)))]),oS 90 (.bsl zzc 1 [(0,(.t 89))]),oAp 91 137 2 24 76 90,oF 92 5 8,oN (.store (.root 8) false 1 (.t 92) (.t 91))])) (.reg [oM 73 10,oC 74 .add 73 1,oM 10 74]))
def dR:C:=.seq (oR [oM 21 6,oM 22 4,oB 23 .lss 21 22] (oD 23 .skip (.exit 0))) (.seq (.block 1 (oR [oF 26 0 1,oL 27 26,oM 28 6,oI 29 5 27 28,oA 30 5 29,oY 7 zzd,oV 5 7 30] (oR [oA 31 1 1,oM 32 6,oC2 33 87 31 32,oS 34 (.build zze [(0,(1,(.t 33)))]),oY 8 zze,oV 10 8 34] (.seq (oR [oF 35 0 8,oL 36 35,oC1 37 88 36] (oD 37 (.reg [oM 38 6,oS 39 (.bin .add false (.c (.int .i64 65)) (.t 38)),oS 40 (.conv (.some .i32) (.t 39)),oS 41 (.rstr (.t 40)),oF 42 1 8,oW 42 41]) .skip)) (.seq (oR [oF 43 0 8,oL 44 43] (.block 2 (oR [oC 46 .eql 44 2,oM 45 46] (oD 45 (.reg [oS 47 (.load (.root 7) true 5 (.t 7)),oC1 48 89 47,oS 49 (.load (.root 7) true 5 (.t 7)),oC1 50 90 49,oF 51 2 8,oN (.store (.root 8) false 1 (.t 51) (.t 48)),oF 52 3 8,oN (.store (.root 8) false 1 (.t 52) (.t 50))]) (oR [oC 54 .eql 44 3,oM 53 54] (oD 53 (.reg [oF 55 1 7,oL 56 55,oS 57 (.bin .rem false (.t 56) (.c (.int .u8 4))),oS 58 (.conv (.some .i64) (.t 57)),oF 59 4 8,oW 59 58]) (oR [oC 61 .eql 44 4,oM 60 61] (oD 60 (oR [oF 62 2 7,oL 63 62,oS 64 (.bin .rem false (.t 63) (.c (.int .u8 2))),oS 65 (.bin .eql false (.t 64) (.c (.int .u8 1))),oF 66 9 8,oW 66 65] (oR [oA 67 5 7,oC1 68 91 67,oM 9 68] (oR [oJ 10 0] (.block 3 (.loop nG))))) (oR [oC 94 .eql 44 5,oM 93 94] (oD 93 (.reg [oA 95 1 1,oM 96 6,oS 97 (.callh 171 (.c (.fn 92 [])) [(.t 95),(.t 96),(.c (.bool true))]),oF 98 6 8,oW 98 97]) (oR [oC 100 .eql 44 6,oM 99 100] (oD 99 (oR [oF 101 2 7,oL 102 101,oS 103 (.bin .rem false (.t 102) (.c (.int .u8 2))),oS 104 (.bin .eql false (.t 103) (.c (.int .u8 1))),oF 105 9 8,oW 105 104] (oR [oA 106 1 1,oM 107 6,oS 108 (.callh 171 (.c (.fn 92 [])) [(.t 106),(.t 107),(.c (.bool false))]),oF 109 6 8,oW 109 108] (oR [oF 110 6 8,oL 111 110,oH 112 111,oC 113 .eql 112 0] (oD 113 (.reg [oF 114 1 8,oL 115 114,oS 116 (.build zze [(0,(1,(.c (.int .i64 5)))),(1,(1,(.t 115)))]),oV 10 8 116]) .skip)))) (oR [oC 118 .eql 44 7,oM 117 118] (oD 117 (.reg [oF 119 1 7,oLr 120 7 1 119,oS 121 (.bin .rem false (.t 120) (.c (.int .u8 4))),oS 122 (.conv (.some .i64) (.t 121)),oF 123 3 7,oLr 124 7 1 123,oS 125 (.conv (.some .i64) (.t 124)),oM 126 4,oB 127 .rem 125 126,oF 128 4 8,oN (.store (.root 8) false 1 (.t 128) (.t 122)),oF 129 8 8,oN (.store (.root 8) false 1 (.t 129) (.t 127))]) (oR [oC 131 .eql 44 8,oM 130 131] (oD 130 (oR [oF 132 1 7,oLr 133 7 1 132,oS 134 (.bin .rem false (.t 133) (.c (.int .u8 4))),oS 135 (.conv (.some .i64) (.t 134)),oS 136 (.load (.root 1) true 1 (.t 1)),oF 137 2 7,oLr 138 7 1 137,oC2 139 93 136 138,oF 140 3 7,oLr 141 7 1 140,oS 142 (.conv (.some .i64) (.t 141)),oM 143 4,oB 144 .rem 142 143,oF 145 4 8,oN (.store (.root 8) false 1 (.t 145) (.t 135)),oF 146 7 8,oN (.store (.root 8) false 1 (.t 146) (.t 139)),oF 147 8 8,oN (.store (.root 8) false 1 (.t 147) (.t 144))] (oR [oF 148 7 8,oL 149 148,oC 150 .lss 149 0] (oD 150 (.reg [oF 151 4 8,oL 152 151,oF 153 8 8,oL 154 153,oS 155 (.build zze [(0,(1,(.c (.int .i64 7)))),(4,(1,(.t 152))),(8,(1,(.t 154)))]),oV 10 8 155]) .skip))) (oR [oC 157 .eql 44 9,oM 156 157] (oD 156 (.reg [oF 158 3 7,oL 159 158,oS 160 (.conv (.some .i64) (.t 159)),oM 161 4,oB 162 .rem 160 161,oF 163 8 8,oW 163 162]) .skip)))))))))))))))))) (.reg [oF 164 0 5,oL 165 164,oA 166 10 8,oS 167 (.bslr 10 zze 1 [(0,(.t 166))]),oS 168 (.appn .any 132 10 120 (.t 165) (.t 167)),oF 169 0 5,oW 169 168])))))) (.reg [oM 24 6,oC 25 .add 24 1,oM 6 25]))
def gF:qB:=⟨(oR [oQ 1 1 0,oS 2 (.alloc [(.sl true [])]),oZ 3 false] (oR [oF 11 0 1,oL 12 11,oH 13 12,oM 4 13] (.seq (oR [oM 14 4,oC 15 .lss 14 1,oM 16 15,oMg 17 4 16 false,oCi 18 .gtr 17 5 16 false,oPo 19 16 18] (oD 19 (oR [oS 20 (.build [(.sl true [])] []),oV 1 2 20,oZ 3 false] .ret) .skip)) (oR [oS 5 (.alloc [(.sl true [])])] (.seq (oR [oJ 6 0] (.block 0 (.loop dR))) (oR [oA 170 1 5,oV 1 2 170,oZ 3 true] .ret)))))),[(.cell 2 true 1),(.tmp 3)],1,[5000000,337,334,1000000 + 92]⟩
theorem C8:bA Tryz.prog 34 gF:=okF Tryz.func34
def CH:C:=.seq (oR [oM 6 5,oM 7 0,oH 8 7,oB 9 .lss 6 8] (oD 9 .skip (.exit 0))) (.seq (.block 1 (oR [oM 12 0,oM 13 5,oI 14 2 12 13,oA 15 2 14,oA 16 2 3,oS 17 (.eqa false [0,0] (.t 15) (.t 16))] (oD 17 (oR [oZ 4 true] .ret) .skip))) (.reg [oM 10 5,oC 11 .add 10 1,oM 5 11]))
def qO:qB:=⟨(oR [oQ 3 2 1,oZ 4 false] (.seq (oR [oJ 5 0] (.block 0 (.loop CH))) (oR [oZ 4 false] .ret))),[(.tmp 4)],2,[]⟩
theorem N8:bA Tryz.prog 35 qO:=okF Tryz.func35
noncomputable def jR:qB:=cF [] Tryz.f40
theorem fY:bA Tryz.prog 40 jR:=okF Tryz.func40
def NE:C:=.seq (oR [oM 109 16,oM 110 11,oH 111 110,oB 112 .lss 109 111] (oD 112 .skip (.exit 2))) (.seq (.block 3 (oR [oM 115 15,oM 116 11,oM 117 16,oI 118 2 116 117,oA 119 2 118,oC2 120 35 115 119,oU 121 120] (oD 121 (.reg [oM 122 15,oM 123 11,oM 124 16,oI 125 2 123 124,oA 126 2 125,oS 127 (.bsl [(.int .i64 0),(.int .i64 0)] 1 [(0,(.t 126))]),oAp 128 63 2 16 122 127,oM 15 128]) .skip))) (.reg [oM 113 16,oC 114 .add 113 1,oM 16 114]))
def fG:C:=.seq (oR [oM 32 12,oF 33 6 9,oL 34 33,oH 35 34,oB 36 .lss 32 35] (oD 36 .skip (.exit 0))) (.seq (.block 1 (oR [oA 40 10 10,oF 41 6 9,oL 42 41,oM 43 12,oI 44 13 42 43,oF 45 0 44,oL 46 45,oC2 47 99 40 46,oM 39 47,oX 48 39 0,oX 49 39 1,oM 13 48,oM 14 49] (oR [oM 50 14] (oD 50 (.reg [oM 51 11,oF 52 6 9,oL 53 52,oM 54 12,oI 55 13 53 54,oF 56 2 55,oL 57 56,oF 58 6 10,oL 59 58,oM 60 13,oI 61 13 59 60,oF 62 2 61,oL 63 62,oS 64 (.build [(.int .i64 0),(.int .i64 0)] [(0,(1,(.t 57))),(1,(1,(.t 63)))]),oS 65 (.bsl [(.int .i64 0),(.int .i64 0)] 1 [(0,(.t 64))]),oAp 66 63 2 16 51 65,oM 11 66]) .skip)))) (.reg [oM 37 12,oC 38 .add 37 1,oM 12 38]))
def dJ:qB:=⟨(oR [oQ 4 1 0,oQ 6 1 2,oS 8 (.mv (.c (.sl true [])))] (oR [oF 17 0 4,oLr 18 4 1 17,oM 19 1,oI 20 10 18 19,oS 21 (.load .imm true 10 (.t 20)),oF 22 0 6,oLr 23 6 1 22,oM 24 3,oI 25 10 23 24,oS 26 (.load .imm true 10 (.t 25)),oY 9 zze,oY 10 zze,oN (.store (.root 9) true 10 (.t 9) (.t 21)),oN (.store (.root 10) true 10 (.t 10) (.t 26))] (.seq (oR [oF 27 0 9,oL 28 27,oF 29 0 10,oL 30 29,oB 31 .neq 28 30] (oD 31 (oR [oS 8 (.mv (.c (.sl true [])))] .ret) .skip)) (oR [oS 11 (.mv (.c (.sl true [])))] (.seq (oR [oJ 12 0] (.block 0 (.loop fG))) (.seq (oR [oF 67 0 9,oL 68 67,oC 69 .eql 68 8,oM 70 69,oFg 71 4 9 70 true,oP 72 71 70 true,oCi 73 .gtr 72 0 70 true,oPa 74 70 73] (oD 74 (.reg [oM 75 11,oF 76 7 9,oL 77 76,oF 78 7 10,oL 79 78,oS 80 (.build [(.int .i64 0),(.int .i64 0)] [(0,(1,(.t 77))),(1,(1,(.t 79)))]),oS 81 (.bsl [(.int .i64 0),(.int .i64 0)] 1 [(0,(.t 80))]),oAp 82 63 2 16 75 81,oM 11 82]) .skip)) (.seq (oR [oF 83 0 9,oL 84 83,oC 85 .eql 84 9,oM 86 85,oFg 87 0 9 86 false,oP 88 87 86 false,oCi 89 .eql 88 7 86 false,oMg 90 89 86 false,oFg 91 0 9 90 false,oP 92 91 90 false,oCi 93 .eql 92 8 90 false,oG 94 (.pick (.t 90) (.c (.bool true)) (.t 93)) 86 false,oMg 95 94 86 false,oFg 96 4 9 95 true,oP 97 96 95 true,oCi 98 .gtr 97 0 95 true,oPb 99 95 98 86 false,oPo 100 86 99] (oD 100 (.reg [oM 101 11,oF 102 8 9,oL 103 102,oF 104 8 10,oL 105 104,oS 106 (.build [(.int .i64 0),(.int .i64 0)] [(0,(1,(.t 103))),(1,(1,(.t 105)))]),oS 107 (.bsl [(.int .i64 0),(.int .i64 0)] 1 [(0,(.t 106))]),oAp 108 63 2 16 101 107,oM 11 108]) .skip)) (oR [oS 15 (.mv (.c (.sl true [])))] (.seq (oR [oJ 16 0] (.block 2 (.loop NE))) (oR [oM 129 15,oM 8 129] .ret)))))))))),[(.tmp 8)],4,[]⟩
theorem mZ:bA Tryz.prog 41 dJ:=okF Tryz.func41
def LG:C:=.seq (oR [oM 36 6,oF 37 6 5,oL 38 37,oH 39 38,oB 40 .lss 36 39,oM 41 40,oMg 42 6 41 true,oCi 43 .lss 42 100 41 true,oPa 44 41 43] (oD 44 .skip (.exit 2))) (.seq (.block 3 (.reg [oM 47 3,oF 48 6 5,oL 49 48,oM 50 6,oI 51 13 49 50,oF 52 5 51,oA 53 8 52,oC1 54 100 53,oB 55 .add 47 54,oF 56 6 5,oL 57 56,oM 58 6,oI 59 13 57 58,oF 60 1 59,oL 61 60,oS 62 (.len true (.t 61)),oB 63 .add 55 62,oM 3 63])) (.reg [oM 45 6,oC 46 .add 45 1,oM 6 46]))
def gM:C:=.seq (oR [oM 11 4,oF 12 0 1,oL 13 12,oH 14 13,oB 15 .lss 11 14] (oD 15 .skip (.exit 0))) (.seq (.block 1 (oR [oF 18 0 1,oL 19 18,oM 20 4,oI 21 10 19 20,oA 22 10 21,oY 5 zze,oV 10 5 22] (oR [oM 23 3,oF 24 6 5,oL 25 24,oH 26 25,oB 27 .add 23 26,oF 28 5 5,oL 29 28,oH 30 29,oB 31 .add 27 30,oF 32 1 5,oL 33 32,oS 34 (.len true (.t 33)),oB 35 .add 31 34,oM 3 35] (oR [oJ 6 0] (.block 2 (.loop LG)))))) (.reg [oM 16 4,oC 17 .add 16 1,oM 4 17]))
def MK:qB:=⟨(oR [oQ 1 1 0,oZ 2 false] (.seq (oR [oF 7 0 1,oL 8 7,oH 9 8,oC 10 .gtr 9 40] (oD 10 (oR [oZ 2 false] .ret) .skip)) (oR [oJ 3 0] (.seq (oR [oJ 4 0] (.block 0 (.loop gM))) (oR [oM 64 3,oC 65 .leq 64 400,oM 2 65] .ret))))),[(.tmp 2)],1,[]⟩
theorem Q4:bA Tryz.prog 42 MK:=okF Tryz.func42
def kR:qB:=⟨(oR [oQ 2 2 0,oQ 3 2 1,oJ 4 0] (.seq (oR [oF 6 0 2,oA 7 1 6,oF 8 1 2,oL 9 8,oC2 10 101 7 9,oM 5 10] (oR [oM 11 5,oC 12 .neq 11 0] (oD 12 (oR [oM 13 5,oM 4 13] .ret) .skip))) (oR [oF 14 0 3,oA 15 1 14,oF 16 1 3,oL 17 16,oC2 18 101 15 17,oM 4 18] .ret))),[(.tmp 4)],2,[]⟩
theorem gY:bA Tryz.prog 43 kR:=okF Tryz.func43
def kF:C:=.seq (oR [oM 37 9,oF 38 1 1,oL 39 38,oH 40 39,oB 41 .lss 37 40] (oD 41 .skip (.exit 0))) (.seq (.block 1 (.seq (oR [oF 44 1 1,oL 45 44,oM 46 9,oI 47 1 45 46,oL 48 47,oH 49 48,oC 50 .gtr 49 3] (oD 50 (oR [oS 2 (.mv (.c (.sl true []))),oZ 3 false] .ret) .skip)) (oR [oS 51 (.load (.root 8) true 1 (.t 8)),oF 52 1 1,oLr 53 1 1 52,oM 54 9,oI 55 1 53 54,oS 56 (.load .imm false 1 (.t 55)),oS 57 (.call .imm 69 [(.t 51),(.t 56)]),oN (.store (.root 8) true 1 (.t 8) (.t 57))] (oR [oA 59 1 8,oC1 60 34 59,oM 58 60,oX 61 58 0,oX 62 58 1,oV 1 4 61,oM 5 62] (.seq (oR [oM 63 5,oU 64 63] (oD 64 (oR [oS 2 (.mv (.c (.sl true []))),oZ 3 false] .ret) .skip)) (.reg [oM 65 7,oA 66 1 4,oM 67 6,oS 68 (.build [(.sl true []),(.int .i64 0)] [(0,(1,(.t 66))),(1,(1,(.t 67)))]),oS 69 (.bsl [(.sl true []),(.int .i64 0)] 1 [(0,(.t 68))]),oAp 70 33 2 32 65 69,oM 7 70])))))) (.reg [oM 42 9,oC 43 .add 42 1,oM 9 43]))
def aK:qB:=⟨(oR [oQ 1 3 0,oS 2 (.mv (.c (.sl true []))),oZ 3 false] (oR [oF 11 0 1,oA 12 1 11,oC1 13 34 12,oM 10 13,oX 14 10 0,oX 15 10 1,oS 4 (.alloc [(.sl true [])]),oV 1 4 14,oM 5 15] (.seq (oR [oM 16 5,oU 17 16,oM 18 17,oFg 19 1 1 18 false,oP 20 19 18 false,oHg 21 20 18 false,oCi 22 .gtr 21 4 18 false,oPo 23 18 22] (oD 23 (oR [oS 2 (.mv (.c (.sl true []))),oZ 3 false] .ret) .skip)) (oR [oF 24 2 1,oL 25 24,oS 26 (.conv (.some .i64) (.t 25)),oF 27 0 4,oL 28 27,oH 29 28,oB 30 .rem 26 29,oM 6 30] (oR [oA 31 1 4,oM 32 6,oS 33 (.build [(.sl true []),(.int .i64 0)] [(0,(1,(.t 31))),(1,(1,(.t 32)))]),oS 34 (.bsl [(.sl true []),(.int .i64 0)] 1 [(0,(.t 33))]),oM 7 34] (oR [oF 35 0 1,oA 36 1 35,oS 8 (.alloc [(.sl true [])]),oV 1 8 36] (.seq (oR [oJ 9 0] (.block 0 (.loop kF))) (oR [oM 71 7,oM 2 71,oZ 3 true] .ret)))))))),[(.tmp 2),(.tmp 3)],1,[]⟩
theorem q9:bA Tryz.prog 44 aK:=okF Tryz.func44
noncomputable def sR:qB:=cF [] Tryz.f45
theorem ZX:bA Tryz.prog 45 sR:=okF Tryz.func45
def UQ:C:=oR [oB 30 .lss 29 28] (.seq (oD 30 .skip (.exit 2)) (.seq (.block 3 (oR [oI 31 2 27 29,oA 32 2 31,oS 9 (.alloc [(.sl true []),(.int .i64 0)]),oV 2 9 32] (oR [oA 34 2 7,oA 35 2 9,oC2 36 21 34 35,oM 33 36,oX 37 33 0,oX 38 33 1,oM 10 37,oM 11 38] (.reg [oM 39 5,oM 40 6,oM 41 5,oM 42 6,oI 43 1 41 42,oL 44 43,oM 45 10,oS 46 (.bsl [(.bool false)] 1 [(0,(.t 45))]),oAp 47 4 1 1 44 46,oI 48 1 39 40,oW 48 47])))) (.reg [oC 49 .add 29 1,oM 29 49])))
def IQ:C:=oR [oB 23 .lss 22 21] (.seq (oD 23 .skip (.exit 0)) (.seq (.block 1 (oR [oM 24 22,oI 25 2 20 22,oA 26 2 25,oS 7 (.alloc [(.sl true []),(.int .i64 0)]),oM 6 24,oV 2 7 26] (oR [oM 27 0,oH 28 27,oJ 29 0] (.block 2 (.loop UQ))))) (.reg [oC 50 .add 22 1,oM 22 50])))
def pH:qB:=⟨(oR [oS 2 (.mv (.c (.sl true []))),oJ 3 0] (.seq (oR [oM 12 0,oC1 13 103 12,oM 4 13] (oR [oM 14 4,oC 15 .neq 14 0] (oD 15 (oR [oM 16 4,oS 2 (.mv (.c (.sl true []))),oM 3 16] .ret) .skip))) (oR [oM 17 0,oH 18 17,oS 19 (.mks 1 24 [(.sl true [])] (.t 18) (.t 18)),oM 5 19] (.seq (oR [oM 20 0,oH 21 20,oJ 22 0] (.block 0 (.loop IQ))) (oR [oM 51 5,oM 2 51,oJ 3 0] .ret))))),[(.tmp 2),(.tmp 3)],1,[]⟩
theorem uT:bA Tryz.prog 46 pH:=okF Tryz.func46
def WS:C:=.seq (oR [oM 20 8,oM 21 0,oH 22 21,oB 23 .lss 20 22] (oD 23 .skip (.exit 2))) (.seq (.block 3 (.reg [oM 26 7,oM 27 0,oM 28 6,oM 29 8,oS 30 (.call .any 104 [(.t 27),(.t 28),(.t 29)]),oS 31 (.bsl [(.bool false)] 1 [(0,(.t 30))]),oAp 32 4 1 1 26 31,oM 7 32])) (.reg [oM 24 8,oC 25 .add 24 1,oM 8 25]))
def ES:C:=.seq (oR [oM 14 6,oM 15 0,oH 16 15,oB 17 .lss 14 16] (oD 17 .skip (.exit 0))) (.seq (.block 1 (oR [oS 7 (.mv (.c (.sl true [])))] (.seq (oR [oJ 8 0] (.block 2 (.loop WS))) (.reg [oM 33 5,oM 34 7,oS 35 (.bsl [(.sl true [])] 1 [(0,(.t 34))]),oAp 36 71 1 24 33 35,oM 5 36])))) (.reg [oM 18 6,oC 19 .add 18 1,oM 6 19]))
def mP:qB:=⟨(oR [oS 2 (.mv (.c (.sl true []))),oJ 3 0] (.seq (oR [oM 9 0,oC1 10 58 9,oM 4 10] (oR [oM 11 4,oC 12 .neq 11 0] (oD 12 (oR [oM 13 4,oS 2 (.mv (.c (.sl true []))),oM 3 13] .ret) .skip))) (oR [oS 5 (.mv (.c (.sl true [])))] (.seq (oR [oJ 6 0] (.block 0 (.loop ES))) (oR [oM 37 5,oM 2 37,oJ 3 0] .ret))))),[(.tmp 2),(.tmp 3)],1,[]⟩
theorem dW:bA Tryz.prog 47 mP:=okF Tryz.func47
def uF:C:=.seq (oR [oM 45 11,oM 46 10,oH 47 46,oB 48 .lss 45 47] (oD 48 .skip (.exit 4))) (.seq (.block 5 (oR [oM 51 0,oM 52 7,oF 53 1 9,oL 54 53,oM 55 10,oM 56 11,oI 57 1 55 56,oL 58 57,oC4 59 108 51 52 54 58] (oD 59 (oR [oM 60 7,oF 61 1 9,oL 62 61,oM 63 10,oM 64 11,oI 65 1 63 64,oL 66 65,oM 2 60,oM 3 62,oM 4 66,oJ 5 0] .ret) .skip))) (.reg [oM 49 11,oC 50 .add 49 1,oM 11 50]))
def AG:C:=.seq (oR [oM 23 8,oM 24 0,oM 25 7,oI 26 2 24 25,oF 27 0 26,oF 28 0 27,oL 29 28,oH 30 29,oB 31 .lss 23 30] (oD 31 .skip (.exit 2))) (.seq (.block 3 (oR [oM 34 0,oM 35 7,oI 36 2 34 35,oF 37 0 36,oF 38 0 37,oL 39 38,oM 40 8,oI 41 10 39 40,oA 42 10 41,oY 9 zze,oV 10 9 42] (oR [oA 43 10 9,oC1 44 107 43,oM 10 44] (oR [oJ 11 0] (.block 4 (.loop uF)))))) (.reg [oM 32 8,oC 33 .add 32 1,oM 8 33]))
def lJ:C:=.seq (oR [oM 17 7,oM 18 0,oH 19 18,oB 20 .lss 17 19] (oD 20 .skip (.exit 0))) (.seq (.block 1 (oR [oJ 8 0] (.block 2 (.loop AG)))) (.reg [oM 21 7,oC 22 .add 21 1,oM 7 22]))
def kJ:qB:=⟨(oR [oJ 2 0,oS 3 (.mv (.c (.str (ByteArray.mk #[])))),oJ 4 0,oJ 5 0] (.seq (oR [oM 12 0,oC1 13 58 12,oM 6 13] (oR [oM 14 6,oC 15 .neq 14 0] (oD 15 (oR [oM 16 6,oJ 2 0,oS 3 (.mv (.c (.str (ByteArray.mk #[])))),oJ 4 0,oM 5 16] .ret) .skip))) (.seq (oR [oJ 7 0] (.block 0 (.loop lJ))) (oR [oJ 2 0,oS 3 (.mv (.c (.str (ByteArray.mk #[])))),oJ 4 0,oJ 5 15] .ret)))),[(.tmp 2),(.tmp 3),(.tmp 4),(.tmp 5)],1,[]⟩
theorem fW:bA Tryz.prog 49 kJ:=okF Tryz.func49
def eP:C:=oR [oB 20 .lss 19 18] (.seq (oD 20 .skip (.exit 2)) (.seq (.block 3 (oR [oM 21 19,oM 7 21] (oR [oM 22 4,oM 23 7,oI 24 1 22 23,oL 25 24,oM 26 6,oI 27 1 25 26,oL 28 27,oU 29 28] (oD 29 (oR [oM 30 5,oZ 2 false,oM 3 30] .ret) .skip)))) (.reg [oC 31 .add 19 1,oM 19 31])))
def JJ:C:=oR [oB 16 .lss 15 14] (.seq (oD 16 .skip (.exit 0)) (.seq (.block 1 (oR [oM 17 15,oM 6 17] (oR [oM 18 6,oJ 19 0] (.block 2 (.loop eP))))) (.reg [oC 32 .add 15 1,oM 15 32])))
def XF:qB:=⟨(oR [oZ 2 false,oJ 3 0] (oR [oM 9 0,oC1 10 46 9,oM 8 10,oX 11 8 0,oX 12 8 1,oM 4 11,oM 5 12] (.seq (oR [oM 13 4,oH 14 13,oJ 15 0] (.block 0 (.loop JJ))) (oR [oM 33 5,oC 34 .eql 33 0,oM 35 5,oM 2 34,oM 3 35] .ret)))),[(.tmp 2),(.tmp 3)],1,[]⟩
theorem KQ:bA Tryz.prog 50 XF:=okF Tryz.func50
def OQ:C:=.seq (oR [oM 18 6,oM 19 5,oB 20 .lss 18 19] (oD 20 .skip (.exit 2))) (.seq (.block 3 (oR [oM 23 0,oM 24 6,oM 25 5,oS 26 (.call .any 104 [(.t 23),(.t 24),(.t 25)]),oU 27 26] (oD 27 (oR [oZ 2 false,oJ 3 0] .ret) .skip))) (.reg [oM 21 6,oC 22 .add 21 1,oM 6 22]))
def PQ:C:=.seq (oR [oM 12 5,oM 13 0,oH 14 13,oB 15 .lss 12 14] (oD 15 .skip (.exit 0))) (.seq (.block 1 (oR [oJ 6 0] (.block 2 (.loop OQ)))) (.reg [oM 16 5,oC 17 .add 16 1,oM 5 17]))
def mN:qB:=⟨(oR [oZ 2 false,oJ 3 0] (.seq (oR [oM 7 0,oC1 8 58 7,oM 4 8] (oR [oM 9 4,oC 10 .neq 9 0] (oD 10 (oR [oM 11 4,oZ 2 false,oM 3 11] .ret) .skip))) (.seq (oR [oJ 5 0] (.block 0 (.loop PQ))) (oR [oZ 2 true,oJ 3 0] .ret)))),[(.tmp 2),(.tmp 3)],1,[]⟩
theorem lT:bA Tryz.prog 51 mN:=okF Tryz.func51
def zP:C:=oR [oB 20 .lss 19 18] (.seq (oD 20 .skip (.exit 2)) (.seq (.block 3 (oR [oM 21 19,oM 7 21] (oR [oM 22 4,oM 23 6,oI 24 1 22 23,oL 25 24,oM 26 7,oI 27 1 25 26,oL 28 27,oU 29 28] (oD 29 (oR [oM 30 5,oZ 2 false,oM 3 30] .ret) .skip)))) (.reg [oC 31 .add 19 1,oM 19 31])))
def BK:C:=oR [oB 16 .lss 15 14] (.seq (oD 16 .skip (.exit 0)) (.seq (.block 1 (oR [oM 17 15,oM 6 17] (oR [oM 18 6,oJ 19 0] (.block 2 (.loop zP))))) (.reg [oC 32 .add 15 1,oM 15 32])))
def TG:qB:=⟨(oR [oZ 2 false,oJ 3 0] (oR [oM 9 0,oC1 10 46 9,oM 8 10,oX 11 8 0,oX 12 8 1,oM 4 11,oM 5 12] (.seq (oR [oM 13 4,oH 14 13,oJ 15 0] (.block 0 (.loop BK))) (oR [oM 33 5,oC 34 .eql 33 0,oM 35 5,oM 2 34,oM 3 35] .ret)))),[(.tmp 2),(.tmp 3)],1,[]⟩
theorem NR:bA Tryz.prog 52 TG:=okF Tryz.func52
def TR:C:=.seq (oR [oM 18 6,oM 19 5,oB 20 .lss 18 19] (oD 20 .skip (.exit 2))) (.seq (.block 3 (oR [oM 23 0,oM 24 5,oM 25 6,oS 26 (.call .any 104 [(.t 23),(.t 24),(.t 25)]),oU 27 26] (oD 27 (oR [oZ 2 false,oJ 3 0] .ret) .skip))) (.reg [oM 21 6,oC 22 .add 21 1,oM 6 22]))
def UR:C:=.seq (oR [oM 12 5,oM 13 0,oH 14 13,oB 15 .lss 12 14] (oD 15 .skip (.exit 0))) (.seq (.block 1 (oR [oJ 6 0] (.block 2 (.loop TR)))) (.reg [oM 16 5,oC 17 .add 16 1,oM 5 17]))
def ZO:qB:=⟨(oR [oZ 2 false,oJ 3 0] (.seq (oR [oM 7 0,oC1 8 58 7,oM 4 8] (oR [oM 9 4,oC 10 .neq 9 0] (oD 10 (oR [oM 11 4,oZ 2 false,oM 3 11] .ret) .skip))) (.seq (oR [oJ 5 0] (.block 0 (.loop UR))) (oR [oZ 2 true,oJ 3 0] .ret)))),[(.tmp 2),(.tmp 3)],1,[]⟩
theorem DU:bA Tryz.prog 53 ZO:=okF Tryz.func53
def nS:C:=.seq (oR [oM 21 8,oM 22 4,oH 23 22,oB 24 .lss 21 23,oM 25 24,oMg 26 4 25 true,oMg 27 8 25 true,oCi 28 .sub 27 1 25 true,oIg 29 1 26 28 25 true,oP 30 29 25 true,oMg 31 8 25 true,oIg 32 1 30 31 25 true,oP 33 32 25 true,oPa 34 25 33] (oD 34 .skip (.exit 2))) (.seq (.block 3 (oR [oM 37 4,oM 38 7,oI 39 1 37 38,oL 40 39,oM 41 8,oI 42 1 40 41,oL 43 42,oU 44 43] (oD 44 (.reg [oM 45 6,oM 46 7,oM 47 8,oS 48 (.build [(.int .i64 0),(.int .i64 0)] [(0,(1,(.t 46))),(1,(1,(.t 47)))]),oS 49 (.bsl [(.int .i64 0),(.int .i64 0)] 1 [(0,(.t 48))]),oAp 50 63 2 16 45 49,oM 6 50]) .skip))) (.reg [oM 35 8,oC 36 .add 35 1,oM 8 36]))
def ZM:C:=oR [oB 17 .lss 16 15] (.seq (oD 17 .skip (.exit 0)) (.seq (.block 1 (oR [oM 18 16,oM 7 18] (oR [oM 19 7,oC 20 .add 19 1,oM 8 20] (.block 2 (.loop nS))))) (.reg [oC 51 .add 16 1,oM 16 51])))
def BI:qB:=⟨(oR [oS 2 (.mv (.c (.sl true []))),oJ 3 0] (oR [oM 10 0,oC1 11 46 10,oM 9 11,oX 12 9 0,oX 13 9 1,oM 4 12,oM 5 13] (oR [oS 6 (.mv (.c (.sl true [])))] (.seq (oR [oM 14 4,oH 15 14,oJ 16 0] (.block 0 (.loop ZM))) (oR [oM 52 6,oM 53 5,oM 2 52,oM 3 53] .ret))))),[(.tmp 2),(.tmp 3)],1,[]⟩
theorem BV:bA Tryz.prog 54 BI:=okF Tryz.func54
def ZV:C:=.seq (oR [oM 21 7,oM 22 0,oH 23 22,oB 24 .lss 21 23,oM 25 24,oMg 26 0 25 true,oMg 27 7 25 true,oCi 28 .sub 27 1 25 true,oMg 29 7 25 true,oG 30 (.call .any 104 [(.t 26),(.t 28),(.t 29)]) 25 true,oPa 31 25 30] (oD 31 .skip (.exit 2))) (.seq (.block 3 (oR [oM 34 0,oM 35 6,oM 36 7,oS 37 (.call .any 104 [(.t 34),(.t 35),(.t 36)]),oU 38 37] (oD 38 (.reg [oM 39 5,oM 40 6,oM 41 7,oS 42 (.build [(.int .i64 0),(.int .i64 0)] [(0,(1,(.t 40))),(1,(1,(.t 41)))]),oS 43 (.bsl [(.int .i64 0),(.int .i64 0)] 1 [(0,(.t 42))]),oAp 44 63 2 16 39 43,oM 5 44]) .skip))) (.reg [oM 32 7,oC 33 .add 32 1,oM 7 33]))
def XV:C:=.seq (oR [oM 13 6,oM 14 0,oH 15 14,oB 16 .lss 13 15] (oD 16 .skip (.exit 0))) (.seq (.block 1 (oR [oM 19 6,oC 20 .add 19 1,oM 7 20] (.block 2 (.loop ZV)))) (.reg [oM 17 6,oC 18 .add 17 1,oM 6 18]))
def QS:qB:=⟨(oR [oS 2 (.mv (.c (.sl true []))),oJ 3 0] (.seq (oR [oM 8 0,oC1 9 58 8,oM 4 9] (oR [oM 10 4,oC 11 .neq 10 0] (oD 11 (oR [oM 12 4,oS 2 (.mv (.c (.sl true []))),oM 3 12] .ret) .skip))) (oR [oS 5 (.mv (.c (.sl true [])))] (.seq (oR [oJ 6 0] (.block 0 (.loop XV))) (oR [oM 45 5,oM 2 45,oJ 3 0] .ret))))),[(.tmp 2),(.tmp 3)],1,[]⟩
theorem EZ:bA Tryz.prog 55 QS:=okF Tryz.func55
def AC:qB:=⟨(oR [oZ 4 false] (oR [oM 5 0,oM 6 1,oC2 7 109 5 6,oC 8 .geq 7 0,oM 4 8] .ret)),[(.tmp 4)],2,[]⟩
theorem GJ:bA Tryz.prog 56 AC:=okF Tryz.func56
def KD:qB:=⟨(oR [oQ 1 2 0,oZ 2 false] (oR [oF 3 0 1,oA 4 1 3,oC1 5 42 4,oU 6 5,oM 2 6] .ret)),[(.tmp 2)],1,[]⟩
theorem IM:bA Tryz.prog 57 KD:=okF Tryz.func57
def gD:C:=.seq (oR [oM 8 3,oM 9 0,oH 10 9,oB 11 .lss 8 10] (oD 11 .skip (.exit 0))) (.seq (.block 1 (.seq (oR [oM 14 0,oM 15 3,oI 16 2 14 15,oF 17 0 16,oA 18 1 17,oC1 19 97 18,oM 4 19] (oR [oM 20 4,oC 21 .neq 20 0] (oD 21 (oR [oM 22 4,oM 2 22] .ret) .skip))) (oR [oM 23 0,oM 24 3,oI 25 2 23 24,oF 26 1 25,oL 27 26,oC 28 .lss 27 0,oM 29 28,oMg 30 0 29 false,oMg 31 3 29 false,oIg 32 2 30 31 29 false,oFg 33 1 32 29 false,oP 34 33 29 false,oMg 35 0 29 false,oMg 36 3 29 false,oIg 37 2 35 36 29 false,oFg 38 0 37 29 false,oFg 39 0 38 29 false,oP 40 39 29 false,oHg 41 40 29 false,oBg 42 .geq 34 41 29 false,oPo 43 29 42] (oD 43 (oR [oJ 2 4] .ret) .skip)))) (.reg [oM 12 3,oC 13 .add 12 1,oM 3 13]))
def jF:qB:=⟨(oR [oJ 2 0] (.seq (oR [oM 5 0,oH 6 5,oC 7 .gtr 6 8] (oD 7 (oR [oJ 2 3] .ret) .skip)) (.seq (oR [oJ 3 0] (.block 0 (.loop gD))) (oR [oJ 2 0] .ret)))),[(.tmp 2)],1,[]⟩
theorem lY:bA Tryz.prog 58 jF:=okF Tryz.func58
def DG:qB:=⟨(oR [oZ 4 false] (oR [oM 5 0,oM 6 1,oC2 7 110 5 6,oC 8 .geq 7 0,oM 4 8] .ret)),[(.tmp 4)],2,[]⟩
theorem kL:bA Tryz.prog 59 DG:=okF Tryz.func59
def NI:qB:=⟨(oR [oZ 2 false] (oR [oM 3 0,oH 4 3,oC 5 .gtr 4 10,oM 2 5] .ret)),[(.tmp 2)],1,[]⟩
theorem JN:bA Tryz.prog 60 NI:=okF Tryz.func60
def xP:C:=oR [oB 19 .lss 18 17] (.seq (oD 19 .skip (.exit 2)) (.seq (.block 3 (oR [oM 20 18,oM 9 20] (.reg [oM 21 8,oM 22 21,oMg 23 1 22 true,oMg 24 9 22 true,oBg 25 .shr 23 24 22 true,oG 26 (.bin .and false (.t 25) (.c (.int .u8 1))) 22 true,oG 27 (.bin .eql false (.t 26) (.c (.int .u8 0))) 22 true,oMg 28 27 22 true,oMg 29 0 28 false,oMg 30 9 28 false,oMg 31 7 28 false,oG 32 (.call .any 111 [(.t 29),(.t 30),(.t 31)]) 28 false,oG 33 (.pick (.t 28) (.c (.bool true)) (.t 32)) 22 true,oPa 34 22 33,oM 8 34]))) (.reg [oC 35 .add 18 1,oM 18 35])))
def cP:C:=oR [oB 15 .lss 14 13] (.seq (oD 15 .skip (.exit 0)) (.seq (.block 1 (oR [oM 16 14,oM 7 16] (oR [oZ 8 true] (.seq (oR [oM 17 5,oJ 18 0] (.block 2 (.loop xP))) (oR [oM 36 8] (oD 36 (.reg [oM 37 6,oM 38 7,oS 39 (.bin .shl false (.c (.int .u8 1)) (.t 38)),oB 40 .or 37 39,oM 6 40]) .skip)))))) (.reg [oC 41 .add 14 1,oM 14 41])))
def XM:qB:=⟨(oR [oS 4 (.mv (.c (.int .u8 0)))] (oR [oM 10 0,oH 11 10,oS 12 (.mm false (.t 11) (.c (.int .i64 8))),oM 5 12] (oR [oS 6 (.mv (.c (.int .u8 0)))] (.seq (oR [oM 13 5,oJ 14 0] (.block 0 (.loop cP))) (oR [oM 42 6,oM 4 42] .ret))))),[(.tmp 4)],2,[]⟩
theorem MR:bA Tryz.prog 61 XM:=okF Tryz.func61
def IR:C:=.seq (oR [oM 18 9,oM 19 6,oB 20 .lss 18 19] (oD 20 .skip (.exit 2))) (.seq (.block 3 (.reg [oM 23 8,oM 24 23,oMg 25 1 24 true,oMg 26 9 24 true,oCg 27 112 25 26 24 true,oUg 28 27 24 true,oMg 29 28 24 true,oMg 30 0 29 false,oMg 31 9 29 false,oMg 32 7 29 false,oG 33 (.call .any 113 [(.t 30),(.t 31),(.t 32)]) 29 false,oG 34 (.pick (.t 29) (.c (.bool true)) (.t 33)) 24 true,oPa 35 24 34,oM 8 35])) (.reg [oM 21 9,oC 22 .add 21 1,oM 9 22]))
def OR:C:=.seq (oR [oM 13 7,oM 14 6,oB 15 .lss 13 14] (oD 15 .skip (.exit 0))) (.seq (.block 1 (oR [oZ 8 true] (.seq (oR [oJ 9 0] (.block 2 (.loop IR))) (oR [oM 36 8] (oD 36 (.reg [oM 37 5,oM 38 7,oS 39 (.bin .shl false (.c (.int .u8 1)) (.t 38)),oB 40 .or 37 39,oM 5 40]) .skip))))) (.reg [oM 16 7,oC 17 .add 16 1,oM 7 17]))
def XO:qB:=⟨(oR [oS 4 (.mv (.c (.int .u8 0)))] (oR [oS 5 (.mv (.c (.int .u8 0)))] (oR [oM 10 0,oH 11 10,oS 12 (.mm false (.c (.int .i64 8)) (.t 11)),oM 6 12] (.seq (oR [oJ 7 0] (.block 0 (.loop OR))) (oR [oM 41 5,oM 4 41] .ret))))),[(.tmp 4)],2,[]⟩
theorem FU:bA Tryz.prog 62 XO:=okF Tryz.func62
def bP:C:=oR [oB 19 .lss 18 17] (.seq (oD 19 .skip (.exit 2)) (.seq (.block 3 (oR [oM 20 18,oM 9 20] (.reg [oM 21 8,oM 22 21,oMg 23 1 22 true,oMg 24 9 22 true,oBg 25 .shr 23 24 22 true,oG 26 (.bin .and false (.t 25) (.c (.int .u8 1))) 22 true,oG 27 (.bin .eql false (.t 26) (.c (.int .u8 0))) 22 true,oMg 28 27 22 true,oMg 29 0 28 false,oMg 30 7 28 false,oMg 31 9 28 false,oG 32 (.call .any 111 [(.t 29),(.t 30),(.t 31)]) 28 false,oG 33 (.pick (.t 28) (.c (.bool true)) (.t 32)) 22 true,oPa 34 22 33,oM 8 34]))) (.reg [oC 35 .add 18 1,oM 18 35])))
def nP:C:=oR [oB 15 .lss 14 13] (.seq (oD 15 .skip (.exit 0)) (.seq (.block 1 (oR [oM 16 14,oM 7 16] (oR [oZ 8 true] (.seq (oR [oM 17 5,oJ 18 0] (.block 2 (.loop bP))) (oR [oM 36 8] (oD 36 (.reg [oM 37 6,oM 38 7,oS 39 (.bin .shl false (.c (.int .u8 1)) (.t 38)),oB 40 .or 37 39,oM 6 40]) .skip)))))) (.reg [oC 41 .add 14 1,oM 14 41])))
def CM:qB:=⟨(oR [oS 4 (.mv (.c (.int .u8 0)))] (oR [oM 10 0,oH 11 10,oS 12 (.mm false (.t 11) (.c (.int .i64 8))),oM 5 12] (oR [oS 6 (.mv (.c (.int .u8 0)))] (.seq (oR [oM 13 5,oJ 14 0] (.block 0 (.loop nP))) (oR [oM 42 6,oM 4 42] .ret))))),[(.tmp 4)],2,[]⟩
theorem qS:bA Tryz.prog 63 CM:=okF Tryz.func63
def PR:C:=.seq (oR [oM 18 9,oM 19 6,oB 20 .lss 18 19] (oD 20 .skip (.exit 2))) (.seq (.block 3 (.reg [oM 23 8,oM 24 23,oMg 25 1 24 true,oMg 26 9 24 true,oCg 27 112 25 26 24 true,oUg 28 27 24 true,oMg 29 28 24 true,oMg 30 0 29 false,oMg 31 7 29 false,oMg 32 9 29 false,oG 33 (.call .any 113 [(.t 30),(.t 31),(.t 32)]) 29 false,oG 34 (.pick (.t 29) (.c (.bool true)) (.t 33)) 24 true,oPa 35 24 34,oM 8 35])) (.reg [oM 21 9,oC 22 .add 21 1,oM 9 22]))
def AR:C:=.seq (oR [oM 13 7,oM 14 6,oB 15 .lss 13 14] (oD 15 .skip (.exit 0))) (.seq (.block 1 (oR [oZ 8 true] (.seq (oR [oJ 9 0] (.block 2 (.loop PR))) (oR [oM 36 8] (oD 36 (.reg [oM 37 5,oM 38 7,oS 39 (.bin .shl false (.c (.int .u8 1)) (.t 38)),oB 40 .or 37 39,oM 5 40]) .skip))))) (.reg [oM 16 7,oC 17 .add 16 1,oM 7 17]))
def CO:qB:=⟨(oR [oS 4 (.mv (.c (.int .u8 0)))] (oR [oS 5 (.mv (.c (.int .u8 0)))] (oR [oM 10 0,oH 11 10,oS 12 (.mm false (.c (.int .i64 8)) (.t 11)),oM 6 12] (.seq (oR [oJ 7 0] (.block 0 (.loop AR))) (oR [oM 41 5,oM 4 41] .ret))))),[(.tmp 4)],2,[]⟩
theorem GU:bA Tryz.prog 64 CO:=okF Tryz.func64
def FH:qB:=⟨(oR [oZ 2 false] (oR [oM 3 0,oH 4 3,oC 5 .gtr 4 10,oM 2 5] .ret)),[(.tmp 2)],1,[]⟩
theorem OM:bA Tryz.prog 65 FH:=okF Tryz.func65
noncomputable def GH:qB:=cF [] Tryz.f68
theorem PM:bA Tryz.prog 68 GH:=okF Tryz.func68
def QC:C:=.seq (oR [oM 15 6,oM 16 1,oH 17 16,oB 18 .lss 15 17,oM 19 18,oFg 20 0 5 19 true,oP 21 20 19 true,oHg 22 21 19 true,oCi 23 .gtr 22 0 19 true,oPa 24 19 23] (oD 24 .skip (.exit 0))) (.seq (.block 1 (oR [oM 27 1,oM 28 6,oI 29 4 27 28,oA 30 4 29,oY 7 zzf,oV 4 7 30] (oR [oF 31 0 5,oLr 32 5 1 31,oF 33 1 7,oLr 34 7 1 33,oS 35 (.conv (.some .i64) (.t 34)),oF 36 0 5,oLr 37 5 1 36,oH 38 37,oB 39 .rem 35 38,oI 40 5 32 39,oM 8 40] (oR [oM 41 8,oS 42 (.bsl zzg 0 []),oM 43 8,oK 44 43,oF 45 4 44,oL 46 45,oS 47 (.appf .any 165 3 3 (.t 42) (.t 46)),oK 48 41,oF 49 4 48,oW 49 47] (oR [oJ 9 0] (.seq (oR [oM 50 8,oK 51 50,oF 52 4 51,oL 53 52,oH 54 53,oC 55 .gtr 54 0] (oD 55 (.reg [oF 56 2 7,oLr 57 7 1 56,oS 58 (.conv (.some .i64) (.t 57)),oM 59 8,oK 60 59,oF 61 4 60,oL 62 61,oH 63 62,oB 64 .rem 58 63,oM 9 64]) .skip)) (oR [oF 65 0 7,oL 66 65,oS 67 (.bin .rem false (.t 66) (.c (.int .u8 8)))] (.block 2 (oR [oS 93 (.bin .eql false (.t 67) (.c (.int .u8 0))),oM 92 93] (oD 92 (.reg [oM 94 8,oM 95 8,oK 96 95,oF 97 1 96,oL 98 97,oF 99 2 7,oLr 100 7 1 99,oS 101 (.bin .rem false (.t 100) (.c (.int .u8 5))),oB 102 .add 98 101,oS 103 (.bin .sub false (.t 102) (.c (.int .u8 2))),oK 104 94,oF 105 1 104,oW 105 103]) (oR [oS 107 (.bin .eql false (.t 67) (.c (.int .u8 1))),oM 106 107] (oD 106 (.reg [oM 108 8,oM 109 8,oK 110 109,oF 111 2 110,oL 112 111,oF 113 3 7,oLr 114 7 1 113,oS 115 (.bin .rem false (.t 114) (.c (.int .u8 5))),oB 116 .add 112 115,oS 117 (.bin .sub false (.t 116) (.c (.int .u8 2))),oK 118 108,oF 119 2 118,oW 119 117]) (oR [oS 121 (.bin .eql false (.t 67) (.c (.int .u8 2))),oM 120 121] (oD 120 (.reg [oM 122 8,oM 123 8,oK 124 123,oF 125 1 124,oL 126 125,oF 127 2 7,oLr 128 7 1 127,oS 129 (.bin .rem false (.t 128) (.c (.int .u8 6))),oS 130 (.bin .shl false (.c (.int .u8 1)) (.t 129)),oB 131 .xor 126 130,oK 132 122,oF 133 1 132,oW 133 131]) (oR [oS 135 (.bin .eql false (.t 67) (.c (.int .u8 3))),oM 134 135] (oD 134 (.reg [oM 136 8,oM 137 8,oK 138 137,oF 139 3 138,oL 140 139,oF 141 2 7,oLr 142 7 1 141,oB 143 .add 140 142,oK 144 136,oF 145 3 144,oW 145 143]) (oR [oS 147 (.bin .eql false (.t 67) (.c (.int .u8 4))),oM 146 147] (oD 146 (oR [oM 148 8,oK 149 148,oF 150 4 149,oL 151 150,oH 152 151,oC 153 .lss 152 8] (oD 153 (.reg [oM 154 8,oM 155 8,oK 156 155,oF 157 4 156,oL 158 157,oF 159 2 7,oLr 160 7 1 159,oF 161 3 7,oLr 162 7 1 161,oF 163 2 7,oLr 164 7 1 163,oS 165 (.bin .quo false (.t 164) (.c (.int .u8 12))),oS 166 (.build zzg [(0,(1,(.t 160))),(1,(1,(.t 162))),(2,(1,(.t 165)))]),oS 167 (.bsl zzg 1 [(0,(.t 166))]),oS 168 (.appm .any 165 3 3 (.t 158) (.t 167)),oK 169 154,oF 170 4 169,oW 170 168]) .skip)) (oR [oS 172 (.bin .eql false (.t 67) (.c (.int .u8 5))),oM 171 172] (oD 171 (oR [oM 173 8,oK 174 173,oF 175 4 174,oL 176 175,oH 177 176,oC 178 .gtr 177 0] (oD 178 (.reg [oM 179 8,oM 180 8,oK 181 180,oF 182 4 181,oL 183 182,oM 184 9,oS 185 (.slc false 3 (.t 183) .none (.some (.t 184)) .none),oM 186 8,oK 187 186,oF 188 4 187,oL 189 188,oM 190 9,oC 191 .add 190 1,oS 192 (.slc false 3 (.t 189) (.some (.t 191)) .none .none),oS 193 (.appm .any 165 3 3 (.t 185) (.t 192)),oK 194 179,oF 195 4 194,oW 195 193]) .skip)) (oR [oS 197 (.bin .eql false (.t 67) (.c (.int .u8 6))),oM 196 197] (oD 196 (oR [oM 198 8,oK 199 198,oF 200 4 199,oL 201 200,oH 202 201,oC 203 .gtr 202 0] (oD 203 (.reg [oM 204 8,oK 205 204,oF 206 4 205,oL 207 206,oM 208 9,oF 209 3 7,oLr 210 7 1 209,oI 211 3 207 208,oF 212 2 211,oW 212 210]) .skip)) (oR [oM 68 8,oK 69 68,oF 70 4 69,oL 71 70,oH 72 71,oC 73 .gtr 72 0] (oD 73 (.reg [oM 74 8,oK 75 74,oF 76 4 75,oL 77 76,oM 78 9,oM 79 8,oK 80 79,oF 81 4 80,oL 82 81,oM 83 9,oI 84 3 82 83,oF 85 1 84,oL 86 85,oF 87 3 7,oLr 88 7 1 87,oB 89 .add 86 88,oI 90 3 77 78,oF 91 1 90,oW 91 89]) .skip)))))))))))))))))))))))) (.reg [oM 25 6,oC 26 .add 25 1,oM 6 26]))
def dE:qB:=⟨(oR [oQ 2 1 0,oS 4 (.alloc [(.sl true [])])] (oR [oS 10 (.bsl zzd 0 []),oF 11 0 2,oL 12 11,oS 13 (.appf .any 127 5 32 (.t 10) (.t 12)),oS 14 (.build [(.sl true [])] [(0,(1,(.t 13)))]),oS 5 (.alloc [(.sl true [])]),oV 1 5 14] (.seq (oR [oJ 6 0] (.block 0 (.loop QC))) (oR [oA 213 1 5,oV 1 4 213] .ret)))),[(.cell 4 true 1)],2,[26,94,337,387]⟩
theorem EU:bA Tryz.prog 69 dE:=okF Tryz.func69
def SK:qB:=⟨(oR [oQ 5 1 0,oQ 7 8 2,oQ 8 1 3,oJ 10 0] (.seq (oR [oA 13 1 5,oM 14 1,oC2 15 120 13 14,oM 11 15] (oR [oM 16 11,oC 17 .neq 16 0] (oD 17 (oR [oM 18 11,oM 10 18] .ret) .skip))) (.seq (oR [oA 19 1 8,oM 20 4,oC2 21 120 19 20,oM 12 21] (oR [oM 22 12,oC 23 .neq 22 0] (oD 23 (oR [oM 24 12,oM 10 24] .ret) .skip))) (.seq (oR [oA 25 1 5,oM 26 1,oA 27 8 7,oS 28 (.call .any 121 [(.t 25),(.t 26),(.t 27)]),oU 29 28] (oD 29 (oR [oJ 10 1] .ret) .skip)) (oR [oJ 10 0] .ret))))),[(.tmp 10)],5,[]⟩
theorem aY:bA Tryz.prog 74 SK:=okF Tryz.func74
def dL:C:=.seq (oR [oM 164 20,oF 165 6 8,oL 166 165,oH 167 166,oB 168 .lss 164 167] (oD 168 .skip (.exit 2))) (.seq (.block 3 (oR [oS 171 (.load (.root 6) true 1 (.t 6)),oF 172 8 13,oLr 173 13 1 172,oF 174 6 8,oLr 175 8 1 174,oM 176 20,oI 177 8 175 176,oS 178 (.load .imm true 8 (.t 177)),oS 179 (.load (.root 9) true 1 (.t 9)),oF 180 8 14,oLr 181 14 1 180,oM 182 5,oM 183 20,oS 184 (.call .imm 126 [(.t 182),(.t 183)]),oS 185 (.call .imm 75 [(.t 171),(.t 173),(.t 178),(.t 179),(.t 181),(.t 184)]),oY 21 zzb,oN (.store (.root 21) true 10 (.t 21) (.t 185))] (.seq (oR [oF 186 9 21,oL 187 186,oU 188 187] (oD 188 (oR [oA 189 10 21,oV 10 12 189] .ret) .skip)) (.reg [oF 190 6 17,oL 191 190,oF 192 0 21,oA 193 8 192,oS 194 (.bsl zza 1 [(0,(.t 193))]),oAp 195 40 8 120 191 194,oF 196 6 17,oW 196 195])))) (.reg [oM 169 20,oC 170 .add 169 1,oM 20 170]))
def fL:C:=.seq (oR [oM 131 18,oF 132 5 8,oL 133 132,oH 134 133,oB 135 .lss 131 134] (oD 135 .skip (.exit 0))) (.seq (.block 1 (oR [oS 138 (.load (.root 6) true 1 (.t 6)),oF 139 7 13,oLr 140 13 1 139,oF 141 5 8,oLr 142 8 1 141,oM 143 18,oI 144 8 142 143,oS 145 (.load .imm true 8 (.t 144)),oS 146 (.load (.root 9) true 1 (.t 9)),oF 147 7 14,oLr 148 14 1 147,oM 149 5,oM 150 18,oS 151 (.call .imm 126 [(.t 149),(.t 150)]),oS 152 (.call .imm 75 [(.t 138),(.t 140),(.t 145),(.t 146),(.t 148),(.t 151)]),oY 19 zzb,oN (.store (.root 19) true 10 (.t 19) (.t 152))] (.seq (oR [oF 153 9 19,oL 154 153,oU 155 154] (oD 155 (oR [oA 156 10 19,oV 10 12 156] .ret) .skip)) (.reg [oF 157 5 17,oL 158 157,oF 159 0 19,oA 160 8 159,oS 161 (.bsl zza 1 [(0,(.t 160))]),oAp 162 40 8 120 158 161,oF 163 5 17,oW 163 162])))) (.reg [oM 136 18,oC 137 .add 136 1,oM 18 137]))
def MB:qB:=⟨(oR [oQ 6 1 0,oQ 8 8 2,oQ 9 1 3,oY 12 zzb] (oR [oF 22 0 6,oLr 23 6 1 22,oM 24 1,oI 25 10 23 24,oS 26 (.load .imm true 10 (.t 25)),oF 27 0 9,oLr 28 9 1 27,oM 29 4,oI 30 10 28 29,oS 31 (.load .imm true 10 (.t 30)),oY 13 zze,oY 14 zze,oN (.store (.root 13) true 10 (.t 13) (.t 26)),oN (.store (.root 14) true 10 (.t 14) (.t 31))] (.seq (oR [oF 32 0 13,oL 33 32,oF 34 0 14,oL 35 34,oB 36 .neq 33 35] (oD 36 (oR [oM 37 5,oC1 38 122 37,oV 10 12 38] .ret) .skip)) (.seq (oR [oF 39 0 13,oL 40 39,oC 41 .eql 40 2,oM 42 41,oFg 43 2 8 42 true,oP 44 43 42 true,oFg 45 2 14 42 true,oP 46 45 42 true,oBg 47 .lss 44 46 42 true,oMg 48 47 42 true,oFg 49 2 8 48 false,oP 50 49 48 false,oFg 51 3 14 48 false,oP 52 51 48 false,oBg 53 .gtr 50 52 48 false,oG 54 (.pick (.t 48) (.c (.bool true)) (.t 53)) 42 true,oPa 55 42 54] (oD 55 (oR [oM 56 5,oC1 57 122 56,oV 10 12 57] .ret) .skip)) (.seq (oR [oF 58 0 13,oL 59 58,oC 60 .eql 59 3,oM 61 60,oFg 62 3 8 61 true,oP 63 62 61 true,oG 64 (.len true (.t 63)) 61 true,oFg 65 4 14 61 true,oP 66 65 61 true,oBg 67 .gtr 64 66 61 true,oPa 68 61 67] (oD 68 (oR [oM 69 5,oC1 70 122 69,oV 10 12 70] .ret) .skip)) (.seq (oR [oF 71 0 13,oL 72 71,oC 73 .eql 72 4] (oD 73 (oR [oA 75 10 14,oF 76 4 8,oL 77 76,oC2 78 123 75 77,oM 74 78,oX 79 74 0,oX 80 74 1,oM 15 79,oM 16 80] (oR [oM 81 16,oU 82 81,oM 83 82,oFg 84 9 14 83 true,oP 85 84 83 true,oUg 86 85 83 true,oPa 87 83 86] (oD 87 (oR [oM 88 5,oC1 89 122 88,oV 10 12 89] .ret) .skip))) .skip)) (.seq (oR [oF 90 0 13,oL 91 90,oC 92 .eql 91 7,oM 93 92,oFg 94 0 13 93 false,oP 95 94 93 false,oCi 96 .eql 95 8 93 false,oPo 97 93 96,oM 98 97,oFg 99 6 8 98 true,oP 100 99 98 true,oHg 101 100 98 true,oFg 102 4 14 98 true,oP 103 102 98 true,oBg 104 .gtr 101 103 98 true,oPa 105 98 104] (oD 105 (oR [oM 106 5,oC1 107 122 106,oV 10 12 107] .ret) .skip)) (.seq (oR [oF 108 0 13,oL 109 108,oC 110 .eql 109 6] (oD 110 (oR [oA 111 1 6,oA 112 10 13,oA 113 8 8,oA 114 1 9,oA 115 10 14,oM 116 5,oS 117 (.call .any 124 [(.t 111),(.t 112),(.t 113),(.t 114),(.t 115),(.t 116)]),oV 10 12 117] .ret) .skip)) (.seq (oR [oF 118 0 13,oL 119 118,oC 120 .eql 119 5] (oD 120 (oR [oA 121 1 6,oA 122 10 13,oA 123 8 8,oA 124 1 9,oA 125 10 14,oM 126 5,oS 127 (.call .any 125 [(.t 121),(.t 122),(.t 123),(.t 124),(.t 125),(.t 126)]),oV 10 12 127] .ret) .skip)) (oR [oA 128 8 8,oY 17 zza,oV 8 17 128] (oR [oF 129 5 17,oN (.store .any false 1 (.t 129) (.c (.sl true []))),oF 130 6 17,oN (.store .any false 1 (.t 130) (.c (.sl true [])))] (.seq (oR [oJ 18 0] (.block 0 (.loop fL))) (.seq (oR [oJ 20 0] (.block 2 (.loop dL))) (oR [oA 197 8 17,oC1 198 127 197,oV 10 12 198] .ret)))))))))))))),[(.cell 12 true 10)],6,[]⟩
theorem bZ:bA Tryz.prog 75 MB:=okF Tryz.func75
def BO:qB:=⟨(oR [oQ 2 2 0,oQ 3 2 1,oJ 4 0] (.seq (oR [oF 6 0 2,oA 7 1 6,oF 8 1 2,oL 9 8,oC2 10 128 7 9,oM 5 10] (oR [oM 11 5,oC 12 .neq 11 0] (oD 12 (oR [oM 13 5,oM 4 13] .ret) .skip))) (oR [oF 14 0 3,oA 15 1 14,oF 16 1 3,oL 17 16,oC2 18 128 15 17,oM 4 18] .ret))),[(.tmp 4)],2,[]⟩
theorem KU:bA Tryz.prog 76 BO:=okF Tryz.func76
def AA:qB:=⟨(oR [oQ 4 1 0,oQ 6 1 2,oJ 8 0] (oR [oF 11 0 4,oLr 12 4 1 11,oM 13 1,oI 14 10 12 13,oS 15 (.load .imm true 10 (.t 14)),oF 16 0 6,oLr 17 6 1 16,oM 18 3,oI 19 10 17 18,oS 20 (.load .imm true 10 (.t 19)),oY 9 zze,oY 10 zze,oN (.store (.root 9) true 10 (.t 9) (.t 15)),oN (.store (.root 10) true 10 (.t 10) (.t 20))] (.seq (oR [oF 21 0 9,oL 22 21,oF 23 0 10,oL 24 23,oB 25 .neq 22 24] (oD 25 (oR [oJ 8 9] .ret) .skip)) (.seq (.block 0 (oR [oF 27 0 9,oL 28 27,oC 29 .eql 28 2,oM 30 29,oFg 31 2 9 30 true,oP 32 31 30 true,oFg 33 2 10 30 true,oP 34 33 30 true,oBg 35 .lss 32 34 30 true,oMg 36 35 30 true,oFg 37 3 9 36 false,oP 38 37 36 false,oFg 39 3 10 36 false,oP 40 39 36 false,oBg 41 .gtr 38 40 36 false,oG 42 (.pick (.t 36) (.c (.bool true)) (.t 41)) 30 true,oPa 43 30 42,oM 26 43] (oD 26 (oR [oJ 8 2] .ret) (oR [oF 45 0 9,oL 46 45,oC 47 .eql 46 3,oM 48 47,oFg 49 0 9 48 false,oP 50 49 48 false,oCi 51 .eql 50 7 48 false,oPo 52 48 51,oM 53 52,oFg 54 4 9 53 true,oP 55 54 53 true,oFg 56 4 10 53 true,oP 57 56 53 true,oBg 58 .gtr 55 57 53 true,oPa 59 53 58,oM 44 59] (oD 44 (oR [oJ 8 3] .ret) (oR [oF 61 0 9,oL 62 61,oC 63 .eql 62 8,oM 64 63,oFg 65 4 9 64 true,oP 66 65 64 true,oFg 67 0 4 64 true,oP 68 67 64 true,oFg 69 7 9 64 true,oP 70 69 64 true,oIg 71 10 68 70 64 true,oLg 72 10 71 64 true,oG 73 (.call .any 129 [(.t 72)]) 64 true,oG 74 (.mm false (.t 66) (.t 73)) 64 true,oFg 75 4 10 64 true,oP 76 75 64 true,oBg 77 .gtr 74 76 64 true,oPa 78 64 77,oM 60 78] (oD 60 (oR [oJ 8 3] .ret) (oR [oF 80 0 9,oL 81 80,oC 82 .eql 81 4,oM 83 82,oLg 84 10 9 83 true,oLg 85 10 10 83 true,oCg 86 130 84 85 83 true,oUg 87 86 83 true,oPa 88 83 87,oM 79 88] (oD 79 (oR [oJ 8 4] .ret) (oR [oF 90 0 9,oL 91 90,oC 92 .eql 91 6,oM 93 92,oLg 94 10 9 93 true,oLg 95 10 10 93 true,oCg 96 130 94 95 93 true,oUg 97 96 93 true,oPa 98 93 97,oM 89 98] (oD 89 (oR [oJ 8 5] .ret) (oR [oF 100 0 9,oL 101 100,oC 102 .eql 101 5,oM 99 102] (oD 99 (oR [oA 103 1 4,oA 104 10 9,oA 105 1 6,oA 106 10 10,oC4 107 131 103 104 105 106,oM 8 107] .ret) .skip))))))))))))) (oR [oJ 8 0] .ret))))),[(.tmp 8)],4,[]⟩
theorem tS:bA Tryz.prog 77 AA:=okF Tryz.func77
def rB:qB:=⟨(oR [oQ 4 1 0,oQ 6 1 2,oJ 8 0] (oR [oF 11 0 4,oLr 12 4 1 11,oM 13 1,oI 14 10 12 13,oS 15 (.load .imm true 10 (.t 14)),oF 16 0 6,oLr 17 6 1 16,oM 18 3,oI 19 10 17 18,oS 20 (.load .imm true 10 (.t 19)),oY 9 zze,oY 10 zze,oN (.store (.root 9) true 10 (.t 9) (.t 15)),oN (.store (.root 10) true 10 (.t 10) (.t 20))] (.seq (oR [oF 21 0 9,oL 22 21,oF 23 0 10,oL 24 23,oB 25 .neq 22 24] (oD 25 (oR [oJ 8 9] .ret) .skip)) (.seq (oR [oF 26 0 9,oL 27 26] (.block 0 (oR [oC 29 .eql 27 2,oM 28 29] (oD 28 (oR [oF 30 2 9,oL 31 30,oF 32 2 10,oL 33 32,oB 34 .lss 31 33,oM 35 34,oFg 36 3 9 35 false,oP 37 36 35 false,oFg 38 3 10 35 false,oP 39 38 35 false,oBg 40 .gtr 37 39 35 false,oPo 41 35 40] (oD 41 (oR [oJ 8 2] .ret) .skip)) (.seq (oR [oC 43 .eql 27 3,oM 42 43] (oD 42 .skip (.reg [oC 44 .eql 27 7,oM 42 44]))) (oD 42 (oR [oF 45 4 9,oL 46 45,oF 47 4 10,oL 48 47,oB 49 .gtr 46 48] (oD 49 (oR [oJ 8 3] .ret) .skip)) (oR [oC 51 .eql 27 8,oM 50 51] (oD 50 (oR [oF 52 4 9,oL 53 52,oF 54 0 4,oL 55 54,oF 56 7 9,oL 57 56,oI 58 10 55 57,oA 59 10 58,oC1 60 132 59,oS 61 (.mm false (.t 53) (.t 60)),oF 62 4 10,oL 63 62,oB 64 .gtr 61 63] (oD 64 (oR [oJ 8 3] .ret) .skip)) (oR [oC 66 .eql 27 4,oM 65 66] (oD 65 (oR [oF 67 9 10,oL 68 67,oU 69 68,oM 70 69,oLg 71 10 9 70 true,oLg 72 10 10 70 true,oCg 73 133 71 72 70 true,oUg 74 73 70 true,oPa 75 70 74] (oD 75 (oR [oJ 8 4] .ret) .skip)) (oR [oC 77 .eql 27 6,oM 76 77] (oD 76 (oR [oF 78 9 10,oL 79 78,oU 80 79,oM 81 80,oLg 82 10 9 81 true,oLg 83 10 10 81 true,oCg 84 133 82 83 81 true,oUg 85 84 81 true,oPa 86 81 85] (oD 86 (oR [oJ 8 5] .ret) .skip)) (oR [oC 88 .eql 27 5,oM 87 88] (oD 87 (oR [oA 89 1 4,oA 90 10 9,oA 91 1 6,oA 92 10 10,oC4 93 134 89 90 91 92,oM 8 93] .ret) .skip)))))))))))))) (oR [oJ 8 0] .ret))))),[(.tmp 8)],4,[]⟩
theorem aW:bA Tryz.prog 78 rB:=okF Tryz.func78
def LD:C:=oR [oB 38 .lss 37 36] (.seq (oD 38 .skip (.exit 0)) (.seq (.block 1 (oR [oI 39 13 35 37,oA 40 13 39,oY 14 zzh,oV 13 14 40] (oR [oA 42 10 10,oF 43 0 14,oL 44 43,oC2 45 137 42 44,oM 41 45,oX 46 41 0,oX 47 41 1,oM 15 46,oM 16 47] (oR [oM 48 16] (oD 48 (.reg [oM 49 12,oF 50 2 14,oLr 51 14 1 50,oF 52 6 10,oLr 53 10 1 52,oM 54 15,oI 55 13 53 54,oF 56 2 55,oL 57 56,oS 58 (.callh 99 (.t 49) [(.t 51),(.t 57)])]) .skip))))) (.reg [oC 59 .add 37 1,oM 37 59])))
def UD:qB:=⟨(oR [oQ 4 1 0,oQ 6 1 2,oS 8 (.mv (.c (.sl true [])))] (oR [oF 17 0 4,oLr 18 4 1 17,oM 19 1,oI 20 10 18 19,oS 21 (.load .imm true 10 (.t 20)),oF 22 0 6,oLr 23 6 1 22,oM 24 3,oI 25 10 23 24,oS 26 (.load .imm true 10 (.t 25)),oY 9 zze,oY 10 zze,oN (.store (.root 9) true 10 (.t 9) (.t 21)),oN (.store (.root 10) true 10 (.t 10) (.t 26))] (oR [oS 11 (.alloc [(.sl true [])])] (.seq (oR [oF 27 0 9,oL 28 27,oF 29 0 10,oL 30 29,oB 31 .neq 28 30] (oD 31 (oR [oL 32 11,oM 8 32] .ret) .skip)) (oR [oS 33 (.mkf 135 [(.t 11)]),oM 12 33] (.seq (oR [oF 34 6 9,oL 35 34,oH 36 35,oJ 37 0] (.block 0 (.loop LD))) (.seq (oR [oF 60 0 9,oL 61 60,oC 62 .eql 61 8,oM 63 62,oFg 64 4 9 63 true,oP 65 64 63 true,oCi 66 .gtr 65 0 63 true,oPa 67 63 66] (oD 67 (.reg [oM 68 12,oF 69 7 9,oL 70 69,oF 71 7 10,oL 72 71,oS 73 (.callh 99 (.t 68) [(.t 70),(.t 72)])]) .skip)) (.seq (oR [oF 74 0 9,oL 75 74,oC 76 .eql 75 9,oM 77 76,oFg 78 0 9 77 false,oP 79 78 77 false,oCi 80 .eql 79 7 77 false,oMg 81 80 77 false,oFg 82 0 9 81 false,oP 83 82 81 false,oCi 84 .eql 83 8 81 false,oG 85 (.pick (.t 81) (.c (.bool true)) (.t 84)) 77 false,oMg 86 85 77 false,oFg 87 4 9 86 true,oP 88 87 86 true,oCi 89 .gtr 88 0 86 true,oPb 90 86 89 77 false,oPo 91 77 90] (oD 91 (.reg [oM 92 12,oF 93 8 9,oL 94 93,oF 95 8 10,oL 96 95,oS 97 (.callh 99 (.t 92) [(.t 94),(.t 96)])]) .skip)) (oR [oL 98 11,oM 8 98] .ret))))))))),[(.tmp 8)],4,[2000049,2000068,2000092]⟩
theorem WO:bA Tryz.prog 79 UD:=okF Tryz.func79
def LV:C:=.seq (oR [oM 16 10,oM 17 9,oH 18 17,oB 19 .lss 16 18] (oD 19 .skip (.exit 0))) (.seq (.block 1 (oR [oA 22 1 4,oM 23 9,oM 24 10,oI 25 2 23 24,oS 26 (.aaddr 2 1 (.t 25) (.c (.int .i64 0))),oL 27 26,oA 28 1 6,oM 29 9,oM 30 10,oI 31 2 29 30,oS 32 (.aaddr 2 1 (.t 31) (.c (.int .i64 1))),oL 33 32,oC4 34 78 22 27 28 33,oC 35 .neq 34 0] (oD 35 (oR [oZ 8 false] .ret) .skip))) (.reg [oM 20 10,oC 21 .add 20 1,oM 10 21]))
def mS:qB:=⟨(oR [oQ 4 1 0,oQ 6 1 2,oZ 8 false] (oR [oA 11 1 4,oM 12 1,oA 13 1 6,oM 14 3,oC4 15 85 11 12 13 14,oM 9 15] (.seq (oR [oJ 10 0] (.block 0 (.loop LV))) (oR [oZ 8 true] .ret)))),[(.tmp 8)],4,[]⟩
theorem QZ:bA Tryz.prog 80 mS:=okF Tryz.func80
def rP:C:=oR [oB 47 .lss 46 45] (.seq (oD 47 .skip (.exit 2)) (.seq (.block 3 (oR [oI 48 2 44 46,oA 49 2 48,oY 11 [(.int .i64 0),(.int .i64 0)],oV 2 11 49] (oR [oM 50 8,oA 51 2 11,oS 52 (.mget false (.agg [(.some .i64),(.some .i64)]) (.bool false) (.t 50) (.t 51)),oU 53 52] (oD 53 (oR [oM 54 8,oA 55 2 11,oN (.mset (.agg [(.some .i64),(.some .i64)]) (.t 54) (.t 55) (.c (.bool true)))] (.reg [oM 56 6,oA 57 2 11,oS 58 (.bsl [(.int .i64 0),(.int .i64 0)] 1 [(0,(.t 57))]),oAp 59 63 2 16 56 58,oM 60 7,oM 61 9,oS 62 (.bsl [(.int .i64 0)] 1 [(0,(.t 61))]),oAp 63 3 1 8 60 62,oM 6 59,oM 7 63])) .skip)))) (.reg [oC 64 .add 46 1,oM 46 64])))
def tP:C:=.seq (oR [oM 24 9,oM 25 6,oH 26 25,oB 27 .lss 24 26] (oD 27 .skip (.exit 0))) (.seq (.block 1 (oR [oF 30 0 2,oA 31 1 30,oM 32 6,oM 33 9,oI 34 2 32 33,oS 35 (.aaddr 2 1 (.t 34) (.c (.int .i64 0))),oL 36 35,oF 37 0 3,oA 38 1 37,oM 39 6,oM 40 9,oI 41 2 39 40,oS 42 (.aaddr 2 1 (.t 41) (.c (.int .i64 1))),oL 43 42,oC4 44 79 31 36 38 43,oH 45 44,oJ 46 0] (.block 2 (.loop rP)))) (.reg [oM 28 9,oC 29 .add 28 1,oM 9 29]))
def zM:qB:=⟨(oR [oQ 2 2 0,oQ 3 2 1,oS 4 (.mv (.c (.sl true []))),oS 5 (.mv (.c (.sl true [])))] (oR [oF 12 1 2,oL 13 12,oF 14 1 3,oL 15 14,oS 16 (.build [(.int .i64 0),(.int .i64 0)] [(0,(1,(.t 13))),(1,(1,(.t 15)))]),oS 17 (.bsl [(.int .i64 0),(.int .i64 0)] 1 [(0,(.t 16))]),oS 18 (.bsl [(.int .i64 0)] 1 [(0,(.c (.int .i64 (-1))))]),oM 6 17,oM 7 18] (oR [oS 19 (.mkm),oM 20 6,oS 21 (.iaddr 2 (.t 20) (.c (.int .i64 0))),oA 22 2 21,oN (.mset (.agg [(.some .i64),(.some .i64)]) (.t 19) (.t 22) (.c (.bool true))),oM 23 19,oM 8 23] (.seq (oR [oJ 9 0] (.block 0 (.loop tP))) (oR [oM 65 6,oM 66 7,oM 4 65,oM 5 66] .ret))))),[(.tmp 4),(.tmp 5)],2,[]⟩
theorem eR:bA Tryz.prog 81 zM:=okF Tryz.func81
def ER:C:=.seq (oR [oM 36 12,oM 37 11,oH 38 37,oB 39 .lss 36 38] (oD 39 .skip (.exit 2))) (.seq (.block 3 (oR [oM 42 9,oM 43 11,oM 44 12,oI 45 2 43 44,oA 46 2 45,oC2 47 35 42 46,oU 48 47] (oD 48 (.reg [oM 49 9,oM 50 11,oM 51 12,oI 52 2 50 51,oA 53 2 52,oS 54 (.bsl [(.int .i64 0),(.int .i64 0)] 1 [(0,(.t 53))]),oAp 55 63 2 16 49 54,oM 9 55]) .skip))) (.reg [oM 40 12,oC 41 .add 40 1,oM 12 41]))
def RR:C:=.seq (oR [oM 17 10,oM 18 9,oH 19 18,oB 20 .lss 17 19] (oD 20 .skip (.exit 0))) (.seq (.block 1 (oR [oA 23 1 4,oM 24 9,oM 25 10,oI 26 2 24 25,oS 27 (.aaddr 2 1 (.t 26) (.c (.int .i64 0))),oL 28 27,oA 29 1 6,oM 30 9,oM 31 10,oI 32 2 30 31,oS 33 (.aaddr 2 1 (.t 32) (.c (.int .i64 1))),oL 34 33,oC4 35 41 23 28 29 34,oM 11 35] (oR [oJ 12 0] (.block 2 (.loop ER))))) (.reg [oM 21 10,oC 22 .add 21 1,oM 10 22]))
def LO:qB:=⟨(oR [oQ 4 1 0,oQ 6 1 2,oS 8 (.mv (.c (.sl true [])))] (oR [oM 13 1,oM 14 3,oS 15 (.build [(.int .i64 0),(.int .i64 0)] [(0,(1,(.t 13))),(1,(1,(.t 14)))]),oS 16 (.bsl [(.int .i64 0),(.int .i64 0)] 1 [(0,(.t 15))]),oM 9 16] (.seq (oR [oJ 10 0] (.block 0 (.loop RR))) (oR [oM 56 9,oM 8 56] .ret)))),[(.tmp 8)],4,[]⟩
theorem SU:bA Tryz.prog 85 LO:=okF Tryz.func85
def xM:C:=.seq (oR [oM 7 2,oM 8 3,oB 9 .lss 7 8] (oD 9 .skip (.exit 0))) (.seq (.block 1 (.reg [oM 14 0,oM 15 2,oM 16 0,oM 17 3,oM 18 0,oM 19 3,oI 20 2 18 19,oA 21 2 20,oM 22 0,oM 23 2,oI 24 2 22 23,oA 25 2 24,oI 26 2 14 15,oV 2 26 21,oI 27 2 16 17,oV 2 27 25])) (.reg [oM 10 2,oC 11 .add 10 1,oM 12 3,oC 13 .sub 12 1,oM 2 11,oM 3 13]))
def FI:qB:=⟨(oR [oM 4 0,oH 5 4,oC 6 .sub 5 1,oJ 2 0,oM 3 6] (.block 0 (.loop xM))),[],1,[8000000]⟩
theorem fN:bA Tryz.prog 86 FI:=okF Tryz.func86
def TL:qB:=⟨(oR [oQ 2 1 0,oJ 4 0] (oR [oF 5 0 2,oL 6 5,oM 7 1,oI 8 5 6 7,oF 9 0 8,oL 10 9,oS 11 (.bin .rem false (.t 10) (.c (.int .u8 9))),oS 12 (.conv (.some .i64) (.t 11)),oS 13 (.bin .add false (.c (.int .i64 1)) (.t 12)),oM 4 13] .ret)),[(.tmp 4)],2,[]⟩
theorem kZ:bA Tryz.prog 87 TL:=okF Tryz.func87
def RK:qB:=⟨(oR [oZ 2 false] (oR [oM 3 0,oC 4 .eql 3 4,oM 5 4,oMg 6 0 5 false,oCi 7 .eql 6 5 5 false,oPo 8 5 7,oM 9 8,oMg 10 0 9 false,oCi 11 .eql 10 6 9 false,oPo 12 9 11,oM 2 12] .ret)),[(.tmp 2)],1,[]⟩
theorem CX:bA Tryz.prog 88 RK:=okF Tryz.func88
def MM:qB:=⟨(oR [oQ 1 5 0,oJ 2 0] (oR [oF 3 1 1,oL 4 3,oS 5 (.bin .rem false (.t 4) (.c (.int .u8 7))),oS 6 (.conv (.some .i64) (.t 5)),oC 7 .sub 6 3,oM 2 7] .ret)),[(.tmp 2)],1,[]⟩
theorem R4:bA Tryz.prog 89 MM:=okF Tryz.func89
def RL:qB:=⟨(oR [oQ 1 5 0,oJ 2 0] (oR [oA 3 5 1,oC1 4 89 3,oF 5 2 1,oL 6 5,oS 7 (.bin .rem false (.t 6) (.c (.int .u8 6))),oS 8 (.conv (.some .i64) (.t 7)),oB 9 .add 4 8,oM 2 9] .ret)),[(.tmp 2)],1,[]⟩
theorem jZ:bA Tryz.prog 90 RL:=okF Tryz.func90
def ZG:C:=.seq (oR [oM 5 4,oC 6 .lss 5 6] (oD 6 .skip (.exit 0))) (.seq (.block 1 (oR [oF 9 1 1,oL 10 9,oM 11 4,oB 12 .shr 10 11,oS 13 (.bin .rem false (.t 12) (.c (.int .u8 2))),oS 14 (.bin .eql false (.t 13) (.c (.int .u8 1)))] (oD 14 (.reg [oM 15 3,oM 16 4,oC 17 .add 16 1,oS 18 (.bsl [(.int .i64 0)] 1 [(0,(.t 17))]),oAp 19 3 1 8 15 18,oM 3 19]) .skip))) (.reg [oM 7 4,oC 8 .add 7 1,oM 4 8]))
def BM:qB:=⟨(oR [oQ 1 5 0,oS 2 (.mv (.c (.sl true [])))] (oR [oS 3 (.mv (.c (.sl true [])))] (.seq (oR [oJ 4 0] (.block 0 (.loop ZG))) (.seq (oR [oM 20 3,oH 21 20,oC 22 .eql 21 0] (oD 22 (.reg [oM 23 3,oS 24 (.bsl [(.int .i64 0)] 1 [(0,(.c (.int .i64 1)))]),oAp 25 3 1 8 23 24,oM 3 25]) .skip)) (oR [oM 26 3,oM 2 26] .ret))))),[(.tmp 2)],1,[]⟩
theorem W4:bA Tryz.prog 91 BM:=okF Tryz.func91
def aB:C:=.seq (oR [oM 23 10,oF 24 4 7,oL 25 24,oH 26 25,oB 27 .lss 23 26] (oD 27 .skip (.exit 2))) (.seq (.block 3 (oR [oF 30 4 7,oL 31 30,oM 32 10,oI 33 3 31 32,oA 34 3 33,oY 11 zzg,oV 3 11 34] (oR [oA 35 1 3,oM 36 1,oF 37 1 11,oL 38 37,oS 39 (.call .any 141 [(.t 35),(.t 36),(.t 38)]),oM 12 39] (.seq (oR [oF 40 0 11,oL 41 40,oS 42 (.bin .rem false (.t 41) (.c (.int .u8 12))),oS 43 (.conv (.some .i64) (.t 42)),oS 44 (.bin .add false (.c (.int .i64 1)) (.t 43)),oM 45 9,oB 46 .neq 44 45,oM 47 46,oMg 48 12 47 false,oCi 49 .lss 48 0 47 false,oPo 50 47 49] (oD 50 (.exit 3) .skip)) (oR [oM 51 9,oM 52 9,oS 53 (.bin .add false (.c (.int .i64 97)) (.t 52)),oS 54 (.conv (.some .i32) (.t 53)),oS 55 (.rstr (.t 54)),oS 56 (.bin .add false (.c (.str (ByteArray.mk #[109]))) (.t 55)),oM 57 12,oS 58 (.build zzh [(0,(1,(.t 51))),(1,(1,(.t 56))),(2,(1,(.t 57)))]),oY 13 zzh,oV 13 13 58] (.seq (oR [oM 59 2,oM 60 59,oFg 61 2 11 60 true,oP 62 61 60 true,oG 63 (.bin .rem false (.t 62) (.c (.int .u8 4))) 60 true,oG 64 (.bin .eql false (.t 63) (.c (.int .u8 1))) 60 true,oPa 65 60 64] (oD 65 (.reg [oF 66 3 13,oN (.store .any false 1 (.t 66) (.c (.bool true)))]) .skip)) (.seq (oR [oM 67 2,oM 68 67,oFg 69 2 11 68 true,oP 70 69 68 true,oG 71 (.bin .rem false (.t 70) (.c (.int .u8 4))) 68 true,oG 72 (.bin .geq false (.t 71) (.c (.int .u8 2))) 68 true,oPa 73 68 72] (oD 73 (.reg [oA 75 1 3,oM 76 12,oF 77 2 11,oL 78 77,oS 79 (.bin .quo false (.t 78) (.c (.int .u8 4))),oS 80 (.call .any 142 [(.t 75),(.t 76),(.t 79)]),oM 74 80,oX 81 74 0,oX 82 74 1,oF 83 5 13,oV 8 83 81,oF 84 4 13,oW 84 82]) .skip)) (oR [oM 85 8,oA 86 13 13,oS 87 (.bsl zzh 1 [(0,(.t 86))]),oS 88 (.appm .any 146 13 160 (.t 85) (.t 87)),oM 8 88] (.exit 2))))))))) (.reg [oM 28 10,oC 29 .add 28 1,oM 10 29]))
def uK:C:=.seq (oR [oM 19 9,oC 20 .leq 19 12] (oD 20 .skip (.exit 0))) (.seq (.block 1 (oR [oJ 10 0] (.block 2 (.loop aB)))) (.reg [oM 21 9,oC 22 .add 21 1,oM 9 22]))
def TK:qB:=⟨(oR [oQ 3 1 0,oS 6 (.mv (.c (.sl true [])))] (oR [oF 14 0 3,oL 15 14,oM 16 1,oI 17 5 15 16,oA 18 5 17,oY 7 zzd,oV 5 7 18] (oR [oS 8 (.mv (.c (.sl true [])))] (.seq (oR [oJ 9 1] (.block 0 (.loop uK))) (oR [oM 89 8,oM 6 89] .ret))))),[(.tmp 6)],3,[177]⟩
theorem NX:bA Tryz.prog 92 TK:=okF Tryz.func92
def rJ:C:=.seq (oR [oM 11 6,oM 12 5,oB 13 .lss 11 12] (oD 13 .skip (.exit 0))) (.seq (.block 1 (oR [oM 16 1,oS 17 (.conv (.some .i64) (.t 16)),oM 18 6,oB 19 .add 17 18,oM 20 5,oB 21 .rem 19 20,oM 7 21] (oR [oA 22 1 2,oM 23 7,oC2 24 87 22 23,oC1 25 143 24] (oD 25 (oR [oM 26 7,oM 4 26] .ret) .skip)))) (.reg [oM 14 6,oC 15 .add 14 1,oM 6 15]))
def NM:qB:=⟨(oR [oQ 2 1 0,oJ 4 0] (oR [oF 8 0 2,oL 9 8,oH 10 9,oM 5 10] (.seq (oR [oJ 6 0] (.block 0 (.loop rJ))) (oR [oJ 4 (-1)] .ret)))),[(.tmp 4)],2,[]⟩
theorem E4:bA Tryz.prog 93 NM:=okF Tryz.func93
def CF:C:=oR [oB 18 .lss 17 16] (.seq (oD 18 .skip (.exit 0)) (.seq (.block 1 (oR [oI 19 1 15 17,oL 20 19,oM 6 20] (oR [oM 21 6,oU 22 21] (oD 22 (oR [oJ 2 10] .ret) .skip)))) (.reg [oC 23 .add 17 1,oM 17 23])))
def iG:qB:=⟨(oR [oQ 1 1 0,oJ 2 0] (oR [oA 8 1 1,oC1 9 144 8,oM 7 9,oX 10 7 0,oX 11 7 1,oM 3 10,oM 4 11] (.seq (oR [oM 12 4,oC 13 .neq 12 0] (oD 13 (oR [oM 14 4,oM 2 14] .ret) .skip)) (.seq (oR [oM 15 3,oH 16 15,oJ 17 0] (.block 0 (.loop CF))) (oR [oJ 2 0] .ret))))),[(.tmp 2)],1,[]⟩
theorem bU:bA Tryz.prog 95 iG:=okF Tryz.func95
def lH:C:=.seq (oR [oM 14 5,oM 15 3,oH 16 15,oB 17 .lss 14 16] (oD 17 .skip (.exit 0))) (.seq (.block 1 (oR [oM 20 3,oM 21 5,oI 22 1 20 21,oL 23 22,oU 24 23] (oD 24 (oR [oJ 2 10] .ret) .skip))) (.reg [oM 18 5,oC 19 .add 18 1,oM 5 19]))
def ZH:qB:=⟨(oR [oQ 1 1 0,oJ 2 0] (oR [oA 7 1 1,oC1 8 145 7,oM 6 8,oX 9 6 0,oX 10 6 1,oM 3 9,oM 4 10] (.seq (oR [oM 11 4,oC 12 .neq 11 0] (oD 12 (oR [oM 13 4,oM 2 13] .ret) .skip)) (.seq (oR [oJ 5 0] (.block 0 (.loop lH))) (oR [oJ 2 0] .ret))))),[(.tmp 2)],1,[]⟩
theorem iY:bA Tryz.prog 97 ZH:=okF Tryz.func97
noncomputable def fR:qB:=cF [] Tryz.f98
theorem tY:bA Tryz.prog 98 fR:=okF Tryz.func98
def UG:C:=.seq (oR [oM 7 6,oF 8 6 2,oL 9 8,oH 10 9,oB 11 .lss 7 10] (oD 11 .skip (.exit 0))) (.seq (.block 1 (oR [oF 14 6 2,oL 15 14,oM 16 6,oI 17 13 15 16,oF 18 0 17,oL 19 18,oM 20 1,oB 21 .eql 19 20] (oD 21 (oR [oM 22 6,oM 4 22,oZ 5 true] .ret) .skip))) (.reg [oM 12 6,oC 13 .add 12 1,oM 6 13]))
def qJ:qB:=⟨(oR [oQ 2 10 0,oJ 4 0,oZ 5 false] (.seq (oR [oJ 6 0] (.block 0 (.loop UG))) (oR [oJ 4 0,oZ 5 false] .ret))),[(.tmp 4),(.tmp 5)],2,[]⟩
theorem eW:bA Tryz.prog 99 qJ:=okF Tryz.func99
def dI:C:=.seq (oR [oM 41 6,oF 42 7 1,oL 43 42,oH 44 43,oB 45 .lss 41 44] (oD 45 .skip (.exit 4))) (.seq (.block 5 (.reg [oM 48 3,oC 49 .add 48 1,oF 50 7 1,oL 51 50,oM 52 6,oI 53 2 51 52,oF 54 1 53,oL 55 54,oS 56 (.len true (.t 55)),oB 57 .add 49 56,oM 3 57])) (.reg [oM 46 6,oC 47 .add 46 1,oM 6 47]))
def fI:C:=.seq (oR [oM 26 5,oF 27 6 1,oL 28 27,oH 29 28,oB 30 .lss 26 29] (oD 30 .skip (.exit 2))) (.seq (.block 3 (.reg [oM 33 3,oF 34 6 1,oL 35 34,oM 36 5,oI 37 8 35 36,oA 38 8 37,oC1 39 100 38,oB 40 .add 33 39,oM 3 40])) (.reg [oM 31 5,oC 32 .add 31 1,oM 5 32]))
def gI:C:=.seq (oR [oM 11 4,oF 12 5 1,oL 13 12,oH 14 13,oB 15 .lss 11 14] (oD 15 .skip (.exit 0))) (.seq (.block 1 (.reg [oM 18 3,oF 19 5 1,oL 20 19,oM 21 4,oI 22 8 20 21,oA 23 8 22,oC1 24 100 23,oB 25 .add 18 24,oM 3 25])) (.reg [oM 16 4,oC 17 .add 16 1,oM 4 17]))
def UL:qB:=⟨(oR [oQ 1 8 0,oJ 2 0] (oR [oF 7 3 1,oL 8 7,oS 9 (.len true (.t 8)),oS 10 (.bin .add false (.c (.int .i64 1)) (.t 9)),oM 3 10] (.seq (oR [oJ 4 0] (.block 0 (.loop gI))) (.seq (oR [oJ 5 0] (.block 2 (.loop fI))) (.seq (oR [oJ 6 0] (.block 4 (.loop dI))) (oR [oM 58 3,oM 2 58] .ret)))))),[(.tmp 2)],1,[]⟩
theorem lZ:bA Tryz.prog 100 UL:=okF Tryz.func100
def zV:qB:=⟨(oR [oQ 2 1 0,oJ 4 0] (.seq (oR [oA 6 1 2,oC1 7 97 6,oM 5 7] (oR [oM 8 5,oC 9 .neq 8 0] (oD 9 (oR [oM 10 5,oM 4 10] .ret) .skip))) (.seq (oR [oM 11 1,oC 12 .lss 11 0,oM 13 12,oMg 14 1 13 false,oFg 15 0 2 13 false,oP 16 15 13 false,oHg 17 16 13 false,oBg 18 .geq 14 17 13 false,oPo 19 13 18] (oD 19 (oR [oJ 4 4] .ret) .skip)) (oR [oJ 4 0] .ret)))),[(.tmp 4)],2,[]⟩
theorem P4:bA Tryz.prog 101 zV:=okF Tryz.func101
noncomputable def lV:qB:=cF [16] Tryz.f102
theorem b4:bA Tryz.prog 102 lV:=okF Tryz.func102
def mC:C:=oR [oB 12 .lss 11 10] (.seq (oD 12 .skip (.exit 0)) (.seq (.block 1 (oR [oI 13 2 9 11,oA 14 2 13,oS 4 (.alloc [(.sl true []),(.int .i64 0)]),oV 2 4 14] (.seq (oR [oF 15 0 4,oA 16 1 15,oC1 17 95 16,oM 5 17] (oR [oM 18 5,oC 19 .neq 18 0] (oD 19 (oR [oM 20 5,oM 2 20] .ret) .skip))) (oR [oF 21 1 4,oL 22 21,oC 23 .lss 22 0,oM 24 23,oFg 25 1 4 24 false,oP 26 25 24 false,oFg 27 0 4 24 false,oFg 28 0 27 24 false,oP 29 28 24 false,oHg 30 29 24 false,oBg 31 .geq 26 30 24 false,oPo 32 24 31] (oD 32 (oR [oJ 2 4] .ret) .skip))))) (.reg [oC 33 .add 11 1,oM 11 33])))
def sE:qB:=⟨(oR [oJ 2 0] (.seq (oR [oM 6 0,oH 7 6,oC 8 .gtr 7 8] (oD 8 (oR [oJ 2 3] .ret) .skip)) (.seq (oR [oM 9 0,oH 10 9,oJ 11 0] (.block 0 (.loop mC))) (oR [oJ 2 0] .ret)))),[(.tmp 2)],1,[]⟩
theorem cU:bA Tryz.prog 103 sE:=okF Tryz.func103
def lM:qB:=⟨(oR [oZ 6 false] (oR [oM 10 0,oM 11 1,oI 12 2 10 11,oA 13 2 12,oM 14 0,oM 15 2,oI 16 2 14 15,oA 17 2 16,oC2 18 29 13 17,oM 9 18,oX 19 9 0,oX 20 9 1,oM 7 19,oM 8 20] (oR [oM 21 7,oM 6 21] .ret))),[(.tmp 6)],3,[]⟩
theorem BQ:bA Tryz.prog 104 lM:=okF Tryz.func104
def aH:C:=oR [oB 25 .lss 24 23] (.seq (oD 25 .skip (.exit 2)) (.seq (.block 3 (oR [oI 26 13 22 24,oA 27 13 26,oY 7 zzh,oV 13 7 27] (.reg [oM 28 3,oF 29 0 7,oL 30 29,oS 31 (.bsl [(.int .i64 0)] 1 [(0,(.t 30))]),oAp 32 3 1 8 28 31,oM 3 32]))) (.reg [oC 33 .add 24 1,oM 24 33])))
def sH:C:=oR [oB 12 .lss 11 10] (.seq (oD 12 .skip (.exit 0)) (.seq (.block 1 (oR [oI 13 2 9 11,oA 14 2 13,oY 5 zzc,oV 2 5 14] (.reg [oM 15 3,oF 16 0 5,oL 17 16,oS 18 (.bsl [(.int .i64 0)] 1 [(0,(.t 17))]),oAp 19 3 1 8 15 18,oM 3 19]))) (.reg [oC 20 .add 11 1,oM 11 20])))
def WK:qB:=⟨(oR [oQ 1 10 0,oS 2 (.mv (.c (.sl true [])))] (oR [oS 3 (.mv (.c (.sl true [])))] (.seq (oR [oF 8 5 1,oL 9 8,oH 10 9,oJ 11 0] (.block 0 (.loop sH))) (.seq (oR [oF 21 6 1,oL 22 21,oH 23 22,oJ 24 0] (.block 2 (.loop aH))) (oR [oM 34 3,oM 2 34] .ret))))),[(.tmp 2)],1,[]⟩
theorem LX:bA Tryz.prog 105 WK:=okF Tryz.func105
def ZE:qB:=⟨(oR [oZ 4 false] (oR [oM 5 0,oM 6 1,oC2 7 146 5 6,oC 8 .geq 7 0,oM 4 8] .ret)),[(.tmp 4)],2,[]⟩
theorem EO:bA Tryz.prog 106 ZE:=okF Tryz.func106
def xJ:C:=.seq (oR [oM 22 5,oF 23 6 1,oL 24 23,oH 25 24,oB 26 .lss 22 25] (oD 26 .skip (.exit 2))) (.seq (.block 3 (.reg [oM 29 3,oF 30 6 1,oL 31 30,oM 32 5,oI 33 13 31 32,oF 34 0 33,oL 35 34,oS 36 (.bsl [(.int .i64 0)] 1 [(0,(.t 35))]),oAp 37 3 1 8 29 36,oM 3 37])) (.reg [oM 27 5,oC 28 .add 27 1,oM 5 28]))
def cJ:C:=.seq (oR [oM 6 4,oF 7 5 1,oL 8 7,oH 9 8,oB 10 .lss 6 9] (oD 10 .skip (.exit 0))) (.seq (.block 1 (.reg [oM 13 3,oF 14 5 1,oL 15 14,oM 16 4,oI 17 2 15 16,oF 18 0 17,oL 19 18,oS 20 (.bsl [(.int .i64 0)] 1 [(0,(.t 19))]),oAp 21 3 1 8 13 20,oM 3 21])) (.reg [oM 11 4,oC 12 .add 11 1,oM 4 12]))
def eN:qB:=⟨(oR [oQ 1 10 0,oS 2 (.mv (.c (.sl true [])))] (oR [oS 3 (.mv (.c (.sl true [])))] (.seq (oR [oJ 4 0] (.block 0 (.loop cJ))) (.seq (oR [oJ 5 0] (.block 2 (.loop xJ))) (oR [oM 38 3,oM 2 38] .ret))))),[(.tmp 2)],1,[]⟩
theorem S4:bA Tryz.prog 107 eN:=okF Tryz.func107
def pE:C:=.seq (oR [oM 35 12,oM 36 1,oB 37 .lss 35 36] (oD 37 .skip (.exit 2))) (.seq (.block 3 (oR [oM 41 0,oM 42 12,oI 43 2 41 42,oF 44 0 43,oA 45 1 44,oM 46 2,oM 47 3,oS 48 (.call .any 147 [(.t 45),(.t 46),(.t 47)]),oM 40 48,oX 49 40 0,oX 50 40 1,oM 13 49,oM 14 50] (oR [oM 51 13,oM 52 51,oMg 53 14 52 true,oUg 54 53 52 true,oPa 55 52 54] (oD 55 (oR [oZ 8 true] .ret) .skip)))) (.reg [oM 38 12,oC 39 .add 38 1,oM 12 39]))
def SG:C:=.seq (oR [oM 15 9,oM 16 1,oB 17 .lss 15 16] (oD 17 .skip (.exit 0))) (.seq (.block 1 (.seq (oR [oM 21 0,oM 22 9,oI 23 2 21 22,oF 24 0 23,oA 25 1 24,oM 26 2,oM 27 3,oS 28 (.call .any 147 [(.t 25),(.t 26),(.t 27)]),oM 20 28,oX 29 20 0,oX 30 20 1,oM 10 29,oM 11 30] (oR [oM 31 11,oU 32 31] (oD 32 (.exit 1) .skip))) (oR [oM 33 9,oC 34 .add 33 1,oM 12 34] (.block 2 (.loop pE))))) (.reg [oM 18 9,oC 19 .add 18 1,oM 9 19]))
def nJ:qB:=⟨(oR [oZ 8 false] (.seq (oR [oJ 9 0] (.block 0 (.loop SG))) (oR [oZ 8 false] .ret))),[(.tmp 8)],4,[]⟩
theorem gW:bA Tryz.prog 108 nJ:=okF Tryz.func108
def SC:C:=oR [oB 9 .lss 8 7] (.seq (oD 9 .skip (.exit 0)) (.seq (.block 1 (oR [oM 10 8,oM 5 10] (oR [oM 11 1,oM 12 0,oM 13 5,oI 14 2 12 13,oA 15 2 14,oS 16 (.callv .any (.t 11) [(.t 15)])] (oD 16 (oR [oM 17 5,oM 4 17] .ret) .skip)))) (.reg [oC 18 .add 8 1,oM 8 18])))
def kD:qB:=⟨(oR [oJ 4 0] (.seq (oR [oM 6 0,oH 7 6,oJ 8 0] (.block 0 (.loop SC))) (oR [oJ 4 (-1)] .ret))),[(.tmp 4)],2,[]⟩
theorem lL:bA Tryz.prog 109 kD:=okF Tryz.func109
def SL:C:=oR [oB 9 .lss 8 7] (.seq (oD 9 .skip (.exit 0)) (.seq (.block 1 (oR [oM 10 8,oM 5 10] (oR [oM 11 1,oM 12 0,oM 13 5,oI 14 1 12 13,oL 15 14,oS 16 (.callv .any (.t 11) [(.t 15)])] (oD 16 (oR [oM 17 5,oM 4 17] .ret) .skip)))) (.reg [oC 18 .add 8 1,oM 8 18])))
def BH:qB:=⟨(oR [oJ 4 0] (.seq (oR [oM 6 0,oH 7 6,oJ 8 0] (.block 0 (.loop SL))) (oR [oJ 4 (-1)] .ret))),[(.tmp 4)],2,[]⟩
theorem DM:bA Tryz.prog 110 BH:=okF Tryz.func110
def JO:qB:=⟨(oR [oZ 6 false] (oR [oM 7 2,oM 8 0,oM 9 1,oI 10 1 8 9,oL 11 10,oH 12 11,oB 13 .lss 7 12,oM 14 13,oMg 15 0 14 true,oMg 16 1 14 true,oIg 17 1 15 16 14 true,oP 18 17 14 true,oMg 19 2 14 true,oIg 20 1 18 19 14 true,oP 21 20 14 true,oPa 22 14 21,oM 6 22] .ret)),[(.tmp 6)],3,[]⟩
theorem xU:bA Tryz.prog 111 JO:=okF Tryz.func111
def BW:qB:=⟨(oR [oZ 4 false] (oR [oM 5 0,oM 6 1,oB 7 .shr 5 6,oS 8 (.bin .and false (.t 7) (.c (.int .u8 1))),oS 9 (.bin .eql false (.t 8) (.c (.int .u8 1))),oM 4 9] .ret)),[(.tmp 4)],2,[]⟩
theorem w9:bA Tryz.prog 112 BW:=okF Tryz.func112
def xR:qB:=⟨(oR [oZ 6 false] (oR [oM 7 2,oM 8 0,oM 9 1,oI 10 1 8 9,oL 11 10,oH 12 11,oB 13 .lss 7 12,oM 14 13,oMg 15 0 14 true,oMg 16 1 14 true,oIg 17 1 15 16 14 true,oP 18 17 14 true,oMg 19 2 14 true,oIg 20 1 18 19 14 true,oP 21 20 14 true,oPa 22 14 21,oM 6 22] .ret)),[(.tmp 6)],3,[]⟩
theorem zY:bA Tryz.prog 113 xR:=okF Tryz.func113
def AK:qB:=⟨(oR [oQ 2 1 0,oJ 4 0] (.seq (oR [oA 6 1 2,oC1 7 150 6,oM 5 7] (oR [oM 8 5,oC 9 .neq 8 0] (oD 9 (oR [oM 10 5,oM 4 10] .ret) .skip))) (.seq (oR [oM 11 1,oC 12 .lss 11 0,oM 13 12,oMg 14 1 13 false,oFg 15 0 2 13 false,oP 16 15 13 false,oHg 17 16 13 false,oBg 18 .geq 14 17 13 false,oPo 19 13 18] (oD 19 (oR [oJ 4 4] .ret) .skip)) (oR [oJ 4 0] .ret)))),[(.tmp 4)],2,[]⟩
theorem rY:bA Tryz.prog 120 AK:=okF Tryz.func120
def IK:qB:=⟨(oR [oQ 3 1 0,oQ 5 8 2,oZ 6 false] (oR [oA 7 1 3,oM 8 1,oA 9 8 5,oS 10 (.call .any 151 [(.t 7),(.t 8),(.t 9),(.c (.bool true))]),oM 6 10] .ret)),[(.tmp 6)],3,[]⟩
theorem wY:bA Tryz.prog 121 IK:=okF Tryz.func121
def kI:qB:=⟨(oR [oY 2 zzb] (oR [oS 3 (.bsl [(.int .i64 0)] 0 []),oM 4 0,oAp 5 3 1 8 3 4,oS 6 (.build zzb [(8,(1,(.t 5)))]),oV 10 2 6] .ret)),[(.cell 2 true 10)],1,[]⟩
theorem AU:bA Tryz.prog 122 kI:=okF Tryz.func122
def IG:C:=.seq (oR [oM 7 6,oF 8 5 2,oL 9 8,oH 10 9,oB 11 .lss 7 10] (oD 11 .skip (.exit 0))) (.seq (.block 1 (oR [oF 14 5 2,oL 15 14,oM 16 6,oI 17 2 15 16,oF 18 0 17,oL 19 18,oM 20 1,oB 21 .eql 19 20] (oD 21 (oR [oM 22 6,oM 4 22,oZ 5 true] .ret) .skip))) (.reg [oM 12 6,oC 13 .add 12 1,oM 6 13]))
def wJ:qB:=⟨(oR [oQ 2 10 0,oJ 4 0,oZ 5 false] (.seq (oR [oJ 6 0] (.block 0 (.loop IG))) (oR [oJ 4 0,oZ 5 false] .ret))),[(.tmp 4),(.tmp 5)],2,[]⟩
theorem rW:bA Tryz.prog 123 wJ:=okF Tryz.func123
def PL:qB:=⟨(oR [oQ 1 8 0,oY 2 zzb] (oR [oA 3 8 1,oS 4 (.build zzb [(0,(8,(.t 3))),(9,(1,(.c (.bool true))))]),oV 10 2 4] .ret)),[(.cell 2 true 10)],1,[]⟩
theorem nZ:bA Tryz.prog 127 PL:=okF Tryz.func127
def EN:qB:=⟨(oR [oQ 2 1 0,oJ 4 0] (.seq (oR [oA 6 1 2,oC1 7 95 6,oM 5 7] (oR [oM 8 5,oC 9 .neq 8 0] (oD 9 (oR [oM 10 5,oM 4 10] .ret) .skip))) (.seq (oR [oM 11 1,oC 12 .lss 11 0,oM 13 12,oMg 14 1 13 false,oFg 15 0 2 13 false,oP 16 15 13 false,oHg 17 16 13 false,oBg 18 .geq 14 17 13 false,oPo 19 13 18] (oD 19 (oR [oJ 4 4] .ret) .skip)) (oR [oJ 4 0] .ret)))),[(.tmp 4)],2,[]⟩
theorem nT:bA Tryz.prog 128 EN:=okF Tryz.func128
def iD:qB:=⟨(oR [oQ 1 10 0,oJ 2 0] (.seq (oR [oF 4 0 1,oL 5 4] (.block 0 (oR [oC 7 .eql 5 1,oM 6 7] (oD 6 (oR [oJ 2 2] .ret) (oR [oC 9 .eql 5 2,oM 8 9] (oD 8 (oR [oF 10 3 1,oL 11 10,oS 12 (.conv (.some .u64) (.t 11)),oF 13 2 1,oL 14 13,oS 15 (.conv (.some .u64) (.t 14)),oB 16 .sub 12 15,oM 3 16] (oR [oM 17 3,oS 18 (.bin .lss false (.t 17) (.c (.int .u64 2147483647)))] (oD 18 (oR [oM 19 3,oS 20 (.conv (.some .i64) (.t 19)),oC 21 .add 20 1,oM 2 21] .ret) .skip))) (oR [oC 23 .eql 5 4,oM 22 23] (oD 22 (oR [oF 24 5 1,oL 25 24,oH 26 25,oM 2 26] .ret) (oR [oC 28 .eql 5 3,oM 27 28] (oD 27 (oR [oF 29 4 1,oL 30 29,oC 31 .eql 30 0] (oD 31 (oR [oJ 2 1] .ret) .skip)) .skip)))))))))) (oR [oJ 2 2147483647] .ret))),[(.tmp 2)],1,[]⟩
theorem LU:bA Tryz.prog 129 iD:=okF Tryz.func129
def JE:C:=oR [oB 36 .lss 35 34] (.seq (oD 36 .skip (.exit 2)) (.seq (.block 3 (oR [oI 37 13 33 35,oA 38 13 37,oY 10 zzh,oV 13 10 38] (oR [oA 40 10 3,oF 41 0 10,oL 42 41,oC2 43 137 40 42,oM 39 43,oX 44 39 0,oX 45 39 1,oM 11 44,oM 12 45] (oR [oM 46 12,oU 47 46] (oD 47 (oR [oZ 4 false] .ret) .skip))))) (.reg [oC 48 .add 35 1,oM 35 48])))
def LE:C:=oR [oB 19 .lss 18 17] (.seq (oD 19 .skip (.exit 0)) (.seq (.block 1 (oR [oI 20 2 16 18,oA 21 2 20,oY 6 zzc,oV 2 6 21] (oR [oA 23 10 3,oF 24 0 6,oL 25 24,oC2 26 154 23 25,oM 22 26,oX 27 22 0,oX 28 22 1,oM 7 27,oM 8 28] (oR [oM 29 8,oU 30 29] (oD 30 (oR [oZ 4 false] .ret) .skip))))) (.reg [oC 31 .add 18 1,oM 18 31])))
def PE:qB:=⟨(oR [oQ 2 10 0,oQ 3 10 1,oZ 4 false] (.seq (oR [oF 13 9 3,oL 14 13] (oD 14 (oR [oZ 4 true] .ret) .skip)) (.seq (oR [oF 15 5 2,oL 16 15,oH 17 16,oJ 18 0] (.block 0 (.loop LE))) (.seq (oR [oF 32 6 2,oL 33 32,oH 34 33,oJ 35 0] (.block 2 (.loop JE))) (oR [oZ 4 true] .ret))))),[(.tmp 4)],2,[]⟩
theorem qR:bA Tryz.prog 130 PE:=okF Tryz.func130
def TD:C:=oR [oB 76 .lss 75 74] (.seq (oD 76 .skip (.exit 2)) (.seq (.block 3 (oR [oI 77 13 73 75,oA 78 13 77,oY 17 zzh,oV 13 17 78] (oR [oA 80 10 7,oF 81 0 17,oL 82 81,oC2 83 137 80 82,oM 79 83,oX 84 79 0,oX 85 79 1,oM 18 84,oM 19 85] (oR [oM 86 19,oU 87 86,oM 88 87,oFg 89 3 17 88 true,oP 90 89 88 true,oPa 91 88 90] (oD 91 (oR [oJ 8 6] .ret) .skip))))) (.reg [oC 92 .add 75 1,oM 75 92])))
def nB:C:=oR [oB 24 .lss 23 22] (.seq (oD 24 .skip (.exit 0)) (.seq (.block 1 (oR [oI 25 13 21 23,oA 26 13 25,oY 10 zzh,oV 13 10 26] (oR [oA 28 10 5,oF 29 0 10,oL 30 29,oC2 31 137 28 30,oM 27 31,oX 32 27 0,oX 33 27 1,oM 11 32,oM 12 33] (.seq (oR [oM 34 12,oU 35 34] (oD 35 (.seq (oR [oF 36 4 10,oL 37 36,oU 38 37] (oD 38 (oR [oJ 8 7] .ret) .skip)) (.exit 1)) .skip)) (oR [oF 39 6 5,oL 40 39,oM 41 11,oI 42 13 40 41,oA 43 13 42,oY 13 zzh,oV 13 13 43] (.seq (oR [oF 44 4 13,oL 45 44,oU 46 45] (oD 46 (.exit 1) .skip)) (.seq (oR [oF 47 4 10,oL 48 47,oU 49 48] (oD 49 (oR [oJ 8 7] .ret) .skip)) (oR [oA 51 1 4,oF 52 2 13,oL 53 52,oF 54 5 13,oA 55 8 54,oA 56 1 6,oF 57 2 10,oL 58 57,oS 59 (.call .any 155 [(.t 51),(.t 53),(.t 55),(.t 56),(.t 58)]),oM 50 59,oX 60 50 0,oX 61 50 1,oY 14 zza,oV 8 14 60,oM 15 61] (oR [oM 62 15,oC 63 .neq 62 0,oM 64 63,oLg 65 8 14 64 false,oFg 66 5 10 64 false,oLg 67 8 66 64 false,oCg 68 156 65 67 64 false,oUg 69 68 64 false,oPo 70 64 69] (oD 70 (oR [oJ 8 10] .ret) .skip)))))))))) (.reg [oC 71 .add 23 1,oM 23 71])))
def qG:qB:=⟨(oR [oQ 4 1 0,oQ 5 10 1,oQ 6 1 2,oQ 7 10 3,oJ 8 0] (.seq (oR [oF 20 6 7,oL 21 20,oH 22 21,oJ 23 0] (.block 0 (.loop nB))) (.seq (oR [oF 72 6 5,oL 73 72,oH 74 73,oJ 75 0] (.block 2 (.loop TD))) (oR [oJ 8 0] .ret)))),[(.tmp 8)],4,[]⟩
theorem wR:bA Tryz.prog 131 qG:=okF Tryz.func131
def lI:C:=.seq (oR [oM 13 3,oC 14 .lss 13 100,oM 15 14,oMg 16 4 15 true,oFg 17 3 1 15 true,oP 18 17 15 true,oBg 19 .lss 16 18 15 true,oPa 20 15 19] (oD 20 .skip (.exit 1))) (.seq (.block 2 (.reg [oM 23 3,oC 24 .add 23 1,oM 3 24])) (.reg [oM 21 4,oC 22 .add 21 1,oM 4 22]))
def rF:qB:=⟨(oR [oQ 1 10 0,oJ 2 0] (.seq (oR [oF 5 0 1,oL 6 5] (.block 0 (oR [oC 8 .eql 6 1,oM 7 8] (oD 7 (oR [oJ 2 2] .ret) (oR [oC 10 .eql 6 2,oM 9 10] (oD 9 (oR [oJ 3 1] (.seq (oR [oF 11 2 1,oL 12 11,oM 4 12] (.block 1 (.loop lI))) (oR [oM 25 3,oM 2 25] .ret))) (oR [oC 27 .eql 6 4,oM 26 27] (oD 26 (oR [oF 28 5 1,oL 29 28,oH 30 29,oM 2 30] .ret) .skip)))))))) (.seq (oR [oF 31 4 1,oL 32 31,oC 33 .eql 32 0] (oD 33 (oR [oJ 2 1] .ret) .skip)) (oR [oJ 2 100] .ret)))),[(.tmp 2)],1,[]⟩
theorem WZ:bA Tryz.prog 132 rF:=okF Tryz.func132
def fJ:C:=.seq (oR [oM 31 8,oF 32 6 2,oL 33 32,oH 34 33,oB 35 .lss 31 34] (oD 35 .skip (.exit 2))) (.seq (.block 3 (oR [oA 39 10 3,oF 40 6 2,oL 41 40,oM 42 8,oI 43 13 41 42,oF 44 0 43,oL 45 44,oC2 46 99 39 45,oM 38 46,oX 47 38 0,oX 48 38 1,oM 9 47,oM 10 48] (oR [oM 49 10,oU 50 49] (oD 50 (oR [oZ 4 false] .ret) .skip)))) (.reg [oM 36 8,oC 37 .add 36 1,oM 8 37]))
def gJ:C:=.seq (oR [oM 11 5,oF 12 5 2,oL 13 12,oH 14 13,oB 15 .lss 11 14] (oD 15 .skip (.exit 0))) (.seq (.block 1 (oR [oA 19 10 3,oF 20 5 2,oL 21 20,oM 22 5,oI 23 2 21 22,oF 24 0 23,oL 25 24,oC2 26 123 19 25,oM 18 26,oX 27 18 0,oX 28 18 1,oM 6 27,oM 7 28] (oR [oM 29 7,oU 30 29] (oD 30 (oR [oZ 4 false] .ret) .skip)))) (.reg [oM 16 5,oC 17 .add 16 1,oM 5 17]))
def wN:qB:=⟨(oR [oQ 2 10 0,oQ 3 10 1,oZ 4 false] (.seq (oR [oJ 5 0] (.block 0 (.loop gJ))) (.seq (oR [oJ 8 0] (.block 2 (.loop fJ))) (oR [oZ 4 true] .ret)))),[(.tmp 4)],2,[]⟩
theorem O4:bA Tryz.prog 133 wN:=okF Tryz.func133
def tF:C:=.seq (oR [oM 81 13,oF 82 6 5,oL 83 82,oH 84 83,oB 85 .lss 81 84] (oD 85 .skip (.exit 2))) (.seq (.block 3 (oR [oA 89 10 7,oF 90 6 5,oL 91 90,oM 92 13,oI 93 13 91 92,oF 94 0 93,oL 95 94,oC2 96 99 89 95,oM 88 96,oX 97 88 0,oX 98 88 1,oM 14 97,oM 15 98] (oR [oM 99 15,oU 100 99,oM 101 100,oFg 102 6 5 101 true,oP 103 102 101 true,oMg 104 13 101 true,oIg 105 13 103 104 101 true,oFg 106 3 105 101 true,oP 107 106 101 true,oPa 108 101 107] (oD 108 (oR [oJ 8 6] .ret) .skip)))) (.reg [oM 86 13,oC 87 .add 86 1,oM 13 87]))
def pC:C:=.seq (oR [oM 16 9,oF 17 6 7,oL 18 17,oH 19 18,oB 20 .lss 16 19] (oD 20 .skip (.exit 0))) (.seq (.block 1 (oR [oF 23 6 7,oL 24 23,oM 25 9,oI 26 13 24 25,oA 27 13 26,oY 10 zzh,oV 13 10 27] (oR [oA 29 10 5,oF 30 0 10,oL 31 30,oC2 32 99 29 31,oM 28 32,oX 33 28 0,oX 34 28 1,oM 11 33,oM 12 34] (.seq (oR [oF 35 4 10,oL 36 35,oU 37 36,oM 38 37,oMg 39 12 38 true,oUg 40 39 38 true,oMg 41 40 38 true,oFg 42 6 5 41 false,oP 43 42 41 false,oMg 44 11 41 false,oIg 45 13 43 44 41 false,oFg 46 4 45 41 false,oP 47 46 41 false,oG 48 (.pick (.t 41) (.c (.bool true)) (.t 47)) 38 true,oPa 49 38 48] (oD 49 (oR [oJ 8 7] .ret) .skip)) (oR [oM 50 12,oM 51 50,oFg 52 6 5 51 true,oP 53 52 51 true,oMg 54 11 51 true,oIg 55 13 53 54 51 true,oFg 56 4 55 51 true,oP 57 56 51 true,oPa 58 51 57,oM 59 58,oLg 60 1 4 59 true,oFg 61 6 5 59 true,oP 62 61 59 true,oMg 63 11 59 true,oIg 64 13 62 63 59 true,oFg 65 2 64 59 true,oP 66 65 59 true,oFg 67 6 5 59 true,oP 68 67 59 true,oMg 69 11 59 true,oIg 70 13 68 69 59 true,oFg 71 5 70 59 true,oLg 72 8 71 59 true,oLg 73 1 6 59 true,oFg 74 2 10 59 true,oP 75 74 59 true,oFg 76 5 10 59 true,oLg 77 8 76 59 true,oG 78 (.call .any 157 [(.t 60),(.t 66),(.t 72),(.t 73),(.t 75),(.t 77)]) 59 true,oUg 79 78 59 true,oPa 80 59 79] (oD 80 (oR [oJ 8 10] .ret) .skip)))))) (.reg [oM 21 9,oC 22 .add 21 1,oM 9 22]))
def jJ:qB:=⟨(oR [oQ 4 1 0,oQ 5 10 1,oQ 6 1 2,oQ 7 10 3,oJ 8 0] (.seq (oR [oJ 9 0] (.block 0 (.loop pC))) (.seq (oR [oJ 13 0] (.block 2 (.loop tF))) (oR [oJ 8 0] .ret)))),[(.tmp 8)],4,[]⟩
theorem sW:bA Tryz.prog 134 jJ:=okF Tryz.func134
def iC:qB:=⟨(oR [oM 6 0,oM 7 1,oS 8 (.build [(.int .i64 0),(.int .i64 0)] [(0,(1,(.t 6))),(1,(1,(.t 7)))]),oY 5 [(.int .i64 0),(.int .i64 0)],oV 2 5 8] (oR [oL 9 2,oA 10 2 5,oC2 11 136 9 10,oU 12 11] (oD 12 (.reg [oL 13 2,oA 14 2 5,oS 15 (.bsl [(.int .i64 0),(.int .i64 0)] 1 [(0,(.t 14))]),oAp 16 63 2 16 13 15,oW 2 16]) .skip))),[],3,[]⟩
theorem AM:bA Tryz.prog 135 iC:=okF Tryz.func135
def ZD:qB:=⟨(oR [oQ 3 2 1,oZ 4 false] (oR [oM 5 0,oA 6 2 3,oC2 7 158 5 6,oC 8 .geq 7 0,oM 4 8] .ret)),[(.tmp 4)],2,[]⟩
theorem SM:bA Tryz.prog 136 ZD:=okF Tryz.func136
def zI:qB:=⟨(oR [oQ 2 10 0,oQ 3 1 1,oJ 4 0,oZ 5 false] (oR [oF 7 6 2,oL 8 7,oS 9 (.mkf 160 [(.t 3)]),oC2 10 159 8 9,oM 6 10] (oR [oM 11 6,oS 12 (.mm true (.t 11) (.c (.int .i64 0))),oM 13 6,oC 14 .geq 13 0,oM 4 12,oM 5 14] .ret))),[(.tmp 4),(.tmp 5)],2,[]⟩
theorem HU:bA Tryz.prog 137 zI:=okF Tryz.func137
def qF:qB:=⟨(oR [oJ 4 0] (oR [oM 7 0,oC1 8 171 7,oM 5 8] (oR [oM 9 1,oC1 10 171 9,oM 6 10] (.seq (oR [oM 11 5] (oD 11 (.seq (oR [oM 12 6] (oD 12 (oR [oJ 4 0] .ret) .skip)) (oR [oJ 4 (-1)] .ret)) .skip)) (.seq (oR [oM 13 6] (oD 13 (oR [oJ 4 1] .ret) .skip)) (.seq (oR [oM 14 0,oM 15 1,oB 16 .lss 14 15] (oD 16 (oR [oJ 4 (-1)] .ret) .skip)) (.seq (oR [oM 17 0,oM 18 1,oB 19 .gtr 17 18] (oD 19 (oR [oJ 4 1] .ret) .skip)) (oR [oJ 4 0] .ret)))))))),[(.tmp 4)],2,[]⟩
theorem BR:bA Tryz.prog 140 qF:=okF Tryz.func140
def OG:C:=.seq (oR [oM 32 9,oM 33 7,oB 34 .lss 32 33] (oD 34 .skip (.exit 0))) (.seq (.block 1 (oR [oA 37 1 3,oM 38 9,oC2 39 87 37 38,oC1 40 172 39] (oD 40 (oR [oM 41 9,oM 6 41] .ret) .skip))) (.reg [oM 35 9,oC 36 .add 35 1,oM 9 36]))
def OE:qB:=⟨(oR [oQ 3 1 0,oJ 6 0] (oR [oF 10 0 3,oL 11 10,oH 12 11,oM 7 12] (oR [oM 13 2,oS 14 (.conv (.some .i64) (.t 13)),oM 15 7,oB 16 .rem 14 15,oM 8 16] (.seq (oR [oA 17 1 3,oM 18 8,oC2 19 87 17 18,oC1 20 172 19,oM 21 20,oMg 22 8 21 false,oMg 23 1 21 false,oBg 24 .lss 22 23 21 false,oPo 25 21 24] (oD 25 (oR [oM 26 8,oM 6 26] .ret) .skip)) (.seq (oR [oM 27 1,oC 28 .gtr 27 0] (oD 28 (oR [oM 29 8,oM 30 1,oB 31 .rem 29 30,oM 6 31] .ret) .skip)) (.seq (oR [oJ 9 0] (.block 0 (.loop OG))) (oR [oJ 6 (-1)] .ret))))))),[(.tmp 6)],3,[]⟩
theorem uW:bA Tryz.prog 141 OE:=okF Tryz.func141
def FB:qB:=⟨(oR [oQ 3 1 0,oY 6 zza,oZ 7 false] (oR [oF 10 0 3,oL 11 10,oM 12 1,oI 13 5 11 12,oA 14 5 13,oY 8 zzd,oV 5 8 14] (oR [oA 15 1 3,oM 16 1,oC2 17 87 15 16,oS 18 (.build zza [(0,(1,(.t 17)))]),oY 9 zza,oV 8 9 18] (.seq (oR [oF 19 0 9,oL 20 19,oC 21 .eql 20 8,oM 22 21,oLg 23 1 3 22 true,oG 24 (.call .any 93 [(.t 23),(.c (.int .u8 0))]) 22 true,oCi 25 .lss 24 0 22 true,oPa 26 22 25] (oD 26 (.reg [oF 27 0 9,oN (.store .any false 1 (.t 27) (.c (.int .i64 7)))]) .skip)) (.seq (oR [oF 28 0 9,oL 29 28] (.block 0 (oR [oC 31 .eql 29 1,oM 30 31] (oD 30 (.reg [oM 32 2,oS 33 (.bin .rem false (.t 32) (.c (.int .u8 2))),oS 34 (.bin .eql false (.t 33) (.c (.int .u8 1))),oF 35 1 9,oW 35 34]) (oR [oC 37 .eql 29 2,oM 36 37] (oD 36 (.reg [oS 38 (.load (.root 8) true 5 (.t 8)),oS 39 (.call .imm 89 [(.t 38)]),oM 40 2,oS 41 (.conv (.some .i64) (.t 40)),oS 42 (.load (.root 8) true 5 (.t 8)),oS 43 (.call .imm 90 [(.t 42)]),oS 44 (.load (.root 8) true 5 (.t 8)),oS 45 (.call .imm 89 [(.t 44)]),oB 46 .sub 43 45,oC 47 .add 46 1,oB 48 .rem 41 47,oB 49 .add 39 48,oF 50 2 9,oN (.store (.root 9) false 1 (.t 50) (.t 49))]) (oR [oC 52 .eql 29 3,oM 51 52] (oD 51 (oR [oF 53 1 8,oL 54 53,oS 55 (.bin .rem false (.t 54) (.c (.int .u8 4))),oS 56 (.bin .gtr false (.t 55) (.c (.int .u8 0))),oM 57 56,oMg 58 2 57 true,oG 59 (.bin .rem false (.t 58) (.c (.int .u8 2))) 57 true,oG 60 (.bin .eql false (.t 59) (.c (.int .u8 1))) 57 true,oPa 61 57 60] (oD 61 (.reg [oF 62 3 9,oN (.store .any false 1 (.t 62) (.c (.str (ByteArray.mk #[97]))))]) .skip)) (oR [oC 64 .eql 29 4,oM 63 64] (oD 63 (.reg [oS 65 (.load (.root 8) true 5 (.t 8)),oS 66 (.call .imm 91 [(.t 65)]),oM 67 2,oS 68 (.conv (.some .i64) (.t 67)),oS 69 (.load (.root 8) true 5 (.t 8)),oS 70 (.call .imm 91 [(.t 69)]),oH 71 70,oB 72 .rem 68 71,oI 73 1 66 72,oS 74 (.load .imm false 1 (.t 73)),oF 75 4 9,oN (.store (.root 9) false 1 (.t 75) (.t 74))]) (.seq (oR [oC 77 .eql 29 5,oM 76 77] (oD 76 .skip (.reg [oC 78 .eql 29 6,oM 76 78]))) (oD 76 (oR [oS 79 (.build zza []),oV 8 6 79,oZ 7 false] .ret) .skip)))))))))))) (oR [oA 80 8 9,oV 8 6 80,oZ 7 true] .ret)))))),[(.cell 6 true 8),(.tmp 7)],3,[]⟩
theorem TU:bA Tryz.prog 142 FB:=okF Tryz.func142
def aI:qB:=⟨(oR [oZ 2 false] (oR [oM 3 0,oC 4 .geq 3 1,oM 5 4,oMg 6 0 5 true,oCi 7 .leq 6 4 5 true,oPa 8 5 7,oM 2 8] .ret)),[(.tmp 2)],1,[]⟩
theorem RU:bA Tryz.prog 143 aI:=okF Tryz.func143
def mF:C:=oR [oB 17 .lss 16 15] (.seq (oD 17 .skip (.exit 0)) (.seq (.block 1 (oR [oI 18 1 14 16,oL 19 18,oM 7 19] (.reg [oM 20 5,oM 21 7,oC 22 .gtr 21 0,oS 23 (.bsl [(.bool false)] 1 [(0,(.t 22))]),oAp 24 4 1 1 20 23,oM 5 24]))) (.reg [oC 25 .add 16 1,oM 16 25])))
def IF:qB:=⟨(oR [oQ 1 1 0,oS 2 (.mv (.c (.sl true []))),oJ 3 0] (.seq (oR [oA 8 1 1,oC1 9 173 8,oM 4 9] (oR [oM 10 4,oC 11 .neq 10 0] (oD 11 (oR [oM 12 4,oS 2 (.mv (.c (.sl true []))),oM 3 12] .ret) .skip))) (oR [oS 5 (.mv (.c (.sl true [])))] (.seq (oR [oA 13 1 1,oC1 14 174 13,oH 15 14,oJ 16 0] (.block 0 (.loop mF))) (oR [oM 26 5,oM 2 26,oJ 3 0] .ret))))),[(.tmp 2),(.tmp 3)],1,[]⟩
theorem pT:bA Tryz.prog 144 IF:=okF Tryz.func144
def PG:C:=.seq (oR [oM 15 7,oM 16 5,oH 17 16,oB 18 .lss 15 17] (oD 18 .skip (.exit 0))) (.seq (.block 1 (.reg [oM 21 6,oM 22 5,oM 23 7,oI 24 1 22 23,oL 25 24,oC 26 .gtr 25 0,oS 27 (.bsl [(.bool false)] 1 [(0,(.t 26))]),oAp 28 4 1 1 21 27,oM 6 28])) (.reg [oM 19 7,oC 20 .add 19 1,oM 7 20]))
def XG:qB:=⟨(oR [oQ 1 1 0,oS 2 (.mv (.c (.sl true []))),oJ 3 0] (.seq (oR [oA 8 1 1,oC1 9 175 8,oM 4 9] (oR [oM 10 4,oC 11 .neq 10 0] (oD 11 (oR [oM 12 4,oS 2 (.mv (.c (.sl true []))),oM 3 12] .ret) .skip))) (oR [oA 13 1 1,oC1 14 176 13,oM 5 14] (oR [oS 6 (.mv (.c (.sl true [])))] (.seq (oR [oJ 7 0] (.block 0 (.loop PG))) (oR [oM 29 6,oM 2 29,oJ 3 0] .ret)))))),[(.tmp 2),(.tmp 3)],1,[]⟩
theorem pW:bA Tryz.prog 145 XG:=okF Tryz.func145
def CE:C:=oR [oB 9 .lss 8 7] (.seq (oD 9 .skip (.exit 0)) (.seq (.block 1 (oR [oM 10 8,oM 5 10] (oR [oM 11 1,oM 12 0,oM 13 5,oI 14 1 12 13,oL 15 14,oB 16 .eql 11 15] (oD 16 (oR [oM 17 5,oM 4 17] .ret) .skip)))) (.reg [oC 18 .add 8 1,oM 8 18])))
def eG:qB:=⟨(oR [oJ 4 0] (.seq (oR [oM 6 0,oH 7 6,oJ 8 0] (.block 0 (.loop CE))) (oR [oJ 4 (-1)] .ret))),[(.tmp 4)],2,[]⟩
theorem tR:bA Tryz.prog 146 eG:=okF Tryz.func146
def zJ:C:=.seq (oR [oM 26 11,oM 27 10,oH 28 27,oB 29 .lss 26 28] (oD 29 .skip (.exit 0))) (.seq (.block 1 (oR [oM 32 10,oM 33 11,oI 34 1 32 33,oL 35 34,oM 36 2,oB 37 .eql 35 36] (oD 37 (oR [oZ 6 true,oZ 7 true] .ret) .skip))) (.reg [oM 30 11,oC 31 .add 30 1,oM 11 31]))
def qL:qB:=⟨(oR [oQ 3 1 0,oZ 6 false,oZ 7 false] (oR [oA 13 1 3,oM 14 1,oC2 15 177 13 14,oM 12 15,oX 16 12 0,oX 17 12 1,oM 8 16,oM 9 17] (.seq (oR [oM 18 9,oC 19 .neq 18 0] (oD 19 (oR [oZ 6 false,oZ 7 false] .ret) .skip)) (oR [oF 20 0 3,oL 21 20,oM 22 8,oI 23 10 21 22,oA 24 10 23,oC1 25 107 24,oM 10 25] (.seq (oR [oJ 11 0] (.block 0 (.loop zJ))) (oR [oZ 6 true,oZ 7 false] .ret)))))),[(.tmp 6),(.tmp 7)],3,[]⟩
theorem A4:bA Tryz.prog 147 qL:=okF Tryz.func147
def CA:qB:=⟨(oR [oQ 2 8 0,oQ 3 8 1,oJ 4 0] (.seq (oR [oF 5 0 2,oL 6 5,oF 7 0 3,oL 8 7,oB 9 .neq 6 8] (oD 9 (oR [oJ 4 0] .ret) .skip)) (.seq (oR [oF 10 0 2,oL 11 10] (.block 0 (oR [oC 13 .eql 11 1,oM 12 13] (oD 12 (oR [oF 14 1 3,oL 15 14,oF 16 1 2,oL 17 16,oF 18 1 3,oL 19 18,oS 20 (.bin .eql true (.t 17) (.t 19)),oC2 21 178 15 20,oM 4 21] .ret) (oR [oC 23 .eql 11 2,oM 22 23] (oD 22 (oR [oF 24 2 2,oL 25 24,oC1 26 179 25,oF 27 2 3,oL 28 27,oC1 29 179 28,oB 30 .lss 26 29,oF 31 2 2,oL 32 31,oF 33 2 3,oL 34 33,oB 35 .eql 32 34,oC2 36 178 30 35,oM 4 36] .ret) (oR [oC 38 .eql 11 3,oM 37 38] (oD 37 (.seq (oR [oF 39 3 2,oL 40 39,oS 41 (.len true (.t 40)),oF 42 3 3,oL 43 42,oS 44 (.len true (.t 43)),oB 45 .neq 41 44] (oD 45 (oR [oF 46 3 2,oL 47 46,oS 48 (.len true (.t 47)),oF 49 3 3,oL 50 49,oS 51 (.len true (.t 50)),oB 52 .lss 48 51,oS 53 (.call .any 178 [(.t 52),(.c (.bool false))]),oM 4 53] .ret) .skip)) (oR [oF 54 3 2,oL 55 54,oF 56 3 3,oL 57 56,oB 58 .lss 55 57,oF 59 3 2,oL 60 59,oF 61 3 3,oL 62 61,oB 63 .eql 60 62,oC2 64 178 58 63,oM 4 64] .ret)) (oR [oC 66 .eql 11 4,oM 65 66] (oD 65 (oR [oF 67 4 2,oL 68 67,oF 69 4 3,oL 70 69,oB 71 .lss 68 70,oF 72 4 2,oL 73 72,oF 74 4 3,oL 75 74,oB 76 .eql 73 75,oC2 77 178 71 76,oM 4 77] .ret) .skip)))))))))) (oR [oJ 4 0] .ret)))),[(.tmp 4)],2,[]⟩
theorem OU:bA Tryz.prog 149 CA:=okF Tryz.func149
def WE:C:=.seq (oR [oM 48 7,oM 49 6,oH 50 49,oB 51 .lss 48 50] (oD 51 .skip (.exit 4))) (.seq (.block 5 (oR [oM 54 6,oM 55 7,oI 56 1 54 55,oL 57 56,oC 58 .lss 57 0,oM 59 58,oMg 60 6 59 false,oMg 61 7 59 false,oIg 62 1 60 61 59 false,oP 63 62 59 false,oFg 64 0 1 59 false,oP 65 64 59 false,oHg 66 65 59 false,oBg 67 .geq 63 66 59 false,oPo 68 59 67] (oD 68 (oR [oJ 2 4] .ret) .skip))) (.reg [oM 52 7,oC 53 .add 52 1,oM 7 53]))
def DD:C:=.seq (oR [oM 27 5,oM 28 3,oB 29 .lss 27 28] (oD 29 .skip (.exit 2))) (.seq (.block 3 (oR [oF 32 0 4,oL 33 32,oC1 34 88 33,oM 35 34,oFg 36 0 1 35 true,oP 37 36 35 true,oMg 38 5 35 true,oIg 39 10 37 38 35 true,oFg 40 1 39 35 true,oP 41 40 35 true,oFg 42 1 4 35 true,oP 43 42 35 true,oBg 44 .eql 41 43 35 true,oPa 45 35 44] (oD 45 (oR [oJ 2 1] .ret) .skip))) (.reg [oM 30 5,oC 31 .add 30 1,oM 5 31]))
def kH:C:=.seq (oR [oM 12 3,oF 13 0 1,oL 14 13,oH 15 14,oB 16 .lss 12 15] (oD 16 .skip (.exit 0))) (.seq (.block 1 (oR [oF 19 0 1,oL 20 19,oM 21 3,oI 22 10 20 21,oA 23 10 22,oY 4 zze,oV 10 4 23] (.seq (oR [oA 24 10 4,oC1 25 180 24,oU 26 25] (oD 26 (oR [oJ 2 1] .ret) .skip)) (.seq (oR [oJ 5 0] (.block 2 (.loop DD))) (oR [oA 46 10 4,oC1 47 181 46,oM 6 47] (.seq (oR [oJ 7 0] (.block 4 (.loop WE))) (oR [oF 69 0 4,oL 70 69,oC 71 .eql 70 8,oM 72 71,oFg 73 0 1 72 true,oP 74 73 72 true,oFg 75 7 4 72 true,oP 76 75 72 true,oIg 77 10 74 76 72 true,oFg 78 0 77 72 true,oP 79 78 72 true,oG 80 (.call .any 143 [(.t 79)]) 72 true,oUg 81 80 72 true,oPa 82 72 81] (oD 82 (oR [oJ 2 1] .ret) .skip)))))))) (.reg [oM 17 3,oC 18 .add 17 1,oM 3 18]))
def HH:qB:=⟨(oR [oQ 1 1 0,oJ 2 0] (.seq (oR [oF 8 0 1,oL 9 8,oH 10 9,oC 11 .gtr 10 32] (oD 11 (oR [oJ 2 3] .ret) .skip)) (.seq (oR [oJ 3 0] (.block 0 (.loop kH))) (oR [oJ 2 0] .ret)))),[(.tmp 2)],1,[]⟩
theorem BX:bA Tryz.prog 150 HH:=okF Tryz.func150
def uJ:C:=.seq (oR [oM 260 15,oF 261 5 6,oL 262 261,oH 263 262,oB 264 .lss 260 263] (oD 264 .skip (.exit 3))) (.seq (.block 4 (oR [oF 267 5 6,oL 268 267,oM 269 15,oC 270 .sub 269 1,oI 271 8 268 270,oA 272 8 271,oF 273 5 6,oL 274 273,oM 275 15,oI 276 8 274 275,oA 277 8 276,oC2 278 149 272 277,oC 279 .geq 278 0] (oD 279 (oR [oZ 8 false] .ret) .skip))) (.reg [oM 265 15,oC 266 .add 265 1,oM 15 266]))
def iJ:C:=.seq (oR [oM 115 12,oF 116 6 6,oL 117 116,oH 118 117,oB 119 .lss 115 118] (oD 119 .skip (.exit 1))) (.seq (.block 2 (oR [oA 122 1 4,oF 123 6 9,oL 124 123,oM 125 12,oI 126 13 124 125,oF 127 2 126,oL 128 127,oF 129 6 6,oL 130 129,oM 131 12,oI 132 8 130 131,oA 133 8 132,oM 134 3,oC4 135 151 122 128 133 134,oU 136 135] (oD 136 (oR [oZ 8 false] .ret) .skip))) (.reg [oM 120 12,oC 121 .add 120 1,oM 12 121]))
def nA:qB:=⟨(oR [oQ 4 1 0,oQ 6 8 2,oZ 8 false] (.seq (oR [oM 16 1,oC 17 .lss 16 0,oM 18 17,oMg 19 1 18 false,oFg 20 0 4 18 false,oP 21 20 18 false,oHg 22 21 18 false,oBg 23 .geq 19 22 18 false,oPo 24 18 23] (oD 24 (oR [oZ 8 false] .ret) .skip)) (oR [oF 25 0 4,oL 26 25,oM 27 1,oI 28 10 26 27,oA 29 10 28,oY 9 zze,oV 10 9 29] (.seq (oR [oF 30 0 6,oL 31 30,oF 32 0 9,oL 33 32,oB 34 .neq 31 33,oM 35 34,oLg 36 8 6 35 false,oG 37 (.call .any 182 [(.t 36)]) 35 false,oUg 38 37 35 false,oPo 39 35 38,oM 40 39,oMg 41 3 40 false,oMg 42 41 40 false,oFg 43 7 6 42 true,oP 44 43 42 true,oHg 45 44 42 true,oCi 46 .gtr 45 0 42 true,oPb 47 42 46 40 false,oPo 48 40 47] (oD 48 (oR [oZ 8 false] .ret) .skip)) (.seq (oR [oF 49 0 9,oL 50 49] (.block 0 (oR [oC 52 .eql 50 1,oM 51 52] (oD 51 (oR [oZ 8 true] .ret) (oR [oC 54 .eql 50 2,oM 53 54] (oD 53 (oR [oF 55 2 6,oL 56 55,oF 57 2 9,oL 58 57,oB 59 .geq 56 58,oM 60 59,oFg 61 2 6 60 true,oP 62 61 60 true,oFg 63 3 9 60 true,oP 64 63 60 true,oBg 65 .leq 62 64 60 true,oPa 66 60 65,oM 8 66] .ret) (oR [oC 68 .eql 50 3,oM 67 68] (oD 67 (oR [oF 69 3 6,oL 70 69,oS 71 (.len true (.t 70)),oF 72 4 9,oL 73 72,oB 74 .leq 71 73,oM 8 74] .ret) (oR [oC 76 .eql 50 4,oM 75 76] (oD 75 (oR [oA 78 10 9,oF 79 4 6,oL 80 79,oC2 81 123 78 80,oM 77 81,oX 82 77 0,oX 83 77 1,oM 10 82,oM 11 83] (oR [oM 84 11,oM 85 84,oFg 86 9 9 85 false,oP 87 86 85 false,oMg 88 87 85 false,oMg 89 3 88 true,oUg 90 89 88 true,oPb 91 88 90 85 false,oMg 92 91 85 false,oFg 93 4 6 92 true,oP 94 93 92 true,oMg 95 11 92 true,oCg 96 183 94 95 92 true,oPb 97 92 96 85 false,oPo 98 85 97,oM 8 98] .ret)) (oR [oC 100 .eql 50 5,oM 99 100] (oD 99 (.seq (oR [oF 101 6 6,oL 102 101,oH 103 102,oF 104 6 9,oL 105 104,oH 106 105,oB 107 .neq 103 106,oM 108 107,oLg 109 10 9 108 false,oFg 110 7 6 108 false,oP 111 110 108 false,oCg 112 184 109 111 108 false,oUg 113 112 108 false,oPo 114 108 113] (oD 114 (oR [oZ 8 false] .ret) .skip)) (.seq (oR [oJ 12 0] (.block 1 (.loop iJ))) (oR [oZ 8 true] .ret))) (oR [oC 138 .eql 50 6,oM 137 138] (oD 137 (oR [oA 140 10 9,oF 141 4 6,oL 142 141,oC2 143 99 140 142,oM 139 143,oX 144 139 0,oX 145 139 1,oM 13 144,oM 14 145] (.seq (oR [oM 146 14] (oD 146 (oR [oF 147 6 6,oL 148 147,oH 149 148,oC 150 .eql 149 1,oM 151 150,oFg 152 7 6 151 true,oP 153 152 151 true,oHg 154 153 151 true,oCi 155 .eql 154 0 151 true,oPa 156 151 155,oM 157 156,oLg 158 1 4 157 true,oFg 159 6 9 157 true,oP 160 159 157 true,oMg 161 13 157 true,oIg 162 13 160 161 157 true,oFg 163 2 162 157 true,oP 164 163 157 true,oFg 165 6 6 157 true,oP 166 165 157 true,oG 167 (.iaddr 8 (.t 166) (.c (.int .i64 0))) 157 true,oLg 168 8 167 157 true,oMg 169 3 157 true,oG 170 (.call .any 151 [(.t 158),(.t 164),(.t 168),(.t 169)]) 157 true,oPa 171 157 170,oM 8 171] .ret) .skip)) (oR [oF 172 9 9,oL 173 172,oM 174 173,oMg 175 3 174 true,oUg 176 175 174 true,oPa 177 174 176,oM 178 177,oFg 179 4 6 178 true,oP 180 179 178 true,oMg 181 14 178 true,oCg 182 183 180 181 178 true,oPa 183 178 182,oM 184 183,oFg 185 6 6 184 true,oP 186 185 184 true,oHg 187 186 184 true,oCi 188 .eql 187 0 184 true,oPa 189 184 188,oM 190 189,oFg 191 7 6 190 true,oP 192 191 190 true,oHg 193 192 190 true,oCi 194 .eql 193 1 190 true,oPa 195 190 194,oM 196 195,oFg 197 7 6 196 true,oP 198 197 196 true,oG 199 (.iaddr 2 (.t 198) (.c (.int .i64 0))) 196 true,oFg 200 0 199 196 true,oP 201 200 196 true,oFg 202 4 6 196 true,oP 203 202 196 true,oBg 204 .eql 201 203 196 true,oPa 205 196 204,oM 8 205] .ret))) (oR [oC 207 .eql 50 7,oM 206 207] (oD 206 (oR [oF 208 6 6,oL 209 208,oH 210 209,oF 211 4 9,oL 212 211,oB 213 .leq 210 212,oM 214 213,oLg 215 1 4 214 true,oFg 216 8 9 214 true,oP 217 216 214 true,oFg 218 6 6 214 true,oP 219 218 214 true,oMg 220 3 214 true,oG 221 (.call .any 185 [(.t 215),(.t 217),(.t 219),(.t 220)]) 214 true,oPa 222 214 221,oM 8 222] .ret) (oR [oC 224 .eql 50 8,oM 223 224] (oD 223 (.seq (oR [oF 225 5 6,oL 226 225,oH 227 226,oF 228 4 9,oL 229 228,oB 230 .gtr 227 229,oM 231 230,oFg 232 6 6 231 false,oP 233 232 231 false,oHg 234 233 231 false,oFg 235 5 6 231 false,oP 236 235 231 false,oHg 237 236 231 false,oBg 238 .neq 234 237 231 false,oPo 239 231 238,oM 240 239,oLg 241 1 4 240 false,oFg 242 7 9 240 false,oP 243 242 240 false,oFg 244 5 6 240 false,oP 245 244 240 false,oMg 246 3 240 false,oG 247 (.call .any 185 [(.t 241),(.t 243),(.t 245),(.t 246)]) 240 false,oUg 248 247 240 false,oPo 249 240 248,oM 250 249,oLg 251 1 4 250 false,oFg 252 8 9 250 false,oP 253 252 250 false,oFg 254 6 6 250 false,oP 255 254 250 false,oMg 256 3 250 false,oG 257 (.call .any 185 [(.t 251),(.t 253),(.t 255),(.t 256)]) 250 false,oUg 258 257 250 false,oPo 259 250 258] (oD 259 (oR [oZ 8 false] .ret) .skip)) (.seq (oR [oJ 15 1] (.block 3 (.loop uJ))) (oR [oZ 8 true] .ret))) .skip)))))))))))))))))) (oR [oF 280 6 6,oL 281 280,oH 282 281,oC 283 .leq 282 1,oM 284 283,oLg 285 1 4 284 true,oFg 286 8 9 284 true,oP 287 286 284 true,oFg 288 6 6 284 true,oP 289 288 284 true,oMg 290 3 284 true,oG 291 (.call .any 185 [(.t 285),(.t 287),(.t 289),(.t 290)]) 284 true,oPa 292 284 291,oM 8 292] .ret)))))),[(.tmp 8)],4,[]⟩
theorem I4:bA Tryz.prog 151 nA:=okF Tryz.func151
def xI:qB:=⟨(oR [oQ 2 10 0,oQ 3 1 1,oJ 4 0,oZ 5 false] (oR [oF 7 5 2,oL 8 7,oS 9 (.mkf 193 [(.t 3)]),oC2 10 192 8 9,oM 6 10] (oR [oM 11 6,oS 12 (.mm true (.t 11) (.c (.int .i64 0))),oM 13 6,oC 14 .geq 13 0,oM 4 12,oM 5 14] .ret))),[(.tmp 4),(.tmp 5)],2,[]⟩
theorem JU:bA Tryz.prog 154 xI:=okF Tryz.func154
def wF:qB:=⟨(oR [oQ 5 1 0,oQ 7 8 2,oQ 8 1 3,oY 10 zza,oJ 11 0] (.seq (oR [oA 16 1 5,oM 17 1,oA 18 8 7,oA 19 1 8,oM 20 4,oS 21 (.call .any 194 [(.t 16),(.t 17),(.t 18),(.t 19),(.t 20)]),oM 12 21] (oR [oM 22 12,oC 23 .neq 22 0] (oD 23 (oR [oS 24 (.build zza []),oM 25 12,oV 8 10 24,oM 11 25] .ret) .skip))) (oR [oA 26 1 5,oA 27 1 8,oS 28 (.build zzi [(0,(1,(.t 26))),(1,(1,(.t 27)))]),oQ 29 4 28,oM 13 29] (oR [oM 31 13,oM 32 1,oA 33 8 7,oM 34 4,oS 35 (.callr .any 195 [(.t 31),(.t 32),(.t 33),(.t 34)]),oM 30 35,oX 36 30 0,oX 37 30 1,oY 14 zza,oV 8 14 36,oM 15 37] (.seq (oR [oM 38 15,oU 39 38] (oD 39 (oR [oS 40 (.build zza []),oV 8 10 40,oJ 11 12] .ret) .skip)) (oR [oA 41 8 14,oV 8 10 41,oJ 11 0] .ret)))))),[(.cell 10 true 8),(.tmp 11)],5,[71]⟩
theorem wS:bA Tryz.prog 155 wF:=okF Tryz.func155
def wD:qB:=⟨(oR [oQ 2 8 0,oQ 3 8 1,oZ 4 false] (oR [oF 5 0 2,oL 6 5,oF 7 0 3,oL 8 7,oB 9 .eql 6 8,oM 10 9,oFg 11 1 2 10 true,oP 12 11 10 true,oFg 13 1 3 10 true,oP 14 13 10 true,oG 15 (.bin .eql true (.t 12) (.t 14)) 10 true,oPa 16 10 15,oM 17 16,oFg 18 2 2 17 true,oP 19 18 17 true,oFg 20 2 3 17 true,oP 21 20 17 true,oBg 22 .eql 19 21 17 true,oPa 23 17 22,oM 24 23,oFg 25 3 2 24 true,oP 26 25 24 true,oFg 27 3 3 24 true,oP 28 27 24 true,oBg 29 .eql 26 28 24 true,oPa 30 24 29,oM 31 30,oFg 32 4 2 31 true,oP 33 32 31 true,oFg 34 4 3 31 true,oP 35 34 31 true,oBg 36 .eql 33 35 31 true,oPa 37 31 36,oM 38 37,oFg 39 7 2 38 true,oP 40 39 38 true,oFg 41 7 3 38 true,oP 42 41 38 true,oCg 43 196 40 42 38 true,oPa 44 38 43,oM 45 44,oFg 46 5 2 45 true,oP 47 46 45 true,oFg 48 5 3 45 true,oP 49 48 45 true,oG 50 (.call .any 197 [(.t 47),(.t 49),(.c (.fn 156 []))]) 45 true,oPa 51 45 50,oM 52 51,oFg 53 6 2 52 true,oP 54 53 52 true,oFg 55 6 3 52 true,oP 56 55 52 true,oG 57 (.call .any 197 [(.t 54),(.t 56),(.c (.fn 156 []))]) 52 true,oPa 58 52 57,oM 4 58] .ret)),[(.tmp 4)],2,[]⟩
theorem nY:bA Tryz.prog 156 wD:=okF Tryz.func156
def XH:qB:=⟨(oR [oQ 6 1 0,oQ 8 8 2,oQ 9 1 3,oQ 11 8 5,oZ 12 false] (oR [oA 16 1 6,oM 17 1,oA 18 8 8,oA 19 1 9,oM 20 4,oS 21 (.call .any 23 [(.t 16),(.t 17),(.t 18),(.t 19),(.t 20)]),oM 15 21,oX 22 15 0,oX 23 15 1,oY 13 zza,oV 8 13 22,oM 14 23] (oR [oM 24 14,oC 25 .eql 24 0,oM 26 25,oLg 27 8 13 26 true,oLg 28 8 11 26 true,oCg 29 191 27 28 26 true,oPa 30 26 29,oM 12 30] .ret))),[(.tmp 12)],6,[]⟩
theorem sY:bA Tryz.prog 157 XH:=okF Tryz.func157
def qD:C:=oR [oB 9 .lss 8 7] (.seq (oD 9 .skip (.exit 0)) (.seq (.block 1 (oR [oM 10 8,oM 5 10] (oR [oA 11 2 3,oM 12 0,oM 13 5,oI 14 2 12 13,oA 15 2 14,oS 16 (.eqa false [0,0] (.t 11) (.t 15))] (oD 16 (oR [oM 17 5,oM 4 17] .ret) .skip)))) (.reg [oC 18 .add 8 1,oM 8 18])))
def XE:qB:=⟨(oR [oQ 3 2 1,oJ 4 0] (.seq (oR [oM 6 0,oH 7 6,oJ 8 0] (.block 0 (.loop qD))) (oR [oJ 4 (-1)] .ret))),[(.tmp 4)],2,[]⟩
theorem RO:bA Tryz.prog 158 XE:=okF Tryz.func158
def sC:C:=oR [oB 9 .lss 8 7] (.seq (oD 9 .skip (.exit 0)) (.seq (.block 1 (oR [oM 10 8,oM 5 10] (oR [oM 11 1,oM 12 0,oM 13 5,oI 14 13 12 13,oA 15 13 14,oS 16 (.callv .any (.t 11) [(.t 15)])] (oD 16 (oR [oM 17 5,oM 4 17] .ret) .skip)))) (.reg [oC 18 .add 8 1,oM 8 18])))
def LC:qB:=⟨(oR [oJ 4 0] (.seq (oR [oM 6 0,oH 7 6,oJ 8 0] (.block 0 (.loop sC))) (oR [oJ 4 (-1)] .ret))),[(.tmp 4)],2,[]⟩
theorem lK:bA Tryz.prog 159 LC:=okF Tryz.func159
def NF:qB:=⟨(oR [oQ 2 13 0,oZ 3 false] (oR [oF 4 0 2,oL 5 4,oL 6 1,oB 7 .eql 5 6,oM 3 7] .ret)),[(.tmp 3)],2,[]⟩
theorem NQ:bA Tryz.prog 160 NF:=okF Tryz.func160
def uI:qB:=⟨(oR [oZ 2 false] (oR [oM 3 0,oM 4 0,oB 5 .neq 3 4,oM 2 5] .ret)),[(.tmp 2)],1,[]⟩
theorem zU:bA Tryz.prog 171 uI:=okF Tryz.func171
def eJ:qB:=⟨(oR [oZ 2 false] (oR [oM 3 0,oC 4 .geq 3 7,oM 2 4] .ret)),[(.tmp 2)],1,[]⟩
theorem tW:bA Tryz.prog 172 eJ:=okF Tryz.func172
def pG:qB:=⟨(oR [oQ 1 1 0,oJ 2 0] (.seq (oR [oA 7 1 1,oC1 8 203 7,oM 3 8] (oR [oM 9 3,oC 10 .neq 9 0] (oD 10 (oR [oM 11 3,oM 2 11] .ret) .skip))) (oR [oA 13 1 1,oC1 14 204 13,oM 12 14,oX 15 12 0,oX 16 12 1,oX 17 12 2,oM 4 15,oM 5 16,oM 6 17] (oR [oM 18 6,oM 2 18] .ret)))),[(.tmp 2)],1,[]⟩
theorem mU:bA Tryz.prog 173 pG:=okF Tryz.func173
def lE:C:=oR [oB 17 .lss 16 15] (.seq (oD 17 .skip (.exit 2)) (.seq (.block 3 (oR [oM 18 16,oI 19 10 14 16,oA 20 10 19,oY 6 zze,oM 5 18,oV 10 6 20] (oR [oA 21 10 6,oM 22 3,oC2 23 205 21 22,oS 24 (.mm false (.c (.int .i64 2)) (.t 23)),oM 7 24] (oR [oM 25 7,oM 26 3,oM 27 5,oI 28 1 26 27,oL 29 28,oB 30 .neq 25 29] (oD 30 (.reg [oM 31 3,oM 32 5,oM 33 7,oI 34 1 31 32,oW 34 33,oZ 4 true]) .skip))))) (.reg [oC 35 .add 16 1,oM 16 35])))
def RH:C:=.seq (oR [oM 12 4] (oD 12 .skip (.exit 0))) (.block 1 (oR [oZ 4 false] (oR [oF 13 0 1,oL 14 13,oH 15 14,oJ 16 0] (.block 2 (.loop lE)))))
def dH:qB:=⟨(oR [oQ 1 1 0,oS 2 (.mv (.c (.sl true [])))] (oR [oF 8 0 1,oL 9 8,oH 10 9,oS 11 (.mks 1 8 [(.int .i64 0)] (.t 10) (.t 10)),oM 3 11] (.seq (oR [oZ 4 true] (.block 0 (.loop RH))) (oR [oM 36 3,oM 2 36] .ret)))),[(.tmp 2)],1,[]⟩
theorem aT:bA Tryz.prog 174 dH:=okF Tryz.func174
def KH:qB:=⟨(oR [oQ 1 1 0,oJ 2 0] (.seq (oR [oA 7 1 1,oC1 8 150 7,oM 3 8] (oR [oM 9 3,oC 10 .neq 9 0] (oD 10 (oR [oM 11 3,oM 2 11] .ret) .skip))) (oR [oA 13 1 1,oC1 14 206 13,oM 12 14,oX 15 12 0,oX 16 12 1,oX 17 12 2,oM 4 15,oM 5 16,oM 6 17] (oR [oM 18 6,oM 2 18] .ret)))),[(.tmp 2)],1,[]⟩
theorem uY:bA Tryz.prog 175 KH:=okF Tryz.func175
def aJ:C:=.seq (oR [oM 18 5,oF 19 0 1,oL 20 19,oH 21 20,oB 22 .lss 18 21] (oD 22 .skip (.exit 2))) (.seq (.block 3 (.reg [oM 25 3,oM 26 5,oF 27 0 1,oL 28 27,oM 29 5,oI 30 10 28 29,oA 31 10 30,oM 32 3,oC2 33 207 31 32,oI 34 1 25 26,oW 34 33])) (.reg [oM 23 5,oC 24 .add 23 1,oM 5 24]))
def sJ:C:=.seq (oR [oM 10 4,oF 11 0 1,oL 12 11,oH 13 12,oS 14 (.bin .mul false (.c (.int .i64 2)) (.t 13)),oB 15 .leq 10 14] (oD 15 .skip (.exit 0))) (.seq (.block 1 (oR [oJ 5 0] (.block 2 (.loop aJ)))) (.reg [oM 16 4,oC 17 .add 16 1,oM 4 17]))
def pJ:qB:=⟨(oR [oQ 1 1 0,oS 2 (.mv (.c (.sl true [])))] (oR [oF 6 0 1,oL 7 6,oH 8 7,oS 9 (.mks 1 8 [(.int .i64 0)] (.t 8) (.t 8)),oM 3 9] (.seq (oR [oJ 4 0] (.block 0 (.loop sJ))) (oR [oM 35 3,oM 2 35] .ret)))),[(.tmp 2)],1,[]⟩
theorem iW:bA Tryz.prog 176 pJ:=okF Tryz.func176
def aG:C:=.seq (oR [oM 7 6,oF 8 0 2,oL 9 8,oH 10 9,oB 11 .lss 7 10] (oD 11 .skip (.exit 0))) (.seq (.block 1 (oR [oF 14 0 2,oL 15 14,oM 16 6,oI 17 10 15 16,oF 18 0 17,oL 19 18,oC1 20 88 19,oM 21 20,oFg 22 0 2 21 true,oP 23 22 21 true,oMg 24 6 21 true,oIg 25 10 23 24 21 true,oFg 26 1 25 21 true,oP 27 26 21 true,oMg 28 1 21 true,oBg 29 .eql 27 28 21 true,oPa 30 21 29] (oD 30 (oR [oM 31 6,oM 4 31,oJ 5 0] .ret) .skip))) (.reg [oM 12 6,oC 13 .add 12 1,oM 6 13]))
def EL:qB:=⟨(oR [oQ 2 1 0,oJ 4 0,oJ 5 0] (.seq (oR [oJ 6 0] (.block 0 (.loop aG))) (oR [oJ 4 0,oJ 5 4] .ret))),[(.tmp 4),(.tmp 5)],2,[]⟩
theorem gZ:bA Tryz.prog 177 EL:=okF Tryz.func177
def PK:qB:=⟨(oR [oJ 4 0] (.seq (oR [oM 5 1] (oD 5 (oR [oJ 4 0] .ret) .skip)) (.seq (oR [oM 6 0] (oD 6 (oR [oJ 4 (-1)] .ret) .skip)) (oR [oJ 4 1] .ret)))),[(.tmp 4)],2,[]⟩
theorem eY:bA Tryz.prog 178 PK:=okF Tryz.func178
def KG:qB:=⟨(oR [oS 2 (.mv (.c (.int .u64 0)))] (.seq (oR [oM 3 0,oC 4 .geq 3 0] (oD 4 (oR [oM 5 0,oS 6 (.conv (.some .u64) (.t 5)),oS 7 (.bin .mul false (.c (.int .u64 2)) (.t 6)),oM 2 7] .ret) .skip)) (oR [oM 8 0,oC 9 .add 8 1,oS 10 (.un .neg (.t 9)),oS 11 (.conv (.some .u64) (.t 10)),oS 12 (.bin .mul false (.c (.int .u64 2)) (.t 11)),oS 13 (.bin .add false (.t 12) (.c (.int .u64 1))),oM 2 13] .ret))),[(.tmp 2)],1,[]⟩
theorem MV:bA Tryz.prog 179 KG:=okF Tryz.func179
def QA:qB:=⟨(oR [oQ 1 10 0,oZ 2 false] (.seq (oR [oF 3 0 1,oL 4 3,oC 5 .lss 4 1,oM 6 5,oFg 7 0 1 6 false,oP 8 7 6 false,oCi 9 .gtr 8 9 6 false,oPo 10 6 9,oM 11 10,oLg 12 10 1 11 false,oLg 13 10 1 11 false,oG 14 (.call .any 209 [(.t 13)]) 11 false,oCg 15 208 12 14 11 false,oUg 16 15 11 false,oPo 17 11 16,oM 18 17,oFg 19 0 1 18 false,oP 20 19 18 false,oG 21 (.call .any 88 [(.t 20)]) 18 false,oMg 22 21 18 false,oFg 23 1 1 22 true,oP 24 23 22 true,oG 25 (.call .any 210 [(.t 24)]) 22 true,oUg 26 25 22 true,oPb 27 22 26 18 false,oPo 28 18 27] (oD 28 (oR [oZ 2 false] .ret) .skip)) (.seq (oR [oF 29 0 1,oL 30 29] (.block 0 (oR [oC 32 .eql 30 2,oM 31 32] (oD 31 (oR [oF 33 2 1,oL 34 33,oF 35 3 1,oL 36 35,oB 37 .leq 34 36,oM 2 37] .ret) (oR [oC 39 .eql 30 3,oM 38 39] (oD 38 (oR [oF 40 4 1,oL 41 40,oC 42 .geq 41 0,oM 43 42,oFg 44 4 1 43 true,oP 45 44 43 true,oCi 46 .leq 45 200 43 true,oPa 47 43 46,oM 2 47] .ret) (oR [oC 49 .eql 30 4,oM 48 49] (oD 48 (oR [oF 50 5 1,oL 51 50,oC1 52 211 51,oM 2 52] .ret) (.seq (oR [oC 54 .eql 30 5,oM 53 54] (oD 53 .skip (.reg [oC 55 .eql 30 6,oM 53 55]))) (oD 53 (oR [oF 56 6 1,oL 57 56,oF 58 0 1,oL 59 58,oC 60 .eql 59 5,oC2 61 212 57 60,oM 2 61] .ret) (.seq (oR [oC 63 .eql 30 7,oM 62 63] (oD 62 .skip (.reg [oC 64 .eql 30 8,oM 62 64]))) (oD 62 (oR [oF 65 4 1,oL 66 65,oC 67 .geq 66 0,oM 68 67,oFg 69 4 1 68 true,oP 70 69 68 true,oCi 71 .leq 70 50 68 true,oPa 72 68 71,oM 2 72] .ret) .skip)))))))))))) (oR [oZ 2 true] .ret)))),[(.tmp 2)],1,[]⟩
theorem T4:bA Tryz.prog 180 QA:=okF Tryz.func180
def sG:C:=.seq (oR [oM 5 4,oF 6 6 1,oL 7 6,oH 8 7,oB 9 .lss 5 8] (oD 9 .skip (.exit 0))) (.seq (.block 1 (.reg [oM 12 3,oF 13 6 1,oL 14 13,oM 15 4,oI 16 13 14 15,oF 17 2 16,oL 18 17,oS 19 (.bsl [(.int .i64 0)] 1 [(0,(.t 18))]),oAp 20 3 1 8 12 19,oM 3 20])) (.reg [oM 10 4,oC 11 .add 10 1,oM 4 11]))
def IL:qB:=⟨(oR [oQ 1 10 0,oS 2 (.mv (.c (.sl true [])))] (oR [oS 3 (.mv (.c (.sl true [])))] (.seq (oR [oJ 4 0] (.block 0 (.loop sG))) (.seq (oR [oF 21 0 1,oL 22 21,oC 23 .eql 22 8] (oD 23 (.reg [oM 24 3,oF 25 7 1,oL 26 25,oS 27 (.bsl [(.int .i64 0)] 1 [(0,(.t 26))]),oAp 28 3 1 8 24 27,oM 3 28]) .skip)) (.seq (oR [oF 29 0 1,oL 30 29,oC 31 .eql 30 7,oM 32 31,oFg 33 0 1 32 false,oP 34 33 32 false,oCi 35 .eql 34 8 32 false,oPo 36 32 35,oM 37 36,oFg 38 0 1 37 false,oP 39 38 37 false,oCi 40 .eql 39 9 37 false,oPo 41 37 40] (oD 41 (.reg [oM 42 3,oF 43 8 1,oL 44 43,oS 45 (.bsl [(.int .i64 0)] 1 [(0,(.t 44))]),oAp 46 3 1 8 42 45,oM 3 46]) .skip)) (oR [oM 47 3,oM 2 47] .ret)))))),[(.tmp 2)],1,[]⟩
theorem zZ:bA Tryz.prog 181 IL:=okF Tryz.func181
def iA:qB:=⟨(oR [oQ 1 8 0,oZ 2 false] (oR [oF 4 0 1,oL 5 4,oM 3 5] (oR [oM 6 3,oC 7 .eql 6 1,oM 8 7,oFg 9 1 1 8 false,oP 10 9 8 false,oUg 11 10 8 false,oPo 12 8 11,oM 13 12,oMg 14 3 13 true,oCi 15 .eql 14 2 13 true,oMg 16 15 13 true,oFg 17 2 1 16 false,oP 18 17 16 false,oCi 19 .eql 18 0 16 false,oG 20 (.pick (.t 16) (.c (.bool true)) (.t 19)) 13 true,oPa 21 13 20,oM 22 21,oMg 23 3 22 true,oCi 24 .eql 23 3 22 true,oMg 25 24 22 true,oFg 26 3 1 25 false,oP 27 26 25 false,oG 28 (.bin .eql false (.t 27) (.c (.str (ByteArray.mk #[])))) 25 false,oG 29 (.pick (.t 25) (.c (.bool true)) (.t 28)) 22 true,oPa 30 22 29,oM 31 30,oMg 32 3 31 true,oCi 33 .eql 32 4 31 true,oMg 34 33 31 true,oMg 35 3 34 false,oCi 36 .eql 35 6 34 false,oG 37 (.pick (.t 34) (.c (.bool true)) (.t 36)) 31 true,oMg 38 37 31 true,oFg 39 4 1 38 false,oP 40 39 38 false,oCi 41 .eql 40 0 38 false,oG 42 (.pick (.t 38) (.c (.bool true)) (.t 41)) 31 true,oPa 43 31 42,oM 44 43,oMg 45 3 44 true,oCi 46 .eql 45 8 44 true,oMg 47 46 44 true,oFg 48 5 1 47 false,oP 49 48 47 false,oHg 50 49 47 false,oCi 51 .eql 50 0 47 false,oG 52 (.pick (.t 47) (.c (.bool true)) (.t 51)) 44 true,oPa 53 44 52,oM 54 53,oMg 55 3 54 true,oCi 56 .geq 55 5 54 true,oMg 57 56 54 true,oFg 58 6 1 57 false,oP 59 58 57 false,oHg 60 59 57 false,oCi 61 .eql 60 0 57 false,oG 62 (.pick (.t 57) (.c (.bool true)) (.t 61)) 54 true,oPa 63 54 62,oM 64 63,oMg 65 3 64 true,oCi 66 .eql 65 5 64 true,oMg 67 66 64 true,oMg 68 3 67 false,oCi 69 .eql 68 6 67 false,oG 70 (.pick (.t 67) (.c (.bool true)) (.t 69)) 64 true,oMg 71 70 64 true,oFg 72 7 1 71 false,oP 73 72 71 false,oHg 74 73 71 false,oCi 75 .eql 74 0 71 false,oG 76 (.pick (.t 71) (.c (.bool true)) (.t 75)) 64 true,oPa 77 64 76,oM 2 77] .ret))),[(.tmp 2)],1,[]⟩
theorem cZ:bA Tryz.prog 182 iA:=okF Tryz.func182
def KO:C:=.seq (oR [oM 8 5,oM 9 1,oH 10 9,oB 11 .lss 8 10] (oD 11 .skip (.exit 0))) (.seq (.block 1 (oR [oA 15 10 2,oM 16 1,oM 17 5,oI 18 2 16 17,oF 19 0 18,oL 20 19,oC2 21 99 15 20,oM 14 21,oX 22 14 0,oX 23 14 1,oM 6 22,oM 7 23] (oR [oM 24 1,oM 25 5,oI 26 2 24 25,oF 27 0 26,oL 28 27,oM 29 7,oC2 30 183 28 29,oU 31 30,oM 32 31,oMg 33 5 32 false,oCi 34 .gtr 33 0 32 false,oMg 35 34 32 false,oMg 36 1 35 true,oMg 37 5 35 true,oIg 38 2 36 37 35 true,oFg 39 0 38 35 true,oP 40 39 35 true,oMg 41 1 35 true,oMg 42 5 35 true,oCi 43 .sub 42 1 35 true,oIg 44 2 41 43 35 true,oFg 45 0 44 35 true,oP 46 45 35 true,oBg 47 .leq 40 46 35 true,oPb 48 35 47 32 false,oPo 49 32 48] (oD 49 (oR [oZ 4 false] .ret) .skip)))) (.reg [oM 12 5,oC 13 .add 12 1,oM 5 13]))
def OL:qB:=⟨(oR [oQ 2 10 0,oZ 4 false] (.seq (oR [oJ 5 0] (.block 0 (.loop KO))) (oR [oZ 4 true] .ret))),[(.tmp 4)],2,[]⟩
theorem xZ:bA Tryz.prog 184 OL:=okF Tryz.func184
def tJ:C:=.seq (oR [oM 10 9,oM 11 2,oH 12 11,oB 13 .lss 10 12] (oD 13 .skip (.exit 0))) (.seq (.block 1 (oR [oA 16 1 4,oM 17 1,oM 18 2,oM 19 9,oI 20 8 18 19,oA 21 8 20,oM 22 3,oC4 23 151 16 17 21 22,oU 24 23] (oD 24 (oR [oZ 8 false] .ret) .skip))) (.reg [oM 14 9,oC 15 .add 14 1,oM 9 15]))
def qN:qB:=⟨(oR [oQ 4 1 0,oZ 8 false] (.seq (oR [oJ 9 0] (.block 0 (.loop tJ))) (oR [oZ 8 true] .ret))),[(.tmp 8)],4,[]⟩
theorem U4:bA Tryz.prog 185 qN:=okF Tryz.func185
def fD:C:=.seq (oR [oM 48 5,oF 49 7 2,oL 50 49,oH 51 50,oB 52 .lss 48 51] (oD 52 .skip (.exit 0))) (.seq (.block 1 (oR [oF 55 7 2,oL 56 55,oM 57 5,oI 58 2 56 57,oA 59 2 58,oF 60 7 3,oL 61 60,oM 62 5,oI 63 2 61 62,oA 64 2 63,oS 65 (.eqa true [0,1] (.t 59) (.t 64))] (oD 65 (oR [oZ 4 false] .ret) .skip))) (.reg [oM 53 5,oC 54 .add 53 1,oM 5 54]))
def KB:qB:=⟨(oR [oQ 2 8 0,oQ 3 8 1,oZ 4 false] (.seq (oR [oF 6 0 2,oL 7 6,oF 8 0 3,oL 9 8,oB 10 .neq 7 9,oM 11 10,oFg 12 1 2 11 false,oP 13 12 11 false,oFg 14 1 3 11 false,oP 15 14 11 false,oG 16 (.bin .neq true (.t 13) (.t 15)) 11 false,oPo 17 11 16,oM 18 17,oFg 19 2 2 18 false,oP 20 19 18 false,oFg 21 2 3 18 false,oP 22 21 18 false,oBg 23 .neq 20 22 18 false,oPo 24 18 23,oM 25 24,oFg 26 3 2 25 false,oP 27 26 25 false,oFg 28 3 3 25 false,oP 29 28 25 false,oBg 30 .neq 27 29 25 false,oPo 31 25 30,oM 32 31,oFg 33 4 2 32 false,oP 34 33 32 false,oFg 35 4 3 32 false,oP 36 35 32 false,oBg 37 .neq 34 36 32 false,oPo 38 32 37,oM 39 38,oFg 40 7 2 39 false,oP 41 40 39 false,oHg 42 41 39 false,oFg 43 7 3 39 false,oP 44 43 39 false,oHg 45 44 39 false,oBg 46 .neq 42 45 39 false,oPo 47 39 46] (oD 47 (oR [oZ 4 false] .ret) .skip)) (.seq (oR [oJ 5 0] (.block 0 (.loop fD))) (oR [oF 66 5 2,oL 67 66,oF 68 5 3,oL 69 68,oC2 70 213 67 69,oM 71 70,oFg 72 6 2 71 true,oP 73 72 71 true,oFg 74 6 3 71 true,oP 75 74 71 true,oCg 76 213 73 75 71 true,oPa 77 71 76,oM 4 77] .ret)))),[(.tmp 4)],2,[]⟩
theorem eS:bA Tryz.prog 189 KB:=okF Tryz.func189
def UK:qB:=⟨(oR [oQ 2 8 0,oQ 3 8 1,oZ 4 false] (oR [oA 5 8 2,oA 6 8 3,oC2 7 189 5 6,oM 4 7] .ret)),[(.tmp 4)],2,[]⟩
theorem qY:bA Tryz.prog 191 UK:=okF Tryz.func191
def dC:C:=oR [oB 9 .lss 8 7] (.seq (oD 9 .skip (.exit 0)) (.seq (.block 1 (oR [oM 10 8,oM 5 10] (oR [oM 11 1,oM 12 0,oM 13 5,oI 14 2 12 13,oA 15 2 14,oS 16 (.callv .any (.t 11) [(.t 15)])] (oD 16 (oR [oM 17 5,oM 4 17] .ret) .skip)))) (.reg [oC 18 .add 8 1,oM 8 18])))
def ZC:qB:=⟨(oR [oJ 4 0] (.seq (oR [oM 6 0,oH 7 6,oJ 8 0] (.block 0 (.loop dC))) (oR [oJ 4 (-1)] .ret))),[(.tmp 4)],2,[]⟩
theorem zK:bA Tryz.prog 192 ZC:=okF Tryz.func192
def MF:qB:=⟨(oR [oQ 2 2 0,oZ 3 false] (oR [oF 4 0 2,oL 5 4,oL 6 1,oB 7 .eql 5 6,oM 3 7] .ret)),[(.tmp 3)],2,[]⟩
theorem MQ:bA Tryz.prog 193 MF:=okF Tryz.func193
def pI:qB:=⟨(oR [oQ 5 1 0,oQ 7 8 2,oQ 8 1 3,oJ 10 0] (.seq (oR [oA 13 1 5,oM 14 1,oC2 15 214 13 14,oM 11 15] (oR [oM 16 11,oC 17 .neq 16 0] (oD 17 (oR [oM 18 11,oM 10 18] .ret) .skip))) (.seq (oR [oA 19 1 8,oM 20 4,oC2 21 214 19 20,oM 12 21] (oR [oM 22 12,oC 23 .neq 22 0] (oD 23 (oR [oM 24 12,oM 10 24] .ret) .skip))) (.seq (oR [oA 25 1 5,oM 26 1,oA 27 8 7,oS 28 (.call .any 215 [(.t 25),(.t 26),(.t 27)]),oU 29 28] (oD 29 (oR [oJ 10 1] .ret) .skip)) (oR [oJ 10 0] .ret))))),[(.tmp 10)],5,[]⟩
theorem WU:bA Tryz.prog 194 pI:=okF Tryz.func194
def LA:qB:=⟨(oR [oQ 6 8 2,oY 8 zza,oZ 9 false] (oR [oM 16 0,oK 17 16,oF 18 0 17,oF 19 0 18,oLr 20 0 1 19,oM 21 1,oI 22 10 20 21,oS 23 (.load .imm true 10 (.t 22)),oM 24 0,oK 25 24,oF 26 1 25,oF 27 0 26,oLr 28 0 1 27,oM 29 3,oI 30 10 28 29,oS 31 (.load .imm true 10 (.t 30)),oY 10 zze,oY 11 zze,oN (.store (.root 10) true 10 (.t 10) (.t 23)),oN (.store (.root 11) true 10 (.t 11) (.t 31))] (.seq (oR [oF 32 0 10,oL 33 32,oF 34 0 11,oL 35 34,oB 36 .neq 33 35] (oD 36 (oR [oM 37 0,oS 38 (.callr .any 216 [(.t 37)]),oX 39 38 0,oX 40 38 1,oV 8 8 39,oM 9 40] .ret) .skip)) (oR [oF 41 0 6,oL 42 41,oF 43 1 6,oL 44 43,oF 45 2 6,oL 46 45,oF 47 3 6,oL 48 47,oF 49 4 6,oL 50 49,oS 51 (.build zza [(0,(1,(.t 42))),(1,(1,(.t 44))),(2,(1,(.t 46))),(3,(1,(.t 48))),(4,(1,(.t 50)))]),oY 12 zza,oV 8 12 51] (oR [oZ 13 true] (.seq (oR [oF 52 0 10,oL 53 52] (.block 0 (oR [oC 55 .eql 53 2,oM 54 55] (oD 54 (.reg [oF 56 2 6,oL 57 56,oF 58 2 11,oL 59 58,oB 60 .geq 57 59,oM 61 60,oFg 62 2 6 61 true,oP 63 62 61 true,oFg 64 3 11 61 true,oP 65 64 61 true,oBg 66 .leq 63 65 61 true,oPa 67 61 66,oM 13 67]) (oR [oC 69 .eql 53 3,oM 68 69] (oD 68 (.reg [oF 70 3 6,oL 71 70,oS 72 (.len true (.t 71)),oF 73 4 11,oL 74 73,oB 75 .leq 72 74,oM 13 75]) (oR [oC 77 .eql 53 4,oM 76 77] (oD 76 (oR [oA 79 10 11,oF 80 4 6,oL 81 80,oC2 82 154 79 81,oM 78 82,oX 83 78 0,oX 84 78 1,oM 14 83,oM 15 84] (.reg [oM 85 15,oM 86 85,oFg 87 9 11 86 false,oP 88 87 86 false,oPo 89 86 88,oM 13 89])) (.seq (oR [oC 91 .eql 53 7,oM 90 91] (oD 90 .skip (.reg [oC 92 .eql 53 8,oM 90 92]))) (oD 90 (.reg [oF 93 6 6,oL 94 93,oH 95 94,oF 96 4 11,oL 97 96,oB 98 .leq 95 97,oM 13 98]) .skip)))))))))) (.seq (oR [oM 99 13,oU 100 99] (oD 100 (oR [oM 101 0,oS 102 (.callr .any 216 [(.t 101)]),oX 103 102 0,oX 104 102 1,oV 8 8 103,oM 9 104] .ret) .skip)) (.seq (oR [oF 105 0 10,oL 106 105] (.block 1 (oR [oC 108 .eql 106 5,oM 107 108] (oD 107 (oR [oM 109 0,oA 110 10 10,oA 111 8 6,oA 112 10 11,oS 113 (.callr .any 217 [(.t 109),(.t 110),(.t 111),(.t 112)]),oX 114 113 0,oX 115 113 1,oV 8 8 114,oM 9 115] .ret) (oR [oC 117 .eql 106 6,oM 116 117] (oD 116 (oR [oM 118 0,oA 119 10 10,oA 120 8 6,oA 121 10 11,oS 122 (.callr .any 218 [(.t 118),(.t 119),(.t 120),(.t 121)]),oX 123 122 0,oX 124 122 1,oV 8 8 123,oM 9 124] .ret) (oR [oC 126 .eql 106 8,oM 125 126] (oD 125 (oR [oM 128 0,oF 129 7 10,oL 130 129,oF 131 5 6,oL 132 131,oF 133 7 11,oL 134 133,oS 135 (.callr .any 219 [(.t 128),(.t 130),(.t 132),(.t 134)]),oM 127 135,oX 136 127 0,oX 137 127 1,oF 138 5 12,oW 138 136,oM 13 137] (oR [oM 139 13,oU 140 139] (oD 140 (oR [oS 141 (.build zza []),oV 8 8 141,oZ 9 false] .ret) .skip))) .skip)))))))) (.seq (oR [oM 143 0,oF 144 8 10,oL 145 144,oF 146 6 6,oL 147 146,oF 148 8 11,oL 149 148,oS 150 (.callr .any 219 [(.t 143),(.t 145),(.t 147),(.t 149)]),oM 142 150,oX 151 142 0,oX 152 142 1,oF 153 6 12,oW 153 151,oM 13 152] (oR [oM 154 13,oU 155 154] (oD 155 (oR [oS 156 (.build zza []),oV 8 8 156,oZ 9 false] .ret) .skip))) (oR [oA 157 8 12,oV 8 8 157,oZ 9 true] .ret)))))))))),[(.cell 8 true 8),(.tmp 9)],4,[3000000,77,205,227,245,271,301]⟩
theorem ZP:bA Tryz.prog 195 LA:=okF Tryz.func195
def BB:C:=oR [oB 14 .lss 13 12] (.seq (oD 14 .skip (.exit 0)) (.seq (.block 1 (oR [oM 15 13,oM 5 15] (oR [oM 16 0,oM 17 5,oI 18 2 16 17,oA 19 2 18,oM 20 1,oM 21 5,oI 22 2 20 21,oA 23 2 22,oS 24 (.eqa true [0,1] (.t 19) (.t 23))] (oD 24 (oR [oZ 4 false] .ret) .skip)))) (.reg [oC 25 .add 13 1,oM 13 25])))
def bD:qB:=⟨(oR [oZ 4 false] (.seq (oR [oM 6 0,oH 7 6,oM 8 1,oH 9 8,oB 10 .neq 7 9] (oD 10 (oR [oZ 4 false] .ret) .skip)) (.seq (oR [oM 11 0,oH 12 11,oJ 13 0] (.block 0 (.loop BB))) (oR [oZ 4 true] .ret)))),[(.tmp 4)],2,[]⟩
theorem KN:bA Tryz.prog 196 bD:=okF Tryz.func196
def PB:C:=oR [oB 18 .lss 17 16] (.seq (oD 18 .skip (.exit 0)) (.seq (.block 1 (oR [oM 19 17,oI 20 8 15 17,oA 21 8 20,oY 8 zza,oM 7 19,oV 8 8 21] (oR [oM 22 1,oM 23 7,oI 24 8 22 23,oA 25 8 24,oY 9 zza,oV 8 9 25] (oR [oM 26 2,oA 27 8 8,oA 28 8 9,oS 29 (.callv .any (.t 26) [(.t 27),(.t 28)]),oU 30 29] (oD 30 (oR [oZ 6 false] .ret) .skip))))) (.reg [oC 31 .add 17 1,oM 17 31])))
def eC:qB:=⟨(oR [oZ 6 false] (.seq (oR [oM 10 0,oH 11 10,oM 12 1,oH 13 12,oB 14 .neq 11 13] (oD 14 (oR [oZ 6 false] .ret) .skip)) (.seq (oR [oM 15 0,oH 16 15,oJ 17 0] (.block 0 (.loop PB))) (oR [oZ 6 true] .ret)))),[(.tmp 6)],3,[]⟩
theorem rL:bA Tryz.prog 197 eC:=okF Tryz.func197
def cD:C:=oR [oB 41 .lss 40 39] (.seq (oD 41 .skip (.exit 2)) (.seq (.block 3 (oR [oI 42 1 38 40,oL 43 42,oM 7 43] (oR [oM 44 7,oC 45 .lss 44 0,oM 46 45,oMg 47 7 46 false,oFg 48 0 1 46 false,oP 49 48 46 false,oHg 50 49 46 false,oBg 51 .geq 47 50 46 false,oPo 52 46 51] (oD 52 (oR [oJ 2 4] .ret) .skip)))) (.reg [oC 53 .add 40 1,oM 40 53])))
def UB:C:=oR [oB 17 .lss 16 15] (.seq (oD 17 .skip (.exit 0)) (.seq (.block 1 (oR [oI 18 10 14 16,oA 19 10 18,oY 5 zze,oV 10 5 19] (.seq (oR [oA 20 10 5,oC1 21 221 20,oU 22 21,oM 23 22,oFg 24 1 5 23 false,oP 25 24 23 false,oG 26 (.bin .neq false (.t 25) (.c (.str (ByteArray.mk #[])))) 23 false,oMg 27 26 23 false,oMg 28 3 27 true,oFg 29 1 5 27 true,oP 30 29 27 true,oG 31 (.mget false .none (.bool false) (.t 28) (.t 30)) 27 true,oPb 32 27 31 23 false,oPo 33 23 32] (oD 33 (oR [oJ 2 1] .ret) .skip)) (oR [oM 34 3,oF 35 1 5,oL 36 35,oN (.mset .none (.t 34) (.t 36) (.c (.bool true)))] (.seq (oR [oA 37 10 5,oC1 38 222 37,oH 39 38,oJ 40 0] (.block 2 (.loop cD))) (oR [oF 54 0 5,oL 55 54,oC 56 .eql 55 8,oM 57 56,oFg 58 0 1 57 true,oP 59 58 57 true,oFg 60 7 5 57 true,oP 61 60 57 true,oIg 62 10 59 61 57 true,oFg 63 0 62 57 true,oP 64 63 57 true,oCi 65 .lss 64 1 57 true,oMg 66 65 57 true,oFg 67 0 1 66 false,oP 68 67 66 false,oFg 69 7 5 66 false,oP 70 69 66 false,oIg 71 10 68 70 66 false,oFg 72 0 71 66 false,oP 73 72 66 false,oCi 74 .gtr 73 4 66 false,oG 75 (.pick (.t 66) (.c (.bool true)) (.t 74)) 57 true,oPa 76 57 75] (oD 76 (oR [oJ 2 1] .ret) .skip))))))) (.reg [oC 77 .add 16 1,oM 16 77])))
def CG:qB:=⟨(oR [oQ 1 1 0,oJ 2 0] (.seq (oR [oF 8 0 1,oL 9 8,oH 10 9,oC 11 .gtr 10 32] (oD 11 (oR [oJ 2 3] .ret) .skip)) (oR [oS 12 (.mkm),oM 3 12] (.seq (oR [oF 13 0 1,oL 14 13,oH 15 14,oJ 16 0] (.block 0 (.loop UB))) (oR [oJ 2 0] .ret))))),[(.tmp 2)],1,[]⟩
theorem jW:bA Tryz.prog 203 CG:=okF Tryz.func203
def HC:C:=oR [oB 27 .lss 26 25] (.seq (oD 27 .skip (.exit 2)) (.seq (.block 3 (oR [oI 28 13 24 26,oA 29 13 28,oY 9 zzh,oV 13 9 29] (oR [oF 30 4 9,oL 31 30,oM 32 31,oLg 33 1 1 32 true,oFg 34 2 9 32 true,oP 35 34 32 true,oFg 36 5 9 32 true,oLg 37 8 36 32 true,oG 38 (.call .any 215 [(.t 33),(.t 35),(.t 37)]) 32 true,oUg 39 38 32 true,oPa 40 32 39] (oD 40 (oR [oM 41 6,oF 42 0 9,oL 43 42,oM 2 41,oM 3 43,oJ 4 1] .ret) .skip)))) (.reg [oC 44 .add 26 1,oM 26 44])))
def UH:C:=oR [oB 19 .lss 18 17] (.seq (oD 19 .skip (.exit 0)) (.seq (.block 1 (oR [oM 20 18,oI 21 10 16 18,oA 22 10 21,oY 7 zze,oM 6 20,oV 10 7 22] (oR [oF 23 6 7,oL 24 23,oH 25 24,oJ 26 0] (.block 2 (.loop HC))))) (.reg [oC 45 .add 18 1,oM 18 45])))
def AF:qB:=⟨(oR [oQ 1 1 0,oJ 2 0,oJ 3 0,oJ 4 0] (.seq (oR [oA 10 1 1,oC1 11 203 10,oM 5 11] (oR [oM 12 5,oC 13 .neq 12 0] (oD 13 (oR [oM 14 5,oJ 2 0,oJ 3 0,oM 4 14] .ret) .skip))) (.seq (oR [oF 15 0 1,oL 16 15,oH 17 16,oJ 18 0] (.block 0 (.loop UH))) (oR [oJ 2 0,oJ 3 0,oJ 4 0] .ret)))),[(.tmp 2),(.tmp 3),(.tmp 4)],1,[]⟩
theorem mT:bA Tryz.prog 204 AF:=okF Tryz.func204
def TI:C:=oR [oB 55 .lss 54 53] (.seq (oD 55 .skip (.exit 3)) (.seq (.block 4 (oR [oI 56 13 52 54,oA 57 13 56,oY 10 zzh,oV 13 10 57] (.reg [oM 58 8,oM 59 1,oF 60 2 10,oL 61 60,oI 62 1 59 61,oL 63 62,oB 64 .add 58 63,oM 8 64]))) (.reg [oC 65 .add 54 1,oM 54 65])))
def UI:C:=oR [oB 36 .lss 35 34] (.seq (oD 36 .skip (.exit 1)) (.seq (.block 2 (oR [oI 37 13 33 35,oA 38 13 37,oY 7 zzh,oV 13 7 38] (.reg [oM 39 5,oM 40 1,oF 41 2 7,oL 42 41,oI 43 1 40 42,oL 44 43,oB 45 .mul 39 44,oS 46 (.mm false (.c (.int .i64 2)) (.t 45)),oM 5 46]))) (.reg [oC 47 .add 35 1,oM 35 47])))
def mA:qB:=⟨(oR [oQ 2 10 0,oJ 4 0] (.seq (oR [oF 11 0 2,oL 12 11] (.block 0 (oR [oC 14 .eql 12 2,oM 13 14] (oD 13 (oR [oF 15 2 2,oL 16 15,oF 17 3 2,oL 18 17,oB 19 .eql 16 18] (oD 19 (oR [oJ 4 1] .ret) .skip)) (oR [oC 21 .eql 12 3,oM 20 21] (oD 20 (oR [oF 22 4 2,oL 23 22,oC 24 .eql 23 0] (oD 24 (oR [oJ 4 1] .ret) .skip)) (oR [oC 26 .eql 12 4,oM 25 26] (oD 25 (oR [oF 27 5 2,oL 28 27,oH 29 28,oM 4 29] .ret) (oR [oC 31 .eql 12 5,oM 30 31] (oD 30 (oR [oJ 5 1] (.seq (oR [oF 32 6 2,oL 33 32,oH 34 33,oJ 35 0] (.block 1 (.loop UI))) (oR [oM 48 5,oM 4 48] .ret))) (oR [oC 50 .eql 12 6,oM 49 50] (oD 49 (oR [oJ 8 0] (.seq (oR [oF 51 6 2,oL 52 51,oH 53 52,oJ 54 0] (.block 3 (.loop TI))) (oR [oM 66 8,oM 4 66] .ret))) (oR [oC 68 .eql 12 7,oM 67 68] (oD 67 (oR [oF 69 4 2,oL 70 69,oC 71 .eql 70 0,oM 72 71,oMg 73 1 72 false,oFg 74 8 2 72 false,oP 75 74 72 false,oIg 76 1 73 75 72 false,oP 77 76 72 false,oCi 78 .eql 77 0 72 false,oPo 79 72 78] (oD 79 (oR [oJ 4 1] .ret) .skip)) (oR [oC 81 .eql 12 8,oM 80 81] (oD 80 (oR [oF 82 4 2,oL 83 82,oC 84 .eql 83 0,oM 85 84,oMg 86 1 85 false,oFg 87 8 2 85 false,oP 88 87 85 false,oIg 89 1 86 88 85 false,oP 90 89 85 false,oCi 91 .eql 90 0 85 false,oPo 92 85 91,oM 93 92,oMg 94 1 93 false,oFg 95 7 2 93 false,oP 96 95 93 false,oIg 97 1 94 96 93 false,oP 98 97 93 false,oCi 99 .eql 98 0 93 false,oPo 100 93 99] (oD 100 (oR [oJ 4 1] .ret) .skip)) (oR [oC 102 .eql 12 9,oM 101 102] (oD 101 (oR [oM 103 1,oF 104 8 2,oL 105 104,oI 106 1 103 105,oL 107 106,oS 108 (.bin .add false (.c (.int .i64 1)) (.t 107)),oM 4 108] .ret) .skip)))))))))))))))))) (oR [oJ 4 2] .ret))),[(.tmp 4)],2,[]⟩
theorem nU:bA Tryz.prog 205 mA:=okF Tryz.func205
def GC:C:=.seq (oR [oM 27 8,oM 28 7,oH 29 28,oB 30 .lss 27 29] (oD 30 .skip (.exit 2))) (.seq (.block 3 (oR [oM 33 7,oM 34 8,oI 35 13 33 34,oF 36 4 35,oL 37 36,oM 38 37,oLg 39 1 1 38 true,oMg 40 7 38 true,oMg 41 8 38 true,oIg 42 13 40 41 38 true,oFg 43 2 42 38 true,oP 44 43 38 true,oMg 45 7 38 true,oMg 46 8 38 true,oIg 47 13 45 46 38 true,oFg 48 5 47 38 true,oLg 49 8 48 38 true,oG 50 (.call .any 121 [(.t 39),(.t 44),(.t 49)]) 38 true,oUg 51 50 38 true,oPa 52 38 51] (oD 52 (oR [oM 53 6,oM 54 7,oM 55 8,oI 56 13 54 55,oF 57 0 56,oL 58 57,oM 2 53,oM 3 58,oJ 4 1] .ret) .skip))) (.reg [oM 31 8,oC 32 .add 31 1,oM 8 32]))
def TH:C:=.seq (oR [oM 14 6,oF 15 0 1,oL 16 15,oH 17 16,oB 18 .lss 14 17] (oD 18 .skip (.exit 0))) (.seq (.block 1 (oR [oF 21 0 1,oL 22 21,oM 23 6,oI 24 10 22 23,oF 25 6 24,oL 26 25,oM 7 26] (oR [oJ 8 0] (.block 2 (.loop GC))))) (.reg [oM 19 6,oC 20 .add 19 1,oM 6 20]))
def OF:qB:=⟨(oR [oQ 1 1 0,oJ 2 0,oJ 3 0,oJ 4 0] (.seq (oR [oA 9 1 1,oC1 10 150 9,oM 5 10] (oR [oM 11 5,oC 12 .neq 11 0] (oD 12 (oR [oM 13 5,oJ 2 0,oJ 3 0,oM 4 13] .ret) .skip))) (.seq (oR [oJ 6 0] (.block 0 (.loop TH))) (oR [oJ 2 0,oJ 3 0,oJ 4 0] .ret)))),[(.tmp 2),(.tmp 3),(.tmp 4)],1,[]⟩
theorem jT:bA Tryz.prog 206 OF:=okF Tryz.func206
def iK:C:=.seq (oR [oM 53 8,oF 54 6 2,oL 55 54,oH 56 55,oB 57 .lss 53 56] (oD 57 .skip (.exit 3))) (.seq (.block 4 (.reg [oM 60 7,oM 61 1,oF 62 6 2,oL 63 62,oM 64 8,oI 65 13 63 64,oF 66 2 65,oL 67 66,oI 68 1 61 67,oL 69 68,oB 70 .add 60 69,oS 71 (.mm false (.c (.int .i64 2)) (.t 70)),oM 7 71])) (.reg [oM 58 8,oC 59 .add 58 1,oM 8 59]))
def pK:C:=.seq (oR [oM 31 6,oF 32 6 2,oL 33 32,oH 34 33,oB 35 .lss 31 34] (oD 35 .skip (.exit 1))) (.seq (.block 2 (.reg [oM 38 5,oM 39 1,oF 40 6 2,oL 41 40,oM 42 6,oI 43 13 41 42,oF 44 2 43,oL 45 44,oI 46 1 39 45,oL 47 46,oB 48 .mul 38 47,oS 49 (.mm false (.c (.int .i64 2)) (.t 48)),oM 5 49])) (.reg [oM 36 6,oC 37 .add 36 1,oM 6 37]))
def SA:qB:=⟨(oR [oQ 2 10 0,oJ 4 0] (.seq (oR [oF 9 0 2,oL 10 9] (.block 0 (oR [oC 12 .eql 10 2,oM 11 12] (oD 11 (oR [oF 13 2 2,oL 14 13,oF 15 3 2,oL 16 15,oB 17 .eql 14 16] (oD 17 (oR [oJ 4 1] .ret) .skip)) (oR [oC 19 .eql 10 3,oM 18 19] (oD 18 (oR [oF 20 4 2,oL 21 20,oC 22 .eql 21 0] (oD 22 (oR [oJ 4 1] .ret) .skip)) (oR [oC 24 .eql 10 4,oM 23 24] (oD 23 (oR [oF 25 5 2,oL 26 25,oH 27 26,oS 28 (.mm false (.c (.int .i64 2)) (.t 27)),oM 4 28] .ret) (oR [oC 30 .eql 10 5,oM 29 30] (oD 29 (oR [oJ 5 1] (.seq (oR [oJ 6 0] (.block 1 (.loop pK))) (oR [oM 50 5,oM 4 50] .ret))) (oR [oC 52 .eql 10 6,oM 51 52] (oD 51 (oR [oJ 7 0] (.seq (oR [oJ 8 0] (.block 3 (.loop iK))) (oR [oM 72 7,oM 4 72] .ret))) (.seq (oR [oC 74 .eql 10 7,oM 73 74] (oD 73 .skip (.reg [oC 75 .eql 10 8,oM 73 75]))) (oD 73 (oR [oF 76 4 2,oL 77 76,oC 78 .eql 77 0,oM 79 78,oMg 80 1 79 false,oFg 81 8 2 79 false,oP 82 81 79 false,oIg 83 1 80 82 79 false,oP 84 83 79 false,oCi 85 .eql 84 0 79 false,oPo 86 79 85] (oD 86 (oR [oJ 4 1] .ret) .skip)) (oR [oC 88 .eql 10 9,oM 87 88] (oD 87 (oR [oM 89 1,oF 90 8 2,oL 91 90,oI 92 1 89 91,oL 93 92,oS 94 (.bin .add false (.c (.int .i64 1)) (.t 93)),oS 95 (.mm false (.c (.int .i64 2)) (.t 94)),oM 4 95] .ret) .skip)))))))))))))))) (oR [oJ 4 2] .ret))),[(.tmp 4)],2,[]⟩
theorem pY:bA Tryz.prog 207 SA:=okF Tryz.func207
def zE:C:=.seq (oR [oM 97 6,oF 98 6 2,oL 99 98,oH 100 99,oB 101 .lss 97 100] (oD 101 .skip (.exit 2))) (.seq (.block 3 (oR [oF 104 6 2,oL 105 104,oM 106 6,oI 107 13 105 106,oA 108 13 107,oF 109 6 3,oL 110 109,oM 111 6,oI 112 13 110 111,oA 113 13 112,oC2 114 223 108 113,oU 115 114] (oD 115 (oR [oZ 4 false] .ret) .skip))) (.reg [oM 102 6,oC 103 .add 102 1,oM 6 103]))
def QD:C:=.seq (oR [oM 79 5,oF 80 5 2,oL 81 80,oH 82 81,oB 83 .lss 79 82] (oD 83 .skip (.exit 0))) (.seq (.block 1 (oR [oF 86 5 2,oL 87 86,oM 88 5,oI 89 2 87 88,oA 90 2 89,oF 91 5 3,oL 92 91,oM 93 5,oI 94 2 92 93,oA 95 2 94,oS 96 (.eqa true [0,1] (.t 90) (.t 95))] (oD 96 (oR [oZ 4 false] .ret) .skip))) (.reg [oM 84 5,oC 85 .add 84 1,oM 5 85]))
def pB:qB:=⟨(oR [oQ 2 10 0,oQ 3 10 1,oZ 4 false] (.seq (oR [oF 7 0 2,oL 8 7,oF 9 0 3,oL 10 9,oB 11 .neq 8 10,oM 12 11,oFg 13 1 2 12 false,oP 14 13 12 false,oFg 15 1 3 12 false,oP 16 15 12 false,oBg 17 .neq 14 16 12 false,oPo 18 12 17,oM 19 18,oFg 20 2 2 19 false,oP 21 20 19 false,oFg 22 2 3 19 false,oP 23 22 19 false,oBg 24 .neq 21 23 19 false,oPo 25 19 24,oM 26 25,oFg 27 3 2 26 false,oP 28 27 26 false,oFg 29 3 3 26 false,oP 30 29 26 false,oBg 31 .neq 28 30 26 false,oPo 32 26 31,oM 33 32,oFg 34 4 2 33 false,oP 35 34 33 false,oFg 36 4 3 33 false,oP 37 36 33 false,oBg 38 .neq 35 37 33 false,oPo 39 33 38,oM 40 39,oFg 41 7 2 40 false,oP 42 41 40 false,oFg 43 7 3 40 false,oP 44 43 40 false,oBg 45 .neq 42 44 40 false,oPo 46 40 45,oM 47 46,oFg 48 8 2 47 false,oP 49 48 47 false,oFg 50 8 3 47 false,oP 51 50 47 false,oBg 52 .neq 49 51 47 false,oPo 53 47 52,oM 54 53,oFg 55 9 2 54 false,oP 56 55 54 false,oFg 57 9 3 54 false,oP 58 57 54 false,oG 59 (.bin .neq true (.t 56) (.t 58)) 54 false,oPo 60 54 59,oM 61 60,oFg 62 5 2 61 false,oP 63 62 61 false,oHg 64 63 61 false,oFg 65 5 3 61 false,oP 66 65 61 false,oHg 67 66 61 false,oBg 68 .neq 64 67 61 false,oPo 69 61 68,oM 70 69,oFg 71 6 2 70 false,oP 72 71 70 false,oHg 73 72 70 false,oFg 74 6 3 70 false,oP 75 74 70 false,oHg 76 75 70 false,oBg 77 .neq 73 76 70 false,oPo 78 70 77] (oD 78 (oR [oZ 4 false] .ret) .skip)) (.seq (oR [oJ 5 0] (.block 0 (.loop QD))) (.seq (oR [oJ 6 0] (.block 2 (.loop zE))) (oR [oZ 4 true] .ret))))),[(.tmp 4)],2,[]⟩
theorem gT:bA Tryz.prog 208 pB:=okF Tryz.func208
def JH:qB:=⟨(oR [oQ 1 10 0,oY 2 zze] (.seq (oR [oF 3 0 1,oL 4 3] (.block 0 (oR [oC 6 .eql 4 1,oM 5 6] (oD 5 (oR [oF 7 0 1,oL 8 7,oS 9 (.build zze [(0,(1,(.t 8)))]),oV 10 2 9] .ret) (oR [oC 11 .eql 4 2,oM 10 11] (oD 10 (oR [oF 12 0 1,oL 13 12,oF 14 2 1,oL 15 14,oF 16 3 1,oL 17 16,oS 18 (.build zze [(0,(1,(.t 13))),(2,(1,(.t 15))),(3,(1,(.t 17)))]),oV 10 2 18] .ret) (oR [oC 20 .eql 4 3,oM 19 20] (oD 19 (oR [oF 21 0 1,oL 22 21,oF 23 4 1,oL 24 23,oS 25 (.build zze [(0,(1,(.t 22))),(4,(1,(.t 24)))]),oV 10 2 25] .ret) (oR [oC 27 .eql 4 4,oM 26 27] (oD 26 (oR [oF 28 0 1,oL 29 28,oF 30 1 1,oL 31 30,oF 32 5 1,oL 33 32,oF 34 9 1,oL 35 34,oS 36 (.build zze [(0,(1,(.t 29))),(1,(1,(.t 31))),(5,(1,(.t 33))),(9,(1,(.t 35)))]),oV 10 2 36] .ret) (oR [oC 38 .eql 4 5,oM 37 38] (oD 37 (oR [oF 39 0 1,oL 40 39,oF 41 1 1,oL 42 41,oF 43 6 1,oL 44 43,oS 45 (.build zze [(0,(1,(.t 40))),(1,(1,(.t 42))),(6,(1,(.t 44)))]),oV 10 2 45] .ret) (oR [oC 47 .eql 4 6,oM 46 47] (oD 46 (oR [oF 48 0 1,oL 49 48,oF 50 1 1,oL 51 50,oF 52 6 1,oL 53 52,oF 54 9 1,oL 55 54,oS 56 (.build zze [(0,(1,(.t 49))),(1,(1,(.t 51))),(6,(1,(.t 53))),(9,(1,(.t 55)))]),oV 10 2 56] .ret) (oR [oC 58 .eql 4 7,oM 57 58] (oD 57 (oR [oF 59 0 1,oL 60 59,oF 61 4 1,oL 62 61,oF 63 8 1,oL 64 63,oS 65 (.build zze [(0,(1,(.t 60))),(4,(1,(.t 62))),(8,(1,(.t 64)))]),oV 10 2 65] .ret) (oR [oC 67 .eql 4 8,oM 66 67] (oD 66 (oR [oF 68 0 1,oL 69 68,oF 70 4 1,oL 71 70,oF 72 7 1,oL 73 72,oF 74 8 1,oL 75 74,oS 76 (.build zze [(0,(1,(.t 69))),(4,(1,(.t 71))),(7,(1,(.t 73))),(8,(1,(.t 75)))]),oV 10 2 76] .ret) .skip)))))))))))))))))) (oR [oF 77 0 1,oL 78 77,oF 79 8 1,oL 80 79,oS 81 (.build zze [(0,(1,(.t 78))),(8,(1,(.t 80)))]),oV 10 2 81] .ret))),[(.cell 2 true 10)],1,[]⟩
theorem MX:bA Tryz.prog 209 JH:=okF Tryz.func209
def oE:C:=.seq (oR [oM 17 3,oM 18 0,oS 19 (.len true (.t 18)),oB 20 .lss 17 19] (oD 20 .skip (.exit 0))) (.seq (.block 1 (oR [oM 23 0,oM 24 3,oS 25 (.index (.t 23) (.t 24)),oC1 26 224 25,oU 27 26,oM 28 27,oMg 29 0 28 true,oMg 30 3 28 true,oG 31 (.index (.t 29) (.t 30)) 28 true,oG 32 (.call .any 225 [(.t 31)]) 28 true,oUg 33 32 28 true,oPa 34 28 33] (oD 34 (oR [oZ 2 false] .ret) .skip))) (.reg [oM 21 3,oC 22 .add 21 1,oM 3 22]))
def RE:qB:=⟨(oR [oZ 2 false] (.seq (oR [oM 4 0,oS 5 (.bin .eql false (.t 4) (.c (.str (ByteArray.mk #[])))),oM 6 5,oMg 7 0 6 false,oG 8 (.len true (.t 7)) 6 false,oCi 9 .gtr 8 24 6 false,oPo 10 6 9,oM 11 10,oMg 12 0 11 false,oG 13 (.index (.t 12) (.c (.int .i64 0))) 11 false,oG 14 (.call .any 224 [(.t 13)]) 11 false,oUg 15 14 11 false,oPo 16 11 15] (oD 16 (oR [oZ 2 false] .ret) .skip)) (.seq (oR [oJ 3 0] (.block 0 (.loop oE))) (oR [oZ 2 true] .ret)))),[(.tmp 2)],1,[]⟩
theorem qW:bA Tryz.prog 210 RE:=okF Tryz.func210
def BF:C:=.seq (oR [oM 29 5,oM 30 4,oB 31 .lss 29 30] (oD 31 .skip (.exit 2))) (.seq (.block 3 (oR [oM 34 0,oM 35 5,oI 36 2 34 35,oF 37 1 36,oL 38 37,oM 39 0,oM 40 4,oI 41 2 39 40,oF 42 1 41,oL 43 42,oB 44 .eql 38 43] (oD 44 (oR [oZ 2 false] .ret) .skip))) (.reg [oM 32 5,oC 33 .add 32 1,oM 5 33]))
def IE:C:=.seq (oR [oM 6 4,oM 7 0,oH 8 7,oB 9 .lss 6 8] (oD 9 .skip (.exit 0))) (.seq (.block 1 (.seq (oR [oM 12 3,oM 13 0,oM 14 4,oI 15 2 13 14,oF 16 0 15,oL 17 16,oC2 18 226 12 17,oU 19 18,oM 20 19,oMg 21 0 20 false,oMg 22 4 20 false,oIg 23 2 21 22 20 false,oFg 24 1 23 20 false,oP 25 24 20 false,oG 26 (.call .any 210 [(.t 25)]) 20 false,oUg 27 26 20 false,oPo 28 20 27] (oD 28 (oR [oZ 2 false] .ret) .skip)) (.seq (oR [oJ 5 0] (.block 2 (.loop BF))) (.reg [oM 45 0,oM 46 4,oI 47 2 45 46,oF 48 0 47,oL 49 48,oM 3 49])))) (.reg [oM 10 4,oC 11 .add 10 1,oM 4 11]))
def jI:qB:=⟨(oR [oZ 2 false] (oR [oJ 3 0] (.seq (oR [oJ 4 0] (.block 0 (.loop IE))) (oR [oM 50 0,oH 51 50,oC 52 .geq 51 1,oM 53 52,oMg 54 0 53 true,oHg 55 54 53 true,oCi 56 .leq 55 16 53 true,oPa 57 53 56,oM 2 57] .ret)))),[(.tmp 2)],1,[]⟩
theorem IU:bA Tryz.prog 211 jI:=okF Tryz.func211
def UE:C:=.seq (oR [oM 60 8,oM 61 6,oB 62 .lss 60 61] (oD 62 .skip (.exit 2))) (.seq (.block 3 (oR [oM 65 0,oM 66 8,oI 67 13 65 66,oF 68 1 67,oL 69 68,oF 70 1 7,oL 71 70,oB 72 .eql 69 71] (oD 72 (oR [oZ 4 false] .ret) .skip))) (.reg [oM 63 8,oC 64 .add 63 1,oM 8 64]))
def FD:C:=.seq (oR [oM 9 6,oM 10 0,oH 11 10,oB 12 .lss 9 11] (oD 12 .skip (.exit 0))) (.seq (.block 1 (oR [oM 15 0,oM 16 6,oI 17 13 15 16,oA 18 13 17,oY 7 zzh,oV 13 7 18] (.seq (oR [oM 19 5,oF 20 0 7,oL 21 20,oC2 22 226 19 21,oU 23 22,oM 24 23,oFg 25 1 7 24 false,oP 26 25 24 false,oG 27 (.call .any 210 [(.t 26)]) 24 false,oUg 28 27 24 false,oPo 29 24 28,oM 30 29,oFg 31 3 7 30 false,oP 32 31 30 false,oMg 33 32 30 false,oFg 34 4 7 33 true,oP 35 34 33 true,oPb 36 33 35 30 false,oPo 37 30 36,oM 38 37,oMg 39 1 38 false,oUg 40 39 38 false,oMg 41 40 38 false,oFg 42 3 7 41 true,oP 43 42 41 true,oMg 44 43 41 true,oFg 45 4 7 44 false,oP 46 45 44 false,oG 47 (.pick (.t 44) (.c (.bool true)) (.t 46)) 41 true,oPb 48 41 47 38 false,oPo 49 38 48] (oD 49 (oR [oZ 4 false] .ret) .skip)) (.seq (oR [oF 50 4 7,oL 51 50,oU 52 51,oM 53 52,oFg 54 5 7 53 true,oLg 55 8 54 53 true,oG 56 (.build zza []) 53 true,oCg 57 189 55 56 53 true,oUg 58 57 53 true,oPa 59 53 58] (oD 59 (oR [oZ 4 false] .ret) .skip)) (.seq (oR [oJ 8 0] (.block 2 (.loop UE))) (.reg [oF 73 0 7,oL 74 73,oM 5 74])))))) (.reg [oM 13 6,oC 14 .add 13 1,oM 6 14]))
def sI:qB:=⟨(oR [oZ 4 false] (oR [oJ 5 0] (.seq (oR [oJ 6 0] (.block 0 (.loop FD))) (oR [oM 75 0,oH 76 75,oC 77 .leq 76 16,oM 78 77,oMg 79 1 78 true,oMg 80 79 78 true,oMg 81 0 80 false,oHg 82 81 80 false,oCi 83 .geq 82 1 80 false,oG 84 (.pick (.t 80) (.c (.bool true)) (.t 83)) 78 true,oPa 85 78 84,oM 4 85] .ret)))),[(.tmp 4)],2,[]⟩
theorem UU:bA Tryz.prog 212 sI:=okF Tryz.func212
def RD:C:=.seq (oR [oM 11 5,oM 12 0,oH 13 12,oB 14 .lss 11 13] (oD 14 .skip (.exit 0))) (.seq (.block 1 (oR [oM 17 0,oM 18 5,oI 19 8 17 18,oA 20 8 19,oM 21 1,oM 22 5,oI 23 8 21 22,oA 24 8 23,oC2 25 189 20 24,oU 26 25] (oD 26 (oR [oZ 4 false] .ret) .skip))) (.reg [oM 15 5,oC 16 .add 15 1,oM 5 16]))
def TE:qB:=⟨(oR [oZ 4 false] (.seq (oR [oM 6 0,oH 7 6,oM 8 1,oH 9 8,oB 10 .neq 7 9] (oD 10 (oR [oZ 4 false] .ret) .skip)) (.seq (oR [oJ 5 0] (.block 0 (.loop RD))) (oR [oZ 4 true] .ret)))),[(.tmp 4)],2,[]⟩
theorem LQ:bA Tryz.prog 213 TE:=okF Tryz.func213
def jH:qB:=⟨(oR [oQ 2 1 0,oJ 4 0] (.seq (oR [oA 6 1 2,oC1 7 203 6,oM 5 7] (oR [oM 8 5,oC 9 .neq 8 0] (oD 9 (oR [oM 10 5,oM 4 10] .ret) .skip))) (.seq (oR [oM 11 1,oC 12 .lss 11 0,oM 13 12,oMg 14 1 13 false,oFg 15 0 2 13 false,oP 16 15 13 false,oHg 17 16 13 false,oBg 18 .geq 14 17 13 false,oPo 19 13 18] (oD 19 (oR [oJ 4 4] .ret) .skip)) (oR [oJ 4 0] .ret)))),[(.tmp 4)],2,[]⟩
theorem dT:bA Tryz.prog 214 jH:=okF Tryz.func214
def FK:qB:=⟨(oR [oQ 3 1 0,oQ 5 8 2,oZ 6 false] (oR [oA 7 1 3,oM 8 1,oA 9 8 5,oS 10 (.call .any 227 [(.t 7),(.t 8),(.t 9),(.c (.bool true))]),oM 6 10] .ret)),[(.tmp 6)],3,[]⟩
theorem mY:bA Tryz.prog 215 FK:=okF Tryz.func215
def QF:qB:=⟨(oR [oY 2 zza,oZ 3 false] (oR [oM 4 0,oM 5 0,oK 6 5,oF 7 2 6,oL 8 7,oC1 9 228 8,oK 10 4,oF 11 3 10,oW 11 9] (oR [oS 12 (.build zza []),oV 8 2 12,oZ 3 false] .ret))),[(.cell 2 true 8),(.tmp 3)],1,[3000000]⟩
theorem LP:bA Tryz.prog 216 QF:=okF Tryz.func216
def DI:C:=oR [oB 18 .lss 17 16] (.seq (oD 18 .skip (.exit 0)) (.seq (.block 1 (oR [oM 19 17,oI 20 8 15 17,oA 21 8 20,oY 12 zza,oM 11 19,oV 8 12 21] (oR [oM 23 0,oM 24 11,oM 25 1,oA 26 8 12,oM 27 3,oS 28 (.callr .any 231 [(.t 23),(.t 24),(.t 25),(.t 26),(.t 27)]),oM 22 28,oX 29 22 0,oX 30 22 1,oY 13 zza,oV 8 13 29,oM 14 30] (.seq (oR [oM 31 14,oU 32 31] (oD 32 (oR [oS 8 (.mv (.c (.sl true []))),oZ 9 false] .ret) .skip)) (.reg [oM 33 10,oA 34 8 13,oS 35 (.bsl zza 1 [(0,(.t 34))]),oAp 36 40 8 120 33 35,oM 10 36]))))) (.reg [oC 37 .add 17 1,oM 17 37])))
def eF:qB:=⟨(oR [oS 8 (.mv (.c (.sl true []))),oZ 9 false] (oR [oS 10 (.mv (.c (.sl true [])))] (.seq (oR [oM 15 2,oH 16 15,oJ 17 0] (.block 0 (.loop DI))) (oR [oM 38 10,oM 8 38,oZ 9 true] .ret)))),[(.tmp 8),(.tmp 9)],4,[3000000,57]⟩
theorem pP:bA Tryz.prog 219 eF:=okF Tryz.func219
def cA:qB:=⟨(oR [oQ 1 10 0,oZ 2 false] (oR [oA 5 10 1,oY 3 zze,oV 10 3 5] (oR [oF 6 0 3,oN (.store .any false 1 (.t 6) (.c (.int .i64 0)))] (oR [oZ 4 true] (.seq (oR [oF 7 0 1,oL 8 7] (.block 0 (oR [oC 10 .eql 8 1,oM 9 10] (oD 9 .skip (oR [oC 12 .eql 8 2,oM 11 12] (oD 11 (oR [oF 13 2 1,oL 14 13,oF 15 3 1,oL 16 15,oB 17 .leq 14 16,oM 4 17] (.reg [oF 18 2 3,oN (.store .any false 1 (.t 18) (.c (.int .i64 0))),oF 19 3 3,oN (.store .any false 1 (.t 19) (.c (.int .i64 0)))])) (oR [oC 21 .eql 8 3,oM 20 21] (oD 20 (oR [oF 22 4 1,oL 23 22,oC 24 .geq 23 0,oM 25 24,oFg 26 4 1 25 true,oP 27 26 25 true,oCi 28 .leq 27 200 25 true,oPa 29 25 28,oM 4 29] (.reg [oF 30 4 3,oN (.store .any false 1 (.t 30) (.c (.int .i64 0)))])) (oR [oC 32 .eql 8 4,oM 31 32] (oD 31 (oR [oF 33 1 1,oL 34 33,oC1 35 234 34,oM 36 35,oFg 37 5 1 36 true,oP 38 37 36 true,oG 39 (.call .any 235 [(.t 38)]) 36 true,oPa 40 36 39,oM 4 40] (.reg [oF 41 1 3,oN (.store .any false 1 (.t 41) (.c (.str (ByteArray.mk #[])))),oF 42 5 3,oN (.store .any false 1 (.t 42) (.c (.sl true []))),oF 43 9 3,oN (.store .any false 1 (.t 43) (.c (.bool false)))])) (.seq (oR [oC 45 .eql 8 5,oM 44 45] (oD 44 .skip (.reg [oC 46 .eql 8 6,oM 44 46]))) (oD 44 (oR [oF 47 1 1,oL 48 47,oC1 49 234 48,oM 50 49,oLg 51 10 1 50 true,oG 52 (.call .any 236 [(.t 51)]) 50 true,oPa 53 50 52,oM 4 53] (oR [oF 54 1 3,oN (.store .any false 1 (.t 54) (.c (.str (ByteArray.mk #[])))),oF 55 6 3,oN (.store .any false 1 (.t 55) (.c (.sl true [])))] (.reg [oF 56 9 1,oL 57 56,oM 58 57,oFg 59 0 1 58 true,oP 60 59 58 true,oCi 61 .eql 60 5 58 true,oPa 62 58 61,oF 63 9 3,oW 63 62]))) (.seq (oR [oC 65 .eql 8 7,oM 64 65] (oD 64 .skip (.reg [oC 66 .eql 8 8,oM 64 66]))) (oD 64 (oR [oF 67 4 1,oL 68 67,oC 69 .geq 68 0,oM 70 69,oFg 71 4 1 70 true,oP 72 71 70 true,oCi 73 .leq 72 50 70 true,oPa 74 70 73,oM 4 74] (oR [oF 75 4 3,oN (.store .any false 1 (.t 75) (.c (.int .i64 0))),oF 76 8 3,oN (.store .any false 1 (.t 76) (.c (.int .i64 0)))] (oR [oF 77 0 1,oL 78 77,oC 79 .eql 78 8] (oD 79 (.reg [oF 80 7 3,oN (.store .any false 1 (.t 80) (.c (.int .i64 0)))]) .skip)))) (oR [oC 82 .eql 8 9,oM 81 82] (oD 81 (.reg [oF 83 8 3,oN (.store .any false 1 (.t 83) (.c (.int .i64 0)))]) (oR [oZ 2 false] .ret))))))))))))))))) (oR [oM 84 4,oM 85 84,oLg 86 10 3 85 true,oG 87 (.build zze []) 85 true,oCg 88 237 86 87 85 true,oPa 89 85 88,oM 2 89] .ret)))))),[(.tmp 2)],1,[]⟩
theorem xY:bA Tryz.prog 221 cA:=okF Tryz.func221
def PF:C:=oR [oB 10 .lss 9 8] (.seq (oD 10 .skip (.exit 0)) (.seq (.block 1 (oR [oI 11 13 7 9,oA 12 13 11,oY 5 zzh,oV 13 5 12] (.reg [oM 13 3,oF 14 2 5,oL 15 14,oS 16 (.bsl [(.int .i64 0)] 1 [(0,(.t 15))]),oAp 17 3 1 8 13 16,oM 3 17]))) (.reg [oC 18 .add 9 1,oM 9 18])))
def DK:qB:=⟨(oR [oQ 1 10 0,oS 2 (.mv (.c (.sl true [])))] (oR [oS 3 (.mv (.c (.sl true [])))] (.seq (oR [oF 6 6 1,oL 7 6,oH 8 7,oJ 9 0] (.block 0 (.loop PF))) (.seq (oR [oF 19 0 1,oL 20 19,oC 21 .eql 20 8] (oD 21 (.reg [oM 22 3,oF 23 7 1,oL 24 23,oS 25 (.bsl [(.int .i64 0)] 1 [(0,(.t 24))]),oAp 26 3 1 8 22 25,oM 3 26]) .skip)) (.seq (oR [oF 27 0 1,oL 28 27,oC 29 .geq 28 7] (oD 29 (.reg [oM 30 3,oF 31 8 1,oL 32 31,oS 33 (.bsl [(.int .i64 0)] 1 [(0,(.t 32))]),oAp 34 3 1 8 30 33,oM 3 34]) .skip)) (oR [oM 35 3,oM 2 35] .ret)))))),[(.tmp 2)],1,[]⟩
theorem bY:bA Tryz.prog 222 DK:=okF Tryz.func222
def NB:qB:=⟨(oR [oQ 2 13 0,oQ 3 13 1,oZ 4 false] (oR [oF 5 0 2,oL 6 5,oF 7 0 3,oL 8 7,oB 9 .eql 6 8,oM 10 9,oFg 11 1 2 10 true,oP 12 11 10 true,oFg 13 1 3 10 true,oP 14 13 10 true,oBg 15 .eql 12 14 10 true,oPa 16 10 15,oM 17 16,oFg 18 2 2 17 true,oP 19 18 17 true,oFg 20 2 3 17 true,oP 21 20 17 true,oBg 22 .eql 19 21 17 true,oPa 23 17 22,oM 24 23,oFg 25 3 2 24 true,oP 26 25 24 true,oFg 27 3 3 24 true,oP 28 27 24 true,oG 29 (.bin .eql true (.t 26) (.t 28)) 24 true,oPa 30 24 29,oM 31 30,oFg 32 4 2 31 true,oP 33 32 31 true,oFg 34 4 3 31 true,oP 35 34 31 true,oG 36 (.bin .eql true (.t 33) (.t 35)) 31 true,oPa 37 31 36,oM 38 37,oFg 39 5 2 38 true,oLg 40 8 39 38 true,oFg 41 5 3 38 true,oLg 42 8 41 38 true,oCg 43 189 40 42 38 true,oPa 44 38 43,oM 4 44] .ret)),[(.tmp 4)],2,[]⟩
theorem ZQ:bA Tryz.prog 223 NB:=okF Tryz.func223
def MI:qB:=⟨(oR [oZ 2 false] (oR [oM 3 0,oS 4 (.bin .geq false (.t 3) (.c (.int .u8 97))),oM 5 4,oMg 6 0 5 true,oG 7 (.bin .leq false (.t 6) (.c (.int .u8 122))) 5 true,oPa 8 5 7,oM 9 8,oMg 10 0 9 false,oG 11 (.bin .geq false (.t 10) (.c (.int .u8 65))) 9 false,oMg 12 11 9 false,oMg 13 0 12 true,oG 14 (.bin .leq false (.t 13) (.c (.int .u8 90))) 12 true,oPb 15 12 14 9 false,oPo 16 9 15,oM 17 16,oMg 18 0 17 false,oG 19 (.bin .eql false (.t 18) (.c (.int .u8 95))) 17 false,oPo 20 17 19,oM 2 20] .ret)),[(.tmp 2)],1,[]⟩
theorem wW:bA Tryz.prog 224 MI:=okF Tryz.func224
def EK:qB:=⟨(oR [oZ 2 false] (oR [oM 3 0,oS 4 (.bin .geq false (.t 3) (.c (.int .u8 48))),oM 5 4,oMg 6 0 5 true,oG 7 (.bin .leq false (.t 6) (.c (.int .u8 57))) 5 true,oPa 8 5 7,oM 2 8] .ret)),[(.tmp 2)],1,[]⟩
theorem XX:bA Tryz.prog 225 EK:=okF Tryz.func225
def MN:qB:=⟨(oR [oZ 4 false] (oR [oM 5 1,oM 6 0,oB 7 .gtr 5 6,oM 8 7,oMg 9 1 8 true,oCi 10 .geq 9 1 8 true,oPa 11 8 10,oM 12 11,oMg 13 1 12 true,oCi 14 .leq 13 1000 12 true,oPa 15 12 14,oM 4 15] .ret)),[(.tmp 4)],2,[]⟩
theorem B8:bA Tryz.prog 226 MN:=okF Tryz.func226
def bI:C:=.seq (oR [oM 281 20,oF 282 5 6,oL 283 282,oH 284 283,oB 285 .lss 281 284] (oD 285 .skip (.exit 5))) (.seq (.block 6 (oR [oF 288 5 6,oL 289 288,oM 290 20,oC 291 .sub 290 1,oI 292 8 289 291,oA 293 8 292,oF 294 5 6,oL 295 294,oM 296 20,oI 297 8 295 296,oA 298 8 297,oC2 299 241 293 298,oC 300 .geq 299 0] (oD 300 (oR [oZ 8 false] .ret) .skip))) (.reg [oM 286 20,oC 287 .add 286 1,oM 20 287]))
def mI:C:=oR [oB 153 .lss 152 151] (.seq (oD 153 .skip (.exit 3)) (.seq (.block 4 (oR [oM 154 152,oI 155 13 150 152,oA 156 13 155,oY 17 zzh,oM 16 154,oV 13 17 156] (oR [oA 157 1 4,oF 158 2 17,oL 159 158,oF 160 6 6,oL 161 160,oM 162 16,oI 163 8 161 162,oA 164 8 163,oM 165 3,oC4 166 227 157 159 164 165,oU 167 166] (oD 167 (oR [oZ 8 false] .ret) .skip)))) (.reg [oC 168 .add 152 1,oM 152 168])))
def NO:C:=oR [oB 114 .lss 113 112] (.seq (oD 114 .skip (.exit 1)) (.seq (.block 2 (oR [oM 115 113,oI 116 2 111 113,oA 117 2 116,oY 13 zzc,oM 12 115,oV 2 13 117] (oR [oA 119 10 9,oF 120 0 13,oL 121 120,oC2 122 137 119 121,oM 118 122,oX 123 118 0,oX 124 118 1,oM 14 123,oM 15 124] (oR [oM 125 15,oM 126 125,oFg 127 0 13 126 false,oP 128 127 126 false,oG 129 (.call .any 239 [(.t 128)]) 126 false,oUg 130 129 126 false,oPo 131 126 130,oM 132 131,oMg 133 12 132 false,oCi 134 .gtr 133 0 132 false,oMg 135 134 132 false,oFg 136 0 13 135 true,oP 137 136 135 true,oFg 138 7 6 135 true,oP 139 138 135 true,oMg 140 12 135 true,oCi 141 .sub 140 1 135 true,oIg 142 2 139 141 135 true,oFg 143 0 142 135 true,oP 144 143 135 true,oBg 145 .leq 137 144 135 true,oPb 146 135 145 132 false,oPo 147 132 146] (oD 147 (oR [oZ 8 false] .ret) .skip))))) (.reg [oC 148 .add 113 1,oM 113 148])))
def kA:qB:=⟨(oR [oQ 4 1 0,oQ 6 8 2,oZ 8 false] (.seq (oR [oM 21 1,oC 22 .lss 21 0,oM 23 22,oMg 24 1 23 false,oFg 25 0 4 23 false,oP 26 25 23 false,oHg 27 26 23 false,oBg 28 .geq 24 27 23 false,oPo 29 23 28] (oD 29 (oR [oZ 8 false] .ret) .skip)) (oR [oF 30 0 4,oL 31 30,oM 32 1,oI 33 10 31 32,oA 34 10 33,oY 9 zze,oV 10 9 34] (.seq (oR [oF 35 0 6,oL 36 35,oF 37 0 9,oL 38 37,oB 39 .neq 36 38,oM 40 39,oLg 41 8 6 40 false,oG 42 (.call .any 238 [(.t 41)]) 40 false,oUg 43 42 40 false,oPo 44 40 43] (oD 44 (oR [oZ 8 false] .ret) .skip)) (.seq (oR [oF 45 0 9,oL 46 45] (.block 0 (oR [oC 48 .eql 46 2,oM 47 48] (oD 47 (oR [oF 49 2 6,oL 50 49,oF 51 2 9,oL 52 51,oB 53 .geq 50 52,oM 54 53,oFg 55 2 6 54 true,oP 56 55 54 true,oFg 57 3 9 54 true,oP 58 57 54 true,oBg 59 .leq 56 58 54 true,oPa 60 54 59,oM 8 60] .ret) (oR [oC 62 .eql 46 3,oM 61 62] (oD 61 (oR [oF 63 3 6,oL 64 63,oS 65 (.len true (.t 64)),oF 66 4 9,oL 67 66,oB 68 .leq 65 67,oM 8 68] .ret) (oR [oC 70 .eql 46 4,oM 69 70] (oD 69 (oR [oA 72 10 9,oF 73 4 6,oL 74 73,oC2 75 154 72 74,oM 71 75,oX 76 71 0,oX 77 71 1,oM 10 76,oM 11 77] (oR [oM 78 11,oM 79 78,oFg 80 9 9 79 false,oP 81 80 79 false,oMg 82 81 79 false,oMg 83 3 82 true,oUg 84 83 82 true,oPb 85 82 84 79 false,oMg 86 85 79 false,oFg 87 4 6 86 true,oP 88 87 86 true,oG 89 (.call .any 239 [(.t 88)]) 86 true,oPb 90 86 89 79 false,oPo 91 79 90,oM 8 91] .ret)) (oR [oC 93 .eql 46 5,oM 92 93] (oD 92 (.seq (oR [oF 94 6 6,oL 95 94,oH 96 95,oF 97 6 9,oL 98 97,oH 99 98,oB 100 .neq 96 99,oM 101 100,oMg 102 3 101 false,oMg 103 102 101 false,oFg 104 7 6 103 true,oP 105 104 103 true,oHg 106 105 103 true,oCi 107 .gtr 106 0 103 true,oPb 108 103 107 101 false,oPo 109 101 108] (oD 109 (oR [oZ 8 false] .ret) .skip)) (.seq (oR [oF 110 7 6,oL 111 110,oH 112 111,oJ 113 0] (.block 1 (.loop NO))) (oR [oF 149 6 9,oL 150 149,oH 151 150,oJ 152 0] (.block 3 (.loop mI))))) (oR [oC 170 .eql 46 6,oM 169 170] (oD 169 (.seq (oR [oA 172 10 9,oF 173 4 6,oL 174 173,oC2 175 137 172 174,oM 171 175,oX 176 171 0,oX 177 171 1,oM 18 176,oM 19 177] (oR [oM 178 19] (oD 178 (oR [oF 179 6 6,oL 180 179,oH 181 180,oC 182 .eql 181 1,oM 183 182,oFg 184 7 6 183 true,oP 185 184 183 true,oHg 186 185 183 true,oCi 187 .eql 186 0 183 true,oPa 188 183 187,oM 189 188,oLg 190 1 4 189 true,oFg 191 6 9 189 true,oP 192 191 189 true,oMg 193 18 189 true,oIg 194 13 192 193 189 true,oFg 195 2 194 189 true,oP 196 195 189 true,oFg 197 6 6 189 true,oP 198 197 189 true,oG 199 (.iaddr 8 (.t 198) (.c (.int .i64 0))) 189 true,oLg 200 8 199 189 true,oMg 201 3 189 true,oG 202 (.call .any 227 [(.t 190),(.t 196),(.t 200),(.t 201)]) 189 true,oPa 203 189 202,oM 8 203] .ret) .skip))) (oR [oF 204 9 9,oL 205 204,oM 206 205,oMg 207 3 206 true,oUg 208 207 206 true,oPa 209 206 208,oM 210 209,oFg 211 4 6 210 true,oP 212 211 210 true,oG 213 (.call .any 239 [(.t 212)]) 210 true,oPa 214 210 213,oM 215 214,oFg 216 6 6 215 true,oP 217 216 215 true,oHg 218 217 215 true,oCi 219 .eql 218 0 215 true,oPa 220 215 219,oM 221 220,oFg 222 7 6 221 true,oP 223 222 221 true,oHg 224 223 221 true,oCi 225 .eql 224 1 221 true,oPa 226 221 225,oM 227 226,oFg 228 7 6 227 true,oP 229 228 227 true,oG 230 (.iaddr 2 (.t 229) (.c (.int .i64 0))) 227 true,oFg 231 0 230 227 true,oP 232 231 227 true,oFg 233 4 6 227 true,oP 234 233 227 true,oBg 235 .eql 232 234 227 true,oPa 236 227 235,oM 8 236] .ret)) (oR [oC 238 .eql 46 7,oM 237 238] (oD 237 (oR [oF 239 6 6,oL 240 239,oH 241 240,oF 242 4 9,oL 243 242,oB 244 .leq 241 243,oM 245 244,oLg 246 1 4 245 true,oFg 247 8 9 245 true,oP 248 247 245 true,oFg 249 6 6 245 true,oP 250 249 245 true,oMg 251 3 245 true,oG 252 (.call .any 240 [(.t 246),(.t 248),(.t 250),(.t 251)]) 245 true,oPa 253 245 252,oM 8 253] .ret) (oR [oC 255 .eql 46 8,oM 254 255] (oD 254 (.seq (oR [oF 256 5 6,oL 257 256,oH 258 257,oF 259 4 9,oL 260 259,oB 261 .gtr 258 260,oM 262 261,oFg 263 6 6 262 false,oP 264 263 262 false,oHg 265 264 262 false,oFg 266 5 6 262 false,oP 267 266 262 false,oHg 268 267 262 false,oBg 269 .neq 265 268 262 false,oPo 270 262 269,oM 271 270,oLg 272 1 4 271 false,oFg 273 7 9 271 false,oP 274 273 271 false,oFg 275 5 6 271 false,oP 276 275 271 false,oMg 277 3 271 false,oG 278 (.call .any 240 [(.t 272),(.t 274),(.t 276),(.t 277)]) 271 false,oUg 279 278 271 false,oPo 280 271 279] (oD 280 (oR [oZ 8 false] .ret) .skip)) (.seq (oR [oJ 20 1] (.block 5 (.loop bI))) (oR [oA 301 1 4,oF 302 8 9,oL 303 302,oF 304 6 6,oL 305 304,oM 306 3,oC4 307 240 301 303 305 306,oM 8 307] .ret))) (oR [oC 309 .eql 46 9,oM 308 309] (oD 308 (oR [oF 310 6 6,oL 311 310,oH 312 311,oC 313 .leq 312 1,oM 314 313,oLg 315 1 4 314 true,oFg 316 8 9 314 true,oP 317 316 314 true,oFg 318 6 6 314 true,oP 319 318 314 true,oMg 320 3 314 true,oG 321 (.call .any 240 [(.t 315),(.t 317),(.t 319),(.t 320)]) 314 true,oPa 322 314 321,oM 8 322] .ret) .skip)))))))))))))))))) (oR [oZ 8 true] .ret)))))),[(.tmp 8)],4,[]⟩
theorem IZ:bA Tryz.prog 227 kA:=okF Tryz.func227
def wG:qB:=⟨(oR [oS 2 (.mv (.c (.sl true [])))] (.seq (oR [oM 3 0,oS 4 (.eqn false false (.t 3) (.c (.sl true [])))] (oD 4 (oR [oS 2 (.mv (.c (.sl true [])))] .ret) .skip)) (oR [oS 5 (.bsl [(.int .i64 0)] 0 []),oM 6 0,oAp 7 3 1 8 5 6,oM 2 7] .ret))),[(.tmp 2)],1,[]⟩
theorem rR:bA Tryz.prog 228 wG:=okF Tryz.func228
def iE:C:=oR [oB 20 .lss 19 18] (.seq (oD 20 .skip (.exit 0)) (.seq (.block 1 (oR [oM 21 19,oM 3 21] (oR [oM 22 0,oM 23 3,oS 24 (.index (.t 22) (.t 23)),oC1 25 248 24,oU 26 25,oM 27 26,oMg 28 0 27 true,oMg 29 3 27 true,oG 30 (.index (.t 28) (.t 29)) 27 true,oG 31 (.call .any 249 [(.t 30)]) 27 true,oUg 32 31 27 true,oPa 33 27 32] (oD 33 (oR [oZ 2 false] .ret) .skip)))) (.reg [oC 34 .add 19 1,oM 19 34])))
def EE:qB:=⟨(oR [oZ 2 false] (.seq (oR [oM 4 0,oS 5 (.bin .eql false (.t 4) (.c (.str (ByteArray.mk #[])))),oM 6 5,oMg 7 0 6 false,oG 8 (.len true (.t 7)) 6 false,oCi 9 .gtr 8 24 6 false,oPo 10 6 9,oM 11 10,oMg 12 0 11 false,oG 13 (.index (.t 12) (.c (.int .i64 0))) 11 false,oG 14 (.call .any 248 [(.t 13)]) 11 false,oUg 15 14 11 false,oPo 16 11 15] (oD 16 (oR [oZ 2 false] .ret) .skip)) (.seq (oR [oM 17 0,oS 18 (.len true (.t 17)),oJ 19 0] (.block 0 (.loop iE))) (oR [oZ 2 true] .ret)))),[(.tmp 2)],1,[]⟩
theorem NV:bA Tryz.prog 234 EE:=okF Tryz.func234
def EF:C:=oR [oB 10 .lss 9 8] (.seq (oD 10 .skip (.exit 0)) (.seq (.block 1 (oR [oI 11 2 7 9,oA 12 2 11,oY 6 zzc,oV 2 6 12] (.reg [oM 13 3,oF 14 0 6,oL 15 14,oS 16 (.bsl [(.int .i64 0)] 1 [(0,(.t 15))]),oAp 17 3 1 8 13 16,oM 18 4,oF 19 1 6,oL 20 19,oS 21 (.bsl [(.str (ByteArray.mk #[]))] 1 [(0,(.t 20))]),oAp 22 9 1 16 18 21,oM 3 17,oM 4 22]))) (.reg [oC 23 .add 9 1,oM 9 23])))
def xH:qB:=⟨(oR [oZ 2 false] (oR [oS 3 (.mv (.c (.sl true [])))] (oR [oS 4 (.mv (.c (.sl true [])))] (.seq (oR [oM 7 0,oH 8 7,oJ 9 0] (.block 0 (.loop EF))) (oR [oM 24 0,oH 25 24,oC 26 .gtr 25 0,oM 27 26,oMg 28 3 27 true,oMg 29 4 27 true,oCg 30 250 28 29 27 true,oPa 31 27 30,oM 2 31] .ret))))),[(.tmp 2)],1,[]⟩
theorem xT:bA Tryz.prog 235 xH:=okF Tryz.func235
def WF:C:=oR [oB 11 .lss 10 9] (.seq (oD 11 .skip (.exit 0)) (.seq (.block 1 (oR [oI 12 13 8 10,oA 13 13 12,oY 6 zzh,oV 13 6 13] (oR [oM 14 3,oF 15 0 6,oL 16 15,oS 17 (.bsl [(.int .i64 0)] 1 [(0,(.t 16))]),oAp 18 3 1 8 14 17,oM 19 4,oF 20 1 6,oL 21 20,oS 22 (.bsl [(.str (ByteArray.mk #[]))] 1 [(0,(.t 21))]),oAp 23 9 1 16 19 22,oM 3 18,oM 4 23] (oR [oF 24 0 1,oL 25 24,oC 26 .eql 25 6,oM 27 26,oFg 28 3 6 27 true,oP 29 28 27 true,oMg 30 29 27 true,oFg 31 4 6 30 false,oP 32 31 30 false,oG 33 (.pick (.t 30) (.c (.bool true)) (.t 32)) 27 true,oPa 34 27 33,oM 35 34,oFg 36 3 6 35 false,oP 37 36 35 false,oMg 38 37 35 false,oFg 39 4 6 38 true,oP 40 39 38 true,oPb 41 38 40 35 false,oPo 42 35 41,oM 43 42,oFg 44 4 6 43 false,oP 45 44 43 false,oUg 46 45 43 false,oMg 47 46 43 false,oFg 48 5 6 47 true,oLg 49 8 48 47 true,oG 50 (.call .any 251 [(.t 49)]) 47 true,oUg 51 50 47 true,oPb 52 47 51 43 false,oPo 53 43 52] (oD 53 (oR [oZ 2 false] .ret) .skip))))) (.reg [oC 54 .add 10 1,oM 10 54])))
def zH:qB:=⟨(oR [oQ 1 10 0,oZ 2 false] (oR [oS 3 (.mv (.c (.sl true [])))] (oR [oS 4 (.mv (.c (.sl true [])))] (.seq (oR [oF 7 6 1,oL 8 7,oH 9 8,oJ 10 0] (.block 0 (.loop WF))) (oR [oF 55 0 1,oL 56 55,oC 57 .eql 56 5,oM 58 57,oMg 59 3 58 false,oHg 60 59 58 false,oCi 61 .gtr 60 0 58 false,oPo 62 58 61,oM 63 62,oMg 64 3 63 true,oMg 65 4 63 true,oCg 66 250 64 65 63 true,oPa 67 63 66,oM 2 67] .ret))))),[(.tmp 2)],1,[]⟩
theorem zT:bA Tryz.prog 236 zH:=okF Tryz.func236
def GB:qB:=⟨(oR [oQ 2 10 0,oQ 3 10 1,oZ 4 false] (oR [oF 5 0 2,oL 6 5,oF 7 0 3,oL 8 7,oB 9 .eql 6 8,oM 10 9,oFg 11 1 2 10 true,oP 12 11 10 true,oFg 13 1 3 10 true,oP 14 13 10 true,oBg 15 .eql 12 14 10 true,oPa 16 10 15,oM 17 16,oFg 18 2 2 17 true,oP 19 18 17 true,oFg 20 2 3 17 true,oP 21 20 17 true,oBg 22 .eql 19 21 17 true,oPa 23 17 22,oM 24 23,oFg 25 3 2 24 true,oP 26 25 24 true,oFg 27 3 3 24 true,oP 28 27 24 true,oBg 29 .eql 26 28 24 true,oPa 30 24 29,oM 31 30,oFg 32 4 2 31 true,oP 33 32 31 true,oFg 34 4 3 31 true,oP 35 34 31 true,oBg 36 .eql 33 35 31 true,oPa 37 31 36,oM 38 37,oFg 39 7 2 38 true,oP 40 39 38 true,oFg 41 7 3 38 true,oP 42 41 38 true,oBg 43 .eql 40 42 38 true,oPa 44 38 43,oM 45 44,oFg 46 8 2 45 true,oP 47 46 45 true,oFg 48 8 3 45 true,oP 49 48 45 true,oBg 50 .eql 47 49 45 true,oPa 51 45 50,oM 52 51,oFg 53 9 2 52 true,oP 54 53 52 true,oFg 55 9 3 52 true,oP 56 55 52 true,oG 57 (.bin .eql true (.t 54) (.t 56)) 52 true,oPa 58 52 57,oM 59 58,oFg 60 5 2 59 true,oP 61 60 59 true,oFg 62 5 3 59 true,oP 63 62 59 true,oCg 64 252 61 63 59 true,oPa 65 59 64,oM 66 65,oFg 67 6 2 66 true,oP 68 67 66 true,oFg 69 6 3 66 true,oP 70 69 66 true,oG 71 (.call .any 253 [(.t 68),(.t 70),(.c (.fn 254 []))]) 66 true,oPa 72 66 71,oM 4 72] .ret)),[(.tmp 4)],2,[]⟩
theorem lW:bA Tryz.prog 237 GB:=okF Tryz.func237
def WC:qB:=⟨(oR [oQ 1 8 0,oZ 2 false] (oR [oA 4 8 1,oC1 5 256 4,oY 3 zza,oV 8 3 5] (oR [oF 6 1 1,oL 7 6,oF 8 1 3,oL 9 8,oS 10 (.bin .eql true (.t 7) (.t 9)),oM 11 10,oFg 12 2 1 11 true,oP 13 12 11 true,oFg 14 2 3 11 true,oP 15 14 11 true,oBg 16 .eql 13 15 11 true,oPa 17 11 16,oM 18 17,oFg 19 3 1 18 true,oP 20 19 18 true,oFg 21 3 3 18 true,oP 22 21 18 true,oBg 23 .eql 20 22 18 true,oPa 24 18 23,oM 25 24,oFg 26 4 1 25 true,oP 27 26 25 true,oFg 28 4 3 25 true,oP 29 28 25 true,oBg 30 .eql 27 29 25 true,oPa 31 25 30,oM 32 31,oFg 33 5 1 32 true,oP 34 33 32 true,oHg 35 34 32 true,oFg 36 5 3 32 true,oP 37 36 32 true,oHg 38 37 32 true,oBg 39 .eql 35 38 32 true,oPa 40 32 39,oM 41 40,oFg 42 6 1 41 true,oP 43 42 41 true,oHg 44 43 41 true,oFg 45 6 3 41 true,oP 46 45 41 true,oHg 47 46 41 true,oBg 48 .eql 44 47 41 true,oPa 49 41 48,oM 50 49,oFg 51 7 1 50 true,oP 52 51 50 true,oHg 53 52 50 true,oFg 54 7 3 50 true,oP 55 54 50 true,oHg 56 55 50 true,oBg 57 .eql 53 56 50 true,oPa 58 50 57,oM 2 58] .ret))),[(.tmp 2)],1,[]⟩
theorem zW:bA Tryz.prog 238 WC:=okF Tryz.func238
def DL:qB:=⟨(oR [oQ 4 1 0,oQ 5 1 1,oQ 7 1 3,oZ 8 false] (oR [oM 9 2,oS 10 (.mkf 258 [(.t 4),(.t 5),(.t 7)]),oC2 11 257 9 10,oU 12 11,oM 8 12] .ret)),[(.tmp 8)],4,[]⟩
theorem UZ:bA Tryz.prog 240 DL:=okF Tryz.func240
def UC:qB:=⟨(oR [oQ 2 8 0,oQ 3 8 1,oJ 4 0] (.seq (oR [oF 5 0 2,oL 6 5,oF 7 0 3,oL 8 7,oB 9 .neq 6 8] (oD 9 (oR [oJ 4 0] .ret) .skip)) (.seq (oR [oF 10 0 2,oL 11 10] (.block 0 (oR [oC 13 .eql 11 1,oM 12 13] (oD 12 (.seq (.block 1 (oR [oF 15 1 2,oL 16 15,oF 17 1 3,oL 18 17,oS 19 (.bin .eql true (.t 16) (.t 18)),oM 14 19] (oD 14 (oR [oJ 4 0] .ret) (oR [oF 21 1 3,oL 22 21,oM 20 22] (oD 20 (oR [oJ 4 (-1)] .ret) .skip))))) (oR [oJ 4 1] .ret)) (oR [oC 24 .eql 11 2,oM 23 24] (oD 23 (oR [oF 25 2 2,oL 26 25,oC1 27 260 26,oF 28 2 3,oL 29 28,oC1 30 260 29,oC2 31 259 27 30,oM 4 31] .ret) (oR [oC 33 .eql 11 3,oM 32 33] (oD 32 (oR [oF 34 3 2,oL 35 34,oS 36 (.len true (.t 35)),oF 37 3 3,oL 38 37,oS 39 (.len true (.t 38)),oC2 40 140 36 39,oF 41 3 2,oL 42 41,oF 43 3 3,oL 44 43,oC2 45 262 42 44,oS 46 (.bsl [(.int .i64 0)] 2 [(0,(.t 40)),(1,(.t 45))]),oC1 47 261 46,oM 4 47] .ret) (oR [oC 49 .eql 11 4,oM 48 49] (oD 48 (oR [oF 50 4 2,oL 51 50,oF 52 4 3,oL 53 52,oC2 54 140 51 53,oM 4 54] .ret) .skip)))))))))) (oR [oJ 4 0] .ret)))),[(.tmp 4)],2,[]⟩
theorem ZU:bA Tryz.prog 241 UC:=okF Tryz.func241
def fH:qB:=⟨(oR [oZ 2 false] (oR [oM 3 0,oS 4 (.bin .eql false (.t 3) (.c (.int .u8 95))),oM 5 4,oMg 6 0 5 false,oG 7 (.bin .geq false (.t 6) (.c (.int .u8 97))) 5 false,oMg 8 7 5 false,oMg 9 0 8 true,oG 10 (.bin .leq false (.t 9) (.c (.int .u8 122))) 8 true,oPb 11 8 10 5 false,oPo 12 5 11,oM 13 12,oMg 14 0 13 false,oG 15 (.bin .geq false (.t 14) (.c (.int .u8 65))) 13 false,oMg 16 15 13 false,oMg 17 0 16 true,oG 18 (.bin .leq false (.t 17) (.c (.int .u8 90))) 16 true,oPb 19 16 18 13 false,oPo 20 13 19,oM 2 20] .ret)),[(.tmp 2)],1,[]⟩
theorem sT:bA Tryz.prog 248 fH:=okF Tryz.func248
def iI:qB:=⟨(oR [oZ 2 false] (oR [oM 3 0,oS 4 (.bin .geq false (.t 3) (.c (.int .u8 48))),oM 5 4,oMg 6 0 5 true,oG 7 (.bin .leq false (.t 6) (.c (.int .u8 57))) 5 true,oPa 8 5 7,oM 2 8] .ret)),[(.tmp 2)],1,[]⟩
theorem QU:bA Tryz.prog 249 iI:=okF Tryz.func249
def EB:C:=oR [oB 12 .lss 11 10] (.seq (oD 12 .skip (.exit 0)) (.seq (.block 1 (oR [oM 13 11,oI 14 1 9 11,oL 15 14,oM 6 13,oM 7 15] (.seq (oR [oM 16 7,oC 17 .lss 16 1,oM 18 17,oMg 19 7 18 false,oCi 20 .gtr 19 1000 18 false,oPo 21 18 20,oM 22 21,oMg 23 6 22 false,oCi 24 .gtr 23 0 22 false,oMg 25 24 22 false,oMg 26 7 25 true,oMg 27 0 25 true,oMg 28 6 25 true,oCi 29 .sub 28 1 25 true,oIg 30 1 27 29 25 true,oP 31 30 25 true,oBg 32 .leq 26 31 25 true,oPb 33 25 32 22 false,oPo 34 22 33,oM 35 34,oMg 36 5 35 false,oMg 37 1 35 false,oMg 38 6 35 false,oIg 39 1 37 38 35 false,oP 40 39 35 false,oG 41 (.mget false .none (.bool false) (.t 36) (.t 40)) 35 false,oPo 42 35 41,oM 43 42,oMg 44 1 43 false,oMg 45 6 43 false,oIg 46 1 44 45 43 false,oP 47 46 43 false,oG 48 (.call .any 234 [(.t 47)]) 43 false,oUg 49 48 43 false,oPo 50 43 49] (oD 50 (oR [oZ 4 false] .ret) .skip)) (.reg [oM 51 5,oM 52 1,oM 53 6,oI 54 1 52 53,oL 55 54,oN (.mset .none (.t 51) (.t 55) (.c (.bool true)))])))) (.reg [oC 56 .add 11 1,oM 11 56])))
def AL:qB:=⟨(oR [oZ 4 false] (oR [oS 8 (.mkm),oM 5 8] (.seq (oR [oM 9 0,oH 10 9,oJ 11 0] (.block 0 (.loop EB))) (oR [oM 57 0,oH 58 57,oC 59 .leq 58 16,oM 4 59] .ret)))),[(.tmp 4)],2,[]⟩
theorem RZ:bA Tryz.prog 250 AL:=okF Tryz.func250
def mJ:qB:=⟨(oR [oQ 1 8 0,oZ 2 false] (oR [oA 3 8 1,oS 4 (.build zza []),oC2 5 255 3 4,oM 2 5] .ret)),[(.tmp 2)],1,[]⟩
theorem kW:bA Tryz.prog 251 mJ:=okF Tryz.func251
def TB:C:=oR [oB 14 .lss 13 12] (.seq (oD 14 .skip (.exit 0)) (.seq (.block 1 (oR [oM 15 13,oM 5 15] (oR [oM 16 0,oM 17 5,oI 18 2 16 17,oA 19 2 18,oM 20 1,oM 21 5,oI 22 2 20 21,oA 23 2 22,oS 24 (.eqa true [0,1] (.t 19) (.t 23))] (oD 24 (oR [oZ 4 false] .ret) .skip)))) (.reg [oC 25 .add 13 1,oM 13 25])))
def FC:qB:=⟨(oR [oZ 4 false] (.seq (oR [oM 6 0,oH 7 6,oM 8 1,oH 9 8,oB 10 .neq 7 9] (oD 10 (oR [oZ 4 false] .ret) .skip)) (.seq (oR [oM 11 0,oH 12 11,oJ 13 0] (.block 0 (.loop TB))) (oR [oZ 4 true] .ret)))),[(.tmp 4)],2,[]⟩
theorem QM:bA Tryz.prog 252 FC:=okF Tryz.func252
def IB:C:=oR [oB 18 .lss 17 16] (.seq (oD 18 .skip (.exit 0)) (.seq (.block 1 (oR [oM 19 17,oI 20 13 15 17,oA 21 13 20,oY 8 zzh,oM 7 19,oV 13 8 21] (oR [oM 22 1,oM 23 7,oI 24 13 22 23,oA 25 13 24,oY 9 zzh,oV 13 9 25] (oR [oM 26 2,oA 27 13 8,oA 28 13 9,oS 29 (.callv .any (.t 26) [(.t 27),(.t 28)]),oU 30 29] (oD 30 (oR [oZ 6 false] .ret) .skip))))) (.reg [oC 31 .add 17 1,oM 17 31])))
def XB:qB:=⟨(oR [oZ 6 false] (.seq (oR [oM 10 0,oH 11 10,oM 12 1,oH 13 12,oB 14 .neq 11 13] (oD 14 (oR [oZ 6 false] .ret) .skip)) (.seq (oR [oM 15 0,oH 16 15,oJ 17 0] (.block 0 (.loop IB))) (oR [oZ 6 true] .ret)))),[(.tmp 6)],3,[]⟩
theorem kK:bA Tryz.prog 253 XB:=okF Tryz.func253
def aC:qB:=⟨(oR [oQ 2 13 0,oQ 3 13 1,oZ 4 false] (oR [oF 5 0 2,oL 6 5,oF 7 0 3,oL 8 7,oB 9 .eql 6 8,oM 10 9,oFg 11 1 2 10 true,oP 12 11 10 true,oFg 13 1 3 10 true,oP 14 13 10 true,oBg 15 .eql 12 14 10 true,oPa 16 10 15,oM 17 16,oFg 18 2 2 17 true,oP 19 18 17 true,oFg 20 2 3 17 true,oP 21 20 17 true,oBg 22 .eql 19 21 17 true,oPa 23 17 22,oM 24 23,oFg 25 3 2 24 true,oP 26 25 24 true,oFg 27 3 3 24 true,oP 28 27 24 true,oG 29 (.bin .eql true (.t 26) (.t 28)) 24 true,oPa 30 24 29,oM 31 30,oFg 32 4 2 31 true,oP 33 32 31 true,oFg 34 4 3 31 true,oP 35 34 31 true,oG 36 (.bin .eql true (.t 33) (.t 35)) 31 true,oPa 37 31 36,oM 38 37,oFg 39 5 2 38 true,oLg 40 8 39 38 true,oFg 41 5 3 38 true,oLg 42 8 41 38 true,oCg 43 255 40 42 38 true,oPa 44 38 43,oM 4 44] .ret)),[(.tmp 4)],2,[]⟩
theorem rS:bA Tryz.prog 254 aC:=okF Tryz.func254
def MC:qB:=⟨(oR [oQ 2 8 0,oQ 3 8 1,oZ 4 false] (oR [oF 5 0 2,oL 6 5,oF 7 0 3,oL 8 7,oB 9 .eql 6 8,oM 10 9,oFg 11 1 2 10 true,oP 12 11 10 true,oFg 13 1 3 10 true,oP 14 13 10 true,oG 15 (.bin .eql true (.t 12) (.t 14)) 10 true,oPa 16 10 15,oM 17 16,oFg 18 2 2 17 true,oP 19 18 17 true,oFg 20 2 3 17 true,oP 21 20 17 true,oBg 22 .eql 19 21 17 true,oPa 23 17 22,oM 24 23,oFg 25 3 2 24 true,oP 26 25 24 true,oFg 27 3 3 24 true,oP 28 27 24 true,oBg 29 .eql 26 28 24 true,oPa 30 24 29,oM 31 30,oFg 32 4 2 31 true,oP 33 32 31 true,oFg 34 4 3 31 true,oP 35 34 31 true,oBg 36 .eql 33 35 31 true,oPa 37 31 36,oM 38 37,oFg 39 7 2 38 true,oP 40 39 38 true,oFg 41 7 3 38 true,oP 42 41 38 true,oCg 43 196 40 42 38 true,oPa 44 38 43,oM 45 44,oFg 46 5 2 45 true,oP 47 46 45 true,oFg 48 5 3 45 true,oP 49 48 45 true,oG 50 (.call .any 197 [(.t 47),(.t 49),(.c (.fn 255 []))]) 45 true,oPa 51 45 50,oM 52 51,oFg 53 6 2 52 true,oP 54 53 52 true,oFg 55 6 3 52 true,oP 56 55 52 true,oG 57 (.call .any 197 [(.t 54),(.t 56),(.c (.fn 255 []))]) 52 true,oPa 58 52 57,oM 4 58] .ret)),[(.tmp 4)],2,[]⟩
theorem cY:bA Tryz.prog 255 MC:=okF Tryz.func255
def sB:qB:=⟨(oR [oQ 1 8 0,oY 2 zza] (oR [oF 4 0 1,oL 5 4,oS 6 (.build zza [(0,(1,(.t 5)))]),oY 3 zza,oV 8 3 6] (.seq (oR [oF 7 0 1,oL 8 7] (.block 0 (oR [oC 10 .eql 8 1,oM 9 10] (oD 9 (.reg [oF 11 1 1,oL 12 11,oF 13 1 3,oW 13 12]) (oR [oC 15 .eql 8 2,oM 14 15] (oD 14 (.reg [oF 16 2 1,oL 17 16,oF 18 2 3,oW 18 17]) (oR [oC 20 .eql 8 3,oM 19 20] (oD 19 (.reg [oF 21 3 1,oL 22 21,oF 23 3 3,oW 23 22]) (oR [oC 25 .eql 8 4,oM 24 25] (oD 24 (.reg [oF 26 4 1,oL 27 26,oF 28 4 3,oW 28 27]) (oR [oC 30 .eql 8 5,oM 29 30] (oD 29 (.reg [oF 31 6 1,oLr 32 1 1 31,oF 33 7 1,oLr 34 1 1 33,oF 35 6 3,oN (.store (.root 3) false 1 (.t 35) (.t 32)),oF 36 7 3,oN (.store (.root 3) false 1 (.t 36) (.t 34))]) (oR [oC 38 .eql 8 6,oM 37 38] (oD 37 (.reg [oF 39 4 1,oLr 40 1 1 39,oF 41 6 1,oLr 42 1 1 41,oF 43 7 1,oLr 44 1 1 43,oF 45 4 3,oN (.store (.root 3) false 1 (.t 45) (.t 40)),oF 46 6 3,oN (.store (.root 3) false 1 (.t 46) (.t 42)),oF 47 7 3,oN (.store (.root 3) false 1 (.t 47) (.t 44))]) (oR [oC 49 .eql 8 8,oM 48 49] (oD 48 (.reg [oF 50 5 1,oLr 51 1 1 50,oF 52 6 1,oLr 53 1 1 52,oF 54 5 3,oN (.store (.root 3) false 1 (.t 54) (.t 51)),oF 55 6 3,oN (.store (.root 3) false 1 (.t 55) (.t 53))]) (.seq (oR [oC 57 .eql 8 7,oM 56 57] (oD 56 .skip (.reg [oC 58 .eql 8 9,oM 56 58]))) (oD 56 (.reg [oF 59 6 1,oL 60 59,oF 61 6 3,oW 61 60]) .skip)))))))))))))))))) (oR [oA 62 8 3,oV 8 2 62] .ret)))),[(.cell 2 true 8)],1,[]⟩
theorem TZ:bA Tryz.prog 256 sB:=okF Tryz.func256
def xC:qB:=⟨(oR [oZ 4 false] (oR [oM 5 0,oM 6 1,oC2 7 266 5 6,oC 8 .geq 7 0,oM 4 8] .ret)),[(.tmp 4)],2,[]⟩
theorem TJ:bA Tryz.prog 257 xC:=okF Tryz.func257
def cI:qB:=⟨(oR [oQ 4 8 0,oZ 5 false] (oR [oA 6 1 1,oL 7 2,oA 8 8 4,oL 9 3,oC4 10 227 6 7 8 9,oU 11 10,oM 5 11] .ret)),[(.tmp 5)],4,[]⟩
theorem XU:bA Tryz.prog 258 cI:=okF Tryz.func258
def MD:qB:=⟨(oR [oJ 4 0] (oR [oM 7 0,oC1 8 267 7,oM 5 8] (oR [oM 9 1,oC1 10 267 9,oM 6 10] (.seq (oR [oM 11 5] (oD 11 (.seq (oR [oM 12 6] (oD 12 (oR [oJ 4 0] .ret) .skip)) (oR [oJ 4 (-1)] .ret)) .skip)) (.seq (oR [oM 13 6] (oD 13 (oR [oJ 4 1] .ret) .skip)) (.seq (oR [oM 14 0,oM 15 1,oB 16 .lss 14 15] (oD 16 (oR [oJ 4 (-1)] .ret) .skip)) (.seq (oR [oM 17 0,oM 18 1,oB 19 .gtr 17 18] (oD 19 (oR [oJ 4 1] .ret) .skip)) (oR [oJ 4 0] .ret)))))))),[(.tmp 4)],2,[]⟩
theorem iP:bA Tryz.prog 259 MD:=okF Tryz.func259
def gG:qB:=⟨(oR [oS 2 (.mv (.c (.int .u64 0)))] (oR [oM 3 0,oS 4 (.conv (.some .u64) (.t 3)),oS 5 (.bin .shl false (.t 4) (.c (.int .u64 1))),oM 6 0,oS 7 (.bin .shr false (.t 6) (.c (.int .u64 63))),oS 8 (.conv (.some .u64) (.t 7)),oB 9 .xor 5 8,oM 2 9] .ret)),[(.tmp 2)],1,[]⟩
theorem CU:bA Tryz.prog 260 gG:=okF Tryz.func260
def BE:C:=oR [oB 9 .lss 8 7] (.seq (oD 9 .skip (.exit 0)) (.seq (.block 1 (oR [oI 10 1 6 8,oL 11 10,oM 5 11] (oR [oM 12 5,oM 13 3,oB 14 .neq 12 13] (oD 14 (oR [oM 15 5,oM 2 15] .ret) .skip)))) (.reg [oC 16 .add 8 1,oM 8 16])))
def WL:qB:=⟨(oR [oJ 2 0] (oR [oJ 3 0] (.seq (oR [oM 6 0,oH 7 6,oJ 8 0] (.block 0 (.loop BE))) (oR [oM 17 3,oM 2 17] .ret)))),[(.tmp 2)],1,[]⟩
theorem fZ:bA Tryz.prog 261 WL:=okF Tryz.func261
def dD:qB:=⟨(oR [oJ 4 0] (oR [oM 7 0,oC1 8 268 7,oM 5 8] (oR [oM 9 1,oC1 10 268 9,oM 6 10] (.seq (oR [oM 11 5] (oD 11 (.seq (oR [oM 12 6] (oD 12 (oR [oJ 4 0] .ret) .skip)) (oR [oJ 4 (-1)] .ret)) .skip)) (.seq (oR [oM 13 6] (oD 13 (oR [oJ 4 1] .ret) .skip)) (.seq (oR [oM 14 0,oM 15 1,oB 16 .lss 14 15] (oD 16 (oR [oJ 4 (-1)] .ret) .skip)) (.seq (oR [oM 17 0,oM 18 1,oB 19 .gtr 17 18] (oD 19 (oR [oJ 4 1] .ret) .skip)) (oR [oJ 4 0] .ret)))))))),[(.tmp 4)],2,[]⟩
theorem uP:bA Tryz.prog 262 dD:=okF Tryz.func262
def cC:C:=oR [oB 9 .lss 8 7] (.seq (oD 9 .skip (.exit 0)) (.seq (.block 1 (oR [oM 10 8,oM 5 10] (oR [oM 11 1,oM 12 0,oM 13 5,oI 14 8 12 13,oA 15 8 14,oS 16 (.callv .any (.t 11) [(.t 15)])] (oD 16 (oR [oM 17 5,oM 4 17] .ret) .skip)))) (.reg [oC 18 .add 8 1,oM 8 18])))
def pD:qB:=⟨(oR [oJ 4 0] (.seq (oR [oM 6 0,oH 7 6,oJ 8 0] (.block 0 (.loop cC))) (oR [oJ 4 (-1)] .ret))),[(.tmp 4)],2,[]⟩
theorem tL:bA Tryz.prog 266 pD:=okF Tryz.func266
def ZF:qB:=⟨(oR [oZ 2 false] (oR [oM 3 0,oM 4 0,oB 5 .neq 3 4,oM 2 5] .ret)),[(.tmp 2)],1,[]⟩
theorem JQ:bA Tryz.prog 267 ZF:=okF Tryz.func267
def LF:qB:=⟨(oR [oZ 2 false] (oR [oM 3 0,oM 4 0,oB 5 .neq 3 4,oM 2 5] .ret)),[(.tmp 2)],1,[]⟩
theorem HQ:bA Tryz.prog 268 LF:=okF Tryz.func268
section
def uR {α:Type} (f:(α->pA->Option RV)->Option RV):Prop:=(∀ k,f k=none)\/∃ e s',∀ k,f k=k e s'
def Det1 (f:(pA->Option RV)->Option RV):Prop:=(∀ k,f k=none)\/∃ s',∀ k,f k=k s'
theorem uR.bind {α β:Type} {f:(α->pA->Option RV)->Option RV} (h:uR f) {g:(β->pA->Option RV)->α->pA->Option RV} (hg:∀ e s,uR fun k=>g k e s):uR fun k=>f (g k):=by
 rcases h with h | ⟨e,s,h⟩
 ·exact .inl fun k=>h _
 ·rcases hg e s with h2 | ⟨e',s',h2⟩
  ·exact .inl fun k=>(h _).trans (h2 k)
  ·exact .inr ⟨e',s',fun k=>(h _).trans (h2 k)⟩
theorem uR.here {α:Type} (e:α) (s:pA):uR fun (k:α->pA->Option RV)=>k e s:=.inr ⟨e,s,fun _=>rfl⟩
theorem uR.no {α:Type}:uR fun (_:α->pA->Option RV)=>none:=.inl fun _=>rfl
def C.det:C->Bool
 | .seq a b=>a.det&&b.det
 | .reg ops=>ops.all fun o=>match o.op with | .nxt _=>false | _=>true
 | .cond _ a b=>a.det&&b.det
 | .block _ b=>b.det
 | .loop b=>b.det
 | _=>true
section
variable {call:iB} {lh:LH}
theorem det_hguard (s:pA) (d:Option Nat) (g:Option (Nat × Bool)) {a:(pA->Option RV)->Option RV} (ha:Det1 a):Det1 fun k=>IH s d g (a k) k:=by
 unfold IH;cases g with
 | none=>exact ha
 | some p =>
  obtain ⟨t,want⟩:=p;simp only;split
  ·split
   ·exact ha
   ·exact .inr ⟨_,fun _=>rfl⟩
  ·exact .inr ⟨_,fun _=>rfl⟩
  ·exact .inl fun _=>rfl
theorem det_hstep (hh:∀ f xs s,uR (lh.h f xs s)) (d:Option Nat) (nt:Nat) (x:JB) (xs:List JB) (s:pA):Det1 (cL lh d nt x xs s):=by
 unfold cL;split
 ·rcases hh _ (lP s xs++_) (s.enter nt) with h | ⟨y,s',h⟩
  ·exact .inl fun k=>h _
  ·exact .inr ⟨_,fun k=>h _⟩
 ·exact .inl fun _=>rfl
theorem det_stepK (hh:∀ f xs s,uR (lh.h f xs s)) (o:WA) (ho:(match o.op with | .nxt _=>false | _=>true)=true) (s:pA):Det1 (o.stepK call lh s):=by
 have hp:∀ (a:Option pA),Det1 fun k=>a.bind k:=fun a=>by
  cases a with
  | none=>exact .inl fun _=>rfl
  | some s'=>exact .inr ⟨s',fun _=>rfl⟩
 unfold WA.stepK;split
 ·exact det_hguard s _ _ (det_hstep hh _ _ _ _ s)
 ·rename_i h;rw [h] at ho;cases ho
 ·exact hp _
theorem det_ops (hh:∀ f xs s,uR (lh.h f xs s)):∀ (l:List WA) (hl:(l.all fun o=>match o.op with | .nxt _=>false | _=>true)=true) (s:pA),Det1 (SF call lh l s)
 | [],_,s=>.inr ⟨s,fun _=>rfl⟩
 | o :: r,hl,s=>by
  rw [List.all_cons,y9] at hl;rcases det_stepK (call:=call) hh o hl.1 s with h | ⟨s',h⟩
  ·exact .inl fun k=>h _
  ·rcases det_ops hh r hl.2 s' with h2 | ⟨s2,h2⟩
   ·exact .inl fun k=>(h _).trans (h2 k)
   ·exact .inr ⟨s2,fun k=>(h _).trans (h2 k)⟩
theorem rO (hl:∀ b,b.det=true->∀ s,uR (lh b s)) (hh:∀ f xs s,uR (lh.h f xs s)):∀ (c:C) (hc:c.det=true) (s:pA),uR (c.run call lh s)
 | .skip,_,s=>.inr ⟨.nrm,s,fun _=>rfl⟩
 | .exit id,_,s=>.inr ⟨.exit id,s,fun _=>rfl⟩
 | .ret,_,s=>.inr ⟨.ret,s,fun _=>rfl⟩
 | .seq a b,hc,s=>by
  simp only [C.det,y9] at hc;refine (rO hl hh a hc.1 s).bind (g:=fun k e s=>match e with | .nrm=>b.run call lh s k | e=>k e s) fun e s=>?_
  cases e with
  | nrm=>exact rO hl hh b hc.2 s
  | exit id=>exact uR.here _ _
  | ret=>exact uR.here _ _
 | .reg ops,hc,s=>by
  rcases det_ops (call:=call) hh ops hc s with h | ⟨s',h⟩
  ·exact .inl fun k=>h _
  ·exact .inr ⟨_,_,fun k=>h _⟩
 | .cond c t e,hc,s=>by
  simp only [C.det,y9] at hc;simp only [C.run];split
  ·split
   ·exact rO hl hh t hc.1 s
   ·exact rO hl hh e hc.2 s
  ·exact uR.no
 | .block id b,hc,s=>(rO hl hh b hc s).bind (g:=fun k e s=>match e with | .exit j=>if j=id then k .nrm s else k (.exit j) s | e=>k e s) fun e s=>by
  cases e with
  | nrm=>exact uR.here _ _
  | ret=>exact uR.here _ _
  | exit j =>
   simp only;split
   ·exact uR.here _ _
   ·exact uR.here _ _
 | .loop b,hc,s=>hl b hc s
end
section
variable {T:Nat->Option qB} {ext:iB}
theorem det_N (hD:∀ f c,T f=some c->c.code.det=true):∀ n,(∀ b,b.det=true->∀ s,uR (FJ T ext n b s))/\∀ f xs s,uR (wM T ext n f xs s)
 | 0=>⟨fun _ _ _=>.inl fun _=>rfl,fun _ _ _=>.inl fun _=>rfl⟩
 | n + 1=>by
  obtain ⟨h1,h2⟩:=det_N hD n;have hr:=rO (call:=jD T ext n) (lh:=⟨FJ T ext n,wM T ext n⟩) h1 h2;refine ⟨fun b hb s=>?_,fun f xs s=>?_⟩
  ·have:FJ T ext (n + 1) b s=fun k=>b.run (jD T ext n) ⟨FJ T ext n,wM T ext n⟩ s (HJ (FJ T ext n) b k):=by funext k; rw [FJ]
   rw [this];refine (hr b hb s).bind (g:=fun k=>HJ (FJ T ext n) b k) fun e s=>?_
   cases e with
   | nrm=>exact h1 b hb s
   | exit id=>exact uR.here _ _
   | ret=>exact uR.here _ _
  ·have:wM T ext (n + 1) f xs s=fun k=>match T f with | none=>none | some c=>if xs.length=c.np then c.code.run (jD T ext n) ⟨FJ T ext n,wM T ext n⟩ (s.initH xs) (FQ c k) else none:=by funext k; rw [wM]; rfl
   rw [this];cases hT:T f with
   | none=>exact uR.no
   | some c =>
    simp only;split
    ·refine (hr c.code (hD f c hT) _).bind (g:=fun k=>FQ c k) fun e s=>?_
     cases e with
     | exit id=>exact uR.no
     | nrm =>
      simp only [FQ];cases (PZ s c.res).bind QY with
      | none=>exact uR.no
      | some x=>exact uR.here _ _
     | ret =>
      simp only [FQ];cases (PZ s c.res).bind QY with
      | none=>exact uR.no
      | some x=>exact uR.here _ _
    ·exact uR.no
theorem run_reach (hD:∀ f c,T f=some c->c.code.det=true) {c:C} (hc:c.det=true) {s:pA} {F:Ex->pA->Prop} (h:∀ (k:Ex->pA->Option RV) (r:RV),(∀ e s',F e s'->k e s'=some r)->c.run (cE T ext) (BJ T ext) s k=some r):∃ e s',F e s'/\∀ (k:Ex->pA->Option RV) (r:RV),k e s'=some r->c.run (cE T ext) (BJ T ext) s k=some r:=by
 classical
 obtain ⟨m,hm⟩:=(OS c s (fun e s'=>if F e s' then some (default:RV) else none) default (fun _ e s'=>if F e s' then some (default:RV) else none) (fun e s' r' h'=>xB.now h') (h _ _ fun e s' hF=>if_pos hF)).some;obtain ⟨d1,d2⟩:=det_N (T:=T) (ext:=ext) hD m;rcases rO (call:=jD T ext m) (lh:=⟨FJ T ext m,wM T ext m⟩) d1 d2 c hc s with hd | ⟨e,s',hd⟩
 ·rw [hd] at hm;cases hm
 ·rw [hd] at hm;have hF:F e s':=by
   by_cases hF:F e s'
   ·exact hF
   ·rw [if_neg hF] at hm;cases hm
  refine ⟨e,s',hF,fun k r hk=>?_⟩;have hN:c.run (jD T ext m) ⟨FJ T ext m,wM T ext m⟩ s k=some r:=(hd k).trans hk;exact Exists.elim (GD (lpA:=⟨FJ T ext m,wM T ext m⟩) (callB:=fun _=>cE T ext) (IV:=fun _=>BJ T ext) (fun f args S r' h'=>xB.now (pF.2 ⟨m,h'⟩)) (fun f xs s1 k1 r1 km wb h1=>((pM m).2.2 f xs s1 k1 r1 km wb h1).imp fun m' bd=>pX.2 ⟨m',bd⟩) (fun b s1 k1 r1 km wb h1=>((pM m).2.1 b s1 k1 r1 km wb h1).imp fun m' bd=>aX.2 ⟨m',bd⟩) c s k r (fun _=>k) (fun e s' r' h'=>xB.now h') hN).some fun _ h'=>h'
theorem evC_reach {f:Nat} {args:List AV} {S0:Option AV} (hD:∀ f c,T f=some c->c.code.det=true) (c:qB) (hT:T f=some c) (hl:args.length=c.np) {F:Ex->pA->Prop} {P:RV->Prop} (h:∀ (k:Ex->pA->Option RV) (r:RV),(∀ e s',F e s'->k e s'=some r)->c.code.run (cE T ext) (BJ T ext) (pA.init args S0) k=some r) (hF:∀ e s',F e s'->∃ r,uO c S0 e s'=some r/\P r) (hm:OI args=false:=by rfl) (hS:noItO S0=true:=by rfl):∃ r,P r/\cE T ext f args S0=some r:=by
 obtain ⟨e,s',h1,h2⟩:=run_reach hD (hD f c hT) h;obtain ⟨r,h3,h4⟩:=hF e s' h1;exact ⟨r,h4,qM c hT hl (h2 _ _ h3) hm hS⟩
end
end
noncomputable def allL:List (Nat × qB):=[(11,LJ),(12,BC),(13,xL),(14,DB),(15,zL),(16,KJ),(17,ZJ),(18,CW),(21,XJ),(23,dG),(24,WN),(25,lR),(26,CJ),(27,kM),(28,zR),(29,jM),(32,QN),(33,gR),(34,gF),(35,qO),(40,jR),(41,dJ),(42,MK),(43,kR),(44,aK),(45,sR),(46,pH),(47,mP),(49,kJ),(50,XF),(51,mN),(52,TG),(53,ZO),(54,BI),(55,QS),(56,AC),(57,KD),(58,jF),(59,DG),(60,NI),(61,XM),(62,XO),(63,CM),(64,CO),(65,FH),(68,GH),(69,dE),(74,SK),(75,MB),(76,BO),(77,AA),(78,rB),(79,UD),(80,mS),(81,zM),(85,LO),(86,FI),(87,TL),(88,RK),(89,MM),(90,RL),(91,BM),(92,TK),(93,NM),(95,iG),(97,ZH),(98,fR),(99,qJ),(100,UL),(101,zV),(102,lV),(103,sE),(104,lM),(105,WK),(106,ZE),(107,eN),(108,nJ),(109,kD),(110,BH),(111,JO),(112,BW),(113,xR),(120,AK),(121,IK),(122,kI),(123,wJ),(127,PL),(128,EN),(129,iD),(130,PE),(131,qG),(132,rF),(133,wN),(134,jJ),(135,iC),(136,ZD),(137,zI),(140,qF),(141,OE),(142,FB),(143,aI),(144,IF),(145,XG),(146,eG),(147,qL),(149,CA),(150,HH),(151,nA),(154,xI),(155,wF),(156,wD),(157,XH),(158,XE),(159,LC),(160,NF),(171,uI),(172,eJ),(173,pG),(174,dH),(175,KH),(176,pJ),(177,EL),(178,PK),(179,KG),(180,QA),(181,IL),(182,iA),(184,OL),(185,qN),(189,KB),(191,UK),(192,ZC),(193,MF),(194,pI),(195,LA),(196,bD),(197,eC),(203,CG),(204,AF),(205,mA),(206,OF),(207,SA),(208,pB),(209,JH),(210,RE),(211,jI),(212,sI),(213,TE),(214,jH),(215,FK),(216,QF),(219,eF),(221,cA),(222,DK),(223,NB),(224,MI),(225,EK),(226,MN),(227,kA),(228,wG),(234,EE),(235,xH),(236,zH),(237,GB),(238,WC),(240,DL),(241,UC),(248,fH),(249,iI),(250,AL),(251,mJ),(252,FC),(253,XB),(254,aC),(255,MC),(256,sB),(257,xC),(258,cI),(259,MD),(260,gG),(261,WL),(262,dD),(266,pD),(267,ZF),(268,LF)]
noncomputable def dA (f:Nat):Option qB:=allL.lookup f
def okL:List (Nat × qB)->Prop
 | []=>True
 | x::r=>bA Tryz.prog x.1 x.2/\okL r
theorem okL_of:∀ {l:List (Nat × qB)},okL l->∀ {f:Nat} {c:qB},l.lookup f=some c->bA Tryz.prog f c
 | [],_,_,_,h=>by cases h
 | (g,d)::r,hl,f,c,h=>by
  rw [List.lookup_cons] at h;cases e:f==g with
  | true=>rw [e] at h;cases h;cases of_decide_eq_true e;exact hl.1
  | false=>rw [e] at h;exact okL_of hl.2 h
theorem mW (f:Nat) (c:qB) (h:dA f=some c):bA Tryz.prog f c:=okL_of (l:=allL) ⟨cO,nO,KP,zO,JP,xO,bO,M8,mO,PU,bT,jY,QO,CQ,kY,XQ,cT,dY,C8,N8,fY,mZ,Q4,gY,q9,ZX,uT,dW,fW,KQ,lT,NR,DU,BV,EZ,GJ,IM,lY,kL,JN,MR,FU,qS,GU,OM,PM,EU,aY,bZ,KU,tS,aW,WO,QZ,eR,SU,fN,kZ,CX,R4,jZ,W4,NX,E4,bU,iY,tY,eW,lZ,P4,b4,cU,BQ,LX,EO,S4,gW,lL,DM,xU,w9,zY,rY,wY,AU,rW,nZ,nT,LU,qR,wR,WZ,O4,sW,AM,SM,HU,BR,uW,TU,RU,pT,pW,tR,A4,OU,BX,I4,JU,wS,nY,sY,RO,lK,NQ,zU,tW,mU,aT,uY,iW,gZ,eY,MV,T4,zZ,cZ,xZ,U4,eS,qY,zK,MQ,WU,ZP,KN,rL,jW,mT,nU,jT,pY,gT,MX,qW,IU,UU,LQ,dT,mY,LP,pP,xY,bY,ZQ,wW,XX,B8,IZ,rR,NV,xT,zT,lW,zW,UZ,ZU,sT,QU,RZ,kW,QM,kK,rS,cY,TZ,TJ,XU,iP,CU,fZ,uP,tL,JQ,HQ,trivial⟩ h
theorem detL:∀ {l:List (Nat × qB)},(l.all fun p=>p.2.code.det)=true->∀ {f:Nat} {c:qB},l.lookup f=some c->c.code.det=true
 | [],_,_,_,h=>by cases h
 | (g,d)::r,hl,f,c,h=>by
  rw [List.all_cons,y9] at hl;rw [List.lookup_cons] at h;cases e:f==g with
  | true=>rw [e] at h;cases h;exact hl.1
  | false=>rw [e] at h;exact detL hl.2 h
theorem allT_det (f:Nat) (c:qB) (h:dA f=some c):c.code.det=true:=detL (l:=allL) (by kernel_rfl) h
section
mutual
def AV.beq:AV->AV->Bool
 | .int k n,.int k' n'=>decide (k=k')&&decide (n=n')
 | .bool a,.bool b=>a == b
 | .str a,.str b=>decide (a=b)
 | .nilP,.nilP=>true
 | .ptr t n o,.ptr t' n' o'=>Nat.beq t t'&&Nat.beq n n'&&Nat.beq o o'
 | .ip l,.ip m=>AV.beqL l m
 | .bp l,.bp m=>AV.beqL l m
 | .sl b l,.sl b' m=>(b == b')&&AV.beqLL l m
 | .bl l,.bl m=>AV.beqLL l m
 | .fn f l,.fn g m=>Nat.beq f g&&AV.beqL l m
 | .agg l,.agg m=>AV.beqL l m
 | .tup l,.tup m=>AV.beqL l m
 | .undef,.undef=>true
 | _,_=>false
def AV.beqL:List AV->List AV->Bool
 | [],[]=>true
 | x :: l,y :: m=>AV.beq x y&&AV.beqL l m
 | _,_=>false
def AV.beqLL:List (List AV)->List (List AV)->Bool
 | [],[]=>true
 | x :: l,y :: m=>AV.beqL x y&&AV.beqLL l m
 | _,_=>false
end
mutual
theorem AV.beq_eq:∀ (x y:AV),AV.beq x y=true->x=y
 | .int k n,y,h=>by cases y <;> simp [AV.beq] at h <;> simp [h]
 | .bool a,y,h=>by cases y <;> simp [AV.beq] at h <;> simp [h]
 | .str a,y,h=>by cases y <;> simp [AV.beq] at h <;> simp [h]
 | .nilP,y,h=>by cases y <;> simp [AV.beq] at h <;> rfl
 | .ptr t n o,y,h=>by cases y <;> simp [AV.beq] at h <;> simp [h]
 | .ip l,y,h=>by cases y <;> simp only [AV.beq] at h <;> first | cases h | rw [AV.beqL_eq l _ h]
 | .bp l,y,h=>by cases y <;> simp only [AV.beq] at h <;> first | cases h | rw [AV.beqL_eq l _ h]
 | .sl b l,y,h=>by
  cases y <;> simp only [AV.beq] at h <;> first | cases h | skip
  rw [y9] at h
  rw [AV.beqLL_eq l _ h.2,show b=_ from by simpa using h.1]
 | .bl l,y,h=>by cases y <;> simp only [AV.beq] at h <;> first | cases h | rw [AV.beqLL_eq l _ h]
 | .ref ..,y,h=>by cases y <;> simp [AV.beq] at h
 | .mp ..,y,h=>by cases y <;> simp [AV.beq] at h
 | .fn f l,y,h=>by
  cases y <;> simp only [AV.beq] at h <;> first | cases h | skip
  rw [y9] at h
  rw [AV.beqL_eq l _ h.2,show f=_ from by simpa using h.1]
 | .agg l,y,h=>by cases y <;> simp only [AV.beq] at h <;> first | cases h | rw [AV.beqL_eq l _ h]
 | .tup l,y,h=>by cases y <;> simp only [AV.beq] at h <;> first | cases h | rw [AV.beqL_eq l _ h]
 | .undef,y,h=>by cases y <;> simp [AV.beq] at h <;> rfl
theorem AV.beqL_eq:∀ (x y:List AV),AV.beqL x y=true->x=y
 | [],[],_=>rfl
 | [],_ :: _,h=>by simp [AV.beqL] at h
 | _ :: _,[],h=>by simp [AV.beqL] at h
 | x :: l,y :: m,h=>by
  simp only [AV.beqL,y9] at h
  rw [AV.beq_eq x y h.1,AV.beqL_eq l m h.2]
theorem AV.beqLL_eq:∀ (x y:List (List AV)),AV.beqLL x y=true->x=y
 | [],[],_=>rfl
 | [],_ :: _,h=>by simp [AV.beqLL] at h
 | _ :: _,[],h=>by simp [AV.beqLL] at h
 | x :: l,y :: m,h=>by
  simp only [AV.beqLL,y9] at h
  rw [AV.beqL_eq x y h.1,AV.beqLL_eq l m h.2]
end
def AV.beqO:Option AV->Option AV->Bool
 | none,none=>true
 | some x,some y=>AV.beq x y
 | _,_=>false
theorem AV.beqO_eq:∀ (x y:Option AV),AV.beqO x y=true->x=y
 | none,none,_=>rfl
 | none,some _,h=>by cases h
 | some _,none,h=>by cases h
 | some x,some y,h=>by rw [AV.beq_eq x y h]
structure ME where
 f:Nat
 args:List AV
 S:Option AV
 r:RV
def S8:List ME->iB
 | [],_,_,_=>none
 | e :: l,f,args,S=>if Nat.beq e.f f&&(AV.beqL e.args args&&AV.beqO e.S S) then some e.r else S8 l f args S
mutual
noncomputable def RS (M:List ME) (T:Nat->Option qB) (ext:iB):Nat->iB
 | 0,f,args,S0=>match T f with
  | none=>ext f args S0
  | some _=>none
 | n + 1,f,args,S0=>match S8 M f args S0 with
  | some r=>some r
  | none=>match T f with
   | none=>ext f args S0
   | some c=>match DP args,S0 with
    | some rest,some (.agg cs)=>if rest.length=c.np/\OI rest=false then c.code.run (RS M T ext n) ⟨lpM M T ext n,hpM M T ext n⟩ (pA.initR rest cs) (GL c cs.length) else none
    | some _,_=>none
    | none,_=>if args.length=c.np/\OI args=false/\noItO S0=true then c.code.run (RS M T ext n) ⟨lpM M T ext n,hpM M T ext n⟩ (pA.init args S0) (uO c S0) else none
noncomputable def lpM (M:List ME) (T:Nat->Option qB) (ext:iB):Nat->LpT
 | 0,_,_,_=>none
 | n + 1,b,s,k=>b.run (RS M T ext n) ⟨lpM M T ext n,hpM M T ext n⟩ s (HJ (lpM M T ext n) b k)
noncomputable def hpM (M:List ME) (T:Nat->Option qB) (ext:iB):Nat->HpT
 | 0,_,_,_,_=>none
 | n + 1,f,args,s,k=>match T f with
  | none=>none
  | some c=>if args.length=c.np then c.code.run (RS M T ext n) ⟨lpM M T ext n,hpM M T ext n⟩ (s.initH args) (FQ c k) else none
end
variable {T:Nat->Option qB} {ext:iB} {M:List ME}
def UA (T:Nat->Option qB) (ext:iB) (M:List ME):Prop:=∀ f args S r,S8 M f args S=some r->cE T ext f args S=some r
theorem M_late (hM:UA T ext M):∀ N,(∀ f args S r,RS M T ext N f args S=some r->xB fun m=>jD T ext m f args S=some r) ∧
  (∀ b s k r (km:Nat->Ex->pA->Option RV),(∀ e s' r',k e s'=some r'->xB fun m=>km m e s'=some r')->lpM M T ext N b s k=some r->xB fun m=>FJ T ext m b s (km m)=some r) ∧
  iV (hpM M T ext N) (wM T ext)
 | 0=>by
  refine ⟨fun f args S r h=>⟨0,fun m _=>?_⟩,fun b s k r km _ h=>(by cases h),fun f xs s k r km _ h=>(by cases h)⟩;unfold RS at h;cases hT:T f with
  | none=>rw [hT] at h; cases m <;> (unfold jD; rw [hT]; exact h)
  | some c=>rw [hT] at h; cases h
 | N + 1=>by
  obtain ⟨wo,dl,xo⟩:=M_late hM N;refine ⟨?_,?_,?_⟩
  ·intro f args S0 r h;unfold RS at h;cases hl:S8 M f args S0 with
   | some r' =>
    rw [hl] at h;injection h with h;subst h;exact PS f args S0 _ (hM f args S0 _ hl)
   | none =>
   rw [hl] at h;simp only at h;cases hT:T f with
   | none=>rw [hT] at h; exact ⟨0,fun m _=>by cases m <;> (unfold jD; rw [hT]; exact h)⟩
   | some c =>
    rw [hT] at h;cases hm:DP args with
    | some rest =>
     cases S0 with
     | none=>rw [hm] at h; cases h
     | some S =>
      cases S with
      | agg cs =>
       rw [hm] at h;simp only at h;split at h
       ·rename_i hl;refine xB.pred ((GD (lpA:=⟨lpM M T ext N,hpM M T ext N⟩) (IV:=fun m=>⟨FJ T ext m,wM T ext m⟩) wo xo dl c.code _ _ r (fun _=>GL c cs.length) (fun e s' r' h'=>xB.now h') h).imp fun m bd=>?_);unfold jD;rw [hT];simp only [hm];rw [if_pos hl];exact bd
       ·cases h
      | _=>rw [hm] at h; cases h
    | none =>
     rw [hm] at h;simp only at h;split at h
     ·rename_i hl;refine xB.pred ((GD (lpA:=⟨lpM M T ext N,hpM M T ext N⟩) (IV:=fun m=>⟨FJ T ext m,wM T ext m⟩) wo xo dl c.code _ _ r (fun _=>uO c S0) (fun e s' r' h'=>xB.now h') h).imp fun m bd=>?_);unfold jD;rw [hT];simp only [hm];rw [if_pos hl];exact bd
     ·cases h
  ·intro b s k r km hk h;unfold lpM at h;refine xB.pred ((GD (lpA:=⟨lpM M T ext N,hpM M T ext N⟩) (IV:=fun m=>⟨FJ T ext m,wM T ext m⟩) wo xo dl b s _ r (fun m=>HJ (FJ T ext m) b (km (m + 1))) (fun e s' r' h'=>?_) h).imp fun m hm=>?_)
   ·cases e with
    | nrm=>exact dl b s' k r' (fun m=>km (m + 1)) (fun e s'' r'' h''=>(hk e s'' r'' h'').succ) h'
    | exit id=>exact (hk _ _ _ h').succ
    | ret=>exact (hk _ _ _ h').succ
   ·unfold FJ;exact hm
  ·intro f xs s k r km hk h;unfold hpM at h;cases hT:T f with
   | none=>rw [hT] at h; cases h
   | some c =>
    rw [hT] at h;simp only at h;split at h
    ·rename_i hl;refine xB.pred ((GD (lpA:=⟨lpM M T ext N,hpM M T ext N⟩) (IV:=fun m=>⟨FJ T ext m,wM T ext m⟩) wo xo dl c.code _ _ r (fun m=>FQ c (km (m + 1))) (fun e s' r' h'=>?_) h).imp fun m hm=>?_)
     ·cases e with
      | exit id=>cases h'
      | nrm =>
       simp only [FQ] at h' ⊢;obtain ⟨y,hy,h'⟩:=yb.1 h';simp only [hy,V];exact (hk _ _ _ h').succ
      | ret =>
       simp only [FQ] at h' ⊢;obtain ⟨y,hy,h'⟩:=yb.1 h';simp only [hy,V];exact (hk _ _ _ h').succ
     ·unfold wM;rw [hT];simp only;rw [if_pos hl];exact hm
    ·cases h
theorem UA.nil:UA T ext []:=fun f args S r h=>by cases h
theorem UA.run (hM:UA T ext M) {f:Nat} {args:List AV} {S:Option AV} {r:RV} (N:Nat) (h:RS M T ext N f args S=some r):cE T ext f args S=some r:=by
 obtain ⟨m,hm⟩:=((M_late hM N).1 f args S r h).some;exact pF.2 ⟨m,hm⟩
theorem UA.cons (hM:UA T ext M) {e:ME} (h:cE T ext e.f e.args e.S=some e.r):UA T ext (e :: M):=fun f args S r hl=>by
 unfold S8 at hl;split at hl
 ·rename_i hc;simp only [y9] at hc;obtain ⟨h1,h2,h3⟩:=hc;injection hl with hl;have h1:e.f=f:=by simpa using h1
  rw [<- h1,<- AV.beqL_eq _ _ h2,<- AV.beqO_eq _ _ h3,<- hl];exact h
 ·exact hM f args S r hl
theorem UA.more (hM:UA T ext M) (N:Nat) (e:ME) (h:RS M T ext N e.f e.args e.S=some e.r):UA T ext (e :: M):=hM.cons (hM.run N h)
end
section
def putE (e:Nat->wA) (d:Nat) (x:wA):Nat->wA:=fun t=>if t=d then x else e t
theorem tG (e:Nat->wA) (d:Nat) (x:wA) (t:Nat):putE e d x t=if t=d then x else e t:=(rfl)
def FZ (m:Nat->Nat->Option (List wA)) (t n:Nat) (r:List wA):Nat->Nat->Option (List wA):=fun t' n'=>if t'=t/\n'=n then some r else m t' n'
theorem wB (m:Nat->Nat->Option (List wA)) (t n:Nat) (r:List wA) (t' n':Nat):FZ m t n r t' n'=if t'=t/\n'=n then some r else m t' n':=(rfl)
def setO (m:Nat->Nat->Option AV) (t n:Nat) (r:AV):Nat->Nat->Option AV:=fun t' n'=>if t'=t/\n'=n then some r else m t' n'
theorem setO_at (m:Nat->Nat->Option AV) (t n:Nat) (r:AV) (t' n':Nat):setO m t n r t' n'=if t'=t/\n'=n then some r else m t' n':=(rfl)
def wZ (k:Nat) (e:Nat->wA):Nat->wA:=fun t=>(e t).strip k
theorem F2 (k:Nat) (e:Nat->wA) (t:Nat):wZ k e t=(e t).strip k:=(rfl)
def eV (k:Nat) (m:Nat->Nat->Option (List wA)):Nat->Nat->Option (List wA):=fun t n=>(m t n).map (·.map (wA.strip k))
theorem G2 (k:Nat) (m:Nat->Nat->Option (List wA)) (t n:Nat):eV k m t n=(m t n).map (·.map (wA.strip k)):=(rfl)
theorem wA.strip_v (k:Nat) (x:wA):(x.strip k).v=x.v:=(rfl)
theorem wA.strip_a (k:Nat) (x:wA):(x.strip k).a=x.a.strip k:=(rfl)
theorem wA.strip_mk (k:Nat) (v:AV) (a:An):wA.strip k ⟨v,a⟩=⟨v,a.strip k⟩:=(rfl)
def argE (args:List AV):Nat->wA:=fun t=>⟨args.getD t .undef,.no⟩
theorem argE_at (args:List AV) (t:Nat):argE args t=⟨args.getD t .undef,.no⟩:=(rfl)
def noM:Nat->Nat->Option (List wA):=fun _ _=>none
theorem noM_at (t n:Nat):noM t n=none:=(rfl)
def objE (S0:Option AV):Nat->Nat->Option AV:=fun t n=>if t=0/\n=0 then S0 else none
theorem objE_at (S0:Option AV) (t n:Nat):objE S0 t n=if t=0/\n=0 then S0 else none:=(rfl)
def undE:Nat->wA:=fun _=>⟨.undef,.no⟩
theorem undE_at (t:Nat):undE t=⟨.undef,.no⟩:=(rfl)
theorem bind_some2 {α β:Type} (a:α) (f:α->Option β):(some a).bind f=f a:=(rfl)
theorem B4 {α β:Type} (f:α->β) (l:List α):(l.map f).take l.length=l.map f:=yC (by simp)
theorem m_init (args:List AV) (S0:Option AV):pA.init args S0=⟨argE args,noM,1,objE S0,undE⟩:=(rfl)
theorem m_put (s:pA) (d:Nat) (x:wA):s.put (some d) x=⟨putE s.env d x,s.mem,s.next,s.obj,s.gh⟩:=(rfl)
theorem m_put0 (s:pA) (x:wA):s.put none x=s:=(rfl)
theorem m_row (s:pA) (t n:Nat) (r:List wA):s.setRow t n r=⟨s.env,FZ s.mem t n r,s.next,s.obj,s.gh⟩:=(rfl)
theorem m_obj (s:pA) (t n:Nat) (r:AV):s.setObj t n r=⟨s.env,s.mem,s.next,setO s.obj t n r,s.gh⟩:=(rfl)
theorem m_strip (s:pA) (k:Nat):s.strip k=⟨wZ k s.env,eV k s.mem,s.next,s.obj,wZ k s.gh⟩:=(rfl)
theorem m_stripA (s:pA) (k:Nat) (e:TypeId):s.stripA (.own k e)=s.strip k:=(rfl)
theorem m_stripX (s:pA):s.stripA .ex=s:=(rfl)
def IX (t n:Nat) (e:Nat->wA):Nat->wA:=fun j=>(e j).kill t n
theorem eB (t n:Nat) (e:Nat->wA) (j:Nat):IX t n e j=(e j).kill t n:=(rfl)
def O1 (t n:Nat) (m:Nat->Nat->Option (List wA)):Nat->Nat->Option (List wA):=fun t' n'=>if t'=t/\n'=n then none else (m t' n').map (·.map (wA.kill t n))
theorem dB (t n:Nat) (m:Nat->Nat->Option (List wA)) (t' n':Nat):O1 t n m t' n'=if t'=t/\n'=n then none else (m t' n').map (·.map (wA.kill t n)):=(rfl)
theorem wA.kill_v (t n:Nat) (x:wA):(x.kill t n).v=x.v.kill t n:=(rfl)
theorem wA.kill_a (t n:Nat) (x:wA):(x.kill t n).a=x.a:=(rfl)
theorem wA.kill_mk (t n:Nat) (v:AV) (a:An):wA.kill t n ⟨v,a⟩=⟨v.kill t n,a⟩:=(rfl)
theorem m_kill (s:pA) (t n:Nat):s.killO (some (t,n))=⟨IX t n s.env,O1 t n s.mem,s.next,s.obj,IX t n s.gh⟩:=(rfl)
def rowE (cs:List AV):Nat->Nat->Option (List wA):=fun t n=>if t=0/\n=0 then some (cs.map fun v=>⟨v,tC v⟩) else none
theorem rowE_at (cs:List AV) (t n:Nat):rowE cs t n=if t=0/\n=0 then some (cs.map fun v=>⟨v,tC v⟩) else none:=(rfl)
theorem m_initR (args cs:List AV):pA.initR args cs=⟨argE args,rowE cs,1,objE none,undE⟩:=by
 have:objE none=fun _ _=>none:=by funext t n; simp [objE]
 rw [this];rfl
def drop0M (m:Nat->Nat->Option (List wA)):Nat->Nat->Option (List wA):=fun t n=>if t=0/\n=0 then none else m t n
theorem drop0M_at (m:Nat->Nat->Option (List wA)) (t n:Nat):drop0M m t n=if t=0/\n=0 then none else m t n:=(rfl)
theorem m_drop0 (s:pA):s.drop0=⟨s.env,drop0M s.mem,s.next,s.obj,s.gh⟩:=(rfl)
def slotE (xs:List wA):Nat->wA:=fun t=>xs.getD t ⟨.undef,.no⟩
theorem slotE_at (xs:List wA) (t:Nat):slotE xs t=xs.getD t ⟨.undef,.no⟩:=(rfl)
def N2 (nt:Nat) (e g:Nat->wA):Nat->wA:=fun t=>if t<nt then e t else g (t - nt)
theorem GE (nt:Nat) (e g:Nat->wA) (t:Nat):N2 nt e g t=if t<nt then e t else g (t - nt):=(rfl)
def backE (nt:Nat) (g:Nat->wA):Nat->wA:=fun t=>if t<nt then g t else ⟨.undef,.no⟩
theorem bN (nt:Nat) (g:Nat->wA) (t:Nat):backE nt g t=if t<nt then g t else ⟨.undef,.no⟩:=(rfl)
def SV (nt:Nat) (g:Nat->wA):Nat->wA:=fun t=>g (t + nt)
theorem j9 (nt:Nat) (g:Nat->wA) (t:Nat):SV nt g t=g (t + nt):=(rfl)
theorem m_initH (s:pA) (xs:List wA):s.initH xs=⟨slotE xs,s.mem,s.next,s.obj,s.gh⟩:=(rfl)
theorem m_enter (s:pA) (nt:Nat):s.enter nt=⟨s.env,s.mem,s.next + 1,s.obj,N2 nt s.env s.gh⟩:=(rfl)
theorem m_leave (s:pA) (nt:Nat):s.leave nt=⟨backE nt s.gh,s.mem,s.next,s.obj,SV nt s.gh⟩:=(rfl)
theorem m_kill0 (s:pA):s.killO none=s:=(rfl)
theorem UX {v:AV} (h:v.free0=true) (t n:Nat):v.kill0 t n=v:=by
 cases v <;> first | rfl | (simp [AV.free0] at h; done)
theorem E8 {cs:List AV} (h:cs.all AV.free0=true) (t n:Nat):cs.map (AV.kill0 t n)=cs:=by
 have h1:cs.map (AV.kill0 t n)=cs.map id:=yr fun x hx=>UX (y6.1 h x hx) t n
 rwa [List.map_id] at h1
theorem P1 {v:AV} (h:v.free=true) (t n:Nat):v.kill t n=v:=by
 cases v with
 | agg cs=>exact congrArg AV.agg (E8 h t n)
 | _=>first | rfl | (simp [AV.free,AV.free0] at h; done)
theorem frz0_free {s:pA} {v:AV} (h:v.free0=true):v.frz0 s=v:=by
 cases v <;> first | rfl | (simp [AV.free0] at h; done)
theorem frz_map {s:pA} {cs:List AV} (h:cs.all AV.free0=true):cs.map (AV.frz0 s)=cs:=by
 have h1:cs.map (AV.frz0 s)=cs.map id:=yr fun x hx=>frz0_free (y6.1 h x hx)
 rwa [List.map_id] at h1
theorem frz_free {s:pA} {v:AV} (h:v.free=true):v.frz s=v:=by
 cases v with
 | agg cs=>exact congrArg AV.agg (frz_map h)
 | _=>first | rfl | (simp [AV.free,AV.free0] at h; done)
section
variable {sz:Nat} {l:List (List AV)}
theorem NL (l m:List (List AV)):xA (l++m)=xA l++xA m:=by simp [xA]
theorem bK (h:lB sz l=true):(xA l).length=l.length * sz:=by
 induction l with
 | nil=>simp [xA]
 | cons c r ih =>
  rw [SR] at h;simp only [y9,decide_eq_true_eq] at h;have:=ih h.2;simp only [xA,yD,yM,yy,yq,yI] at this ⊢;rw [this,h.1,yA];omega
theorem qQ (h:lB sz l=true) {k:Nat} (hk:k<=l.length):xA l=xA (l.take k)++xA (l.drop k)/\(xA (l.take k)).length=k * sz:=by
 refine ⟨by rw [<- NL,List.take_append_drop],?_⟩;rw [bK (eX h k),yF,Nat.min_eq_left hk]
theorem rowOf_take (h:lB sz l=true) {k:Nat} (hk:k<=l.length):(xA l).take (k * sz)=xA (l.take k):=by
 obtain ⟨h1,h2⟩:=qQ h hk;rw [h1,<- h2,List.take_left]
theorem DY (h:lB sz l=true) {k:Nat} (hk:k<=l.length):(xA l).drop (k * sz)=xA (l.drop k):=by
 obtain ⟨h1,h2⟩:=qQ h hk;rw [h1,<- h2,List.drop_left]
theorem pS (c:List AV) (r:List (List AV)):xA (c :: r)=c.map (⟨·,.no⟩)++xA r:=by simp [xA]
theorem elsOk_get (h:lB sz l=true) {k:Nat} {c:List AV} (hk:l[k]?=some c):c.length=sz:=by
 simp only [lB,y6] at h;simpa using h c (yl hk)
theorem W9 (h:lB 1 l=true) {k:Nat} {x:AV} (hk:l[k]?=some [x]):(xA l)[k]?=some ⟨x,.no⟩:=by
 have fa:=(yf.1 hk).1;obtain ⟨h1,h2⟩:=qQ h (k:=k) (by omega);have hd:l.drop k=[x] :: l.drop (k + 1):=by rw [y8 fa,(yf.1 hk).2]
 rw [h1,yR (by omega),h2,hd,pS];simp
theorem E9 (h:lB 1 l=true) {k:Nat} {x:AV} (hk:l[k]?=some [x]) (sz:Nat):jB false sz k (xA l)=some ⟨x,.no⟩:=by
 simp only [jB,yt,if_false];exact W9 h hk
theorem K4 (h:lB 1 l=true) {k:Nat} (hk:k<l.length) {x:AV} (hx:x.leaf=true) (sz:Nat):EA false sz k (xA l) x .no=some (xA (l.set k [x])):=by
 have ia:=bK h;simp only [EA,yt,if_false];rw [if_pos ⟨hx,by omega⟩];congr 1;have e1:=rowOf_take h (k:=k) (by omega);have e2:=DY h (k:=k + 1) (by omega);simp only [Nat.mul_one] at e1 e2;rw [List.set_eq_take_append_cons_drop,if_pos (by omega),e1,e2,List.set_eq_take_append_cons_drop,if_pos hk,NL,pS];simp
theorem cB (z off:Nat) (r:List wA):jB false z off r=r[off]?:=by simp [jB]
theorem WB (z off:Nat) (x:wA) (r:List wA):jB true z off (x :: r)=if off + z<=(x :: r).length then some ⟨.agg ((((x :: r).drop off).take z).map (·.v)),.no⟩ else none:=by simp [jB]
theorem ZA (z off:Nat) (y:wA) (r:List wA) (x:AV) (a:An):EA false z off (y :: r) x a=if x.leaf/\off<(y :: r).length then some ((y :: r).set off ⟨x,a⟩) else none:=by simp [EA]
theorem XA (z off:Nat) (y:wA) (r:List wA) (cs:List AV) (a:An):EA true z off (y :: r) (.agg cs) a=if cs.length=z/\off + z<=(y :: r).length then some ((y :: r).take off++cs.map (⟨·,.no⟩)++(y :: r).drop (off + z)) else none:=by simp [EA]
def XD (l:List (List AV)):Bool:=l.all fun c=>c.all AV.free0
theorem tN {α:Type} (f:α->List AV) (l:List α) (h:∀ x,(f x).all AV.free0=true):XD (l.map f)=true:=by
 simp only [XD,List.all_map,y6];exact fun x _=>h x
theorem cK (h:lB sz l=true) (hf:XD l=true):DE (xA l) sz 0 l.length=some l:=by
 unfold DE;rw [if_pos]
 ·congr 1;refine List.ext_getElem (by simp) fun i h1 h2=>?_
  simp only [List.getElem_map,List.getElem_range,yG];rw [DY h (by omega),y8 h2,pS];have hc:=elsOk_get h (y5 h2);rw [<- hc,List.take_left' (by simp)];simp [Function.comp_def]
 ·refine ⟨by rw [bK h]; omega,?_⟩;simp only [xA,List.all_map,List.all_flatten,Function.comp_def];exact hf
end
section
variable {call:iB} {lp:LH} {T:Nat->Option qB} {ext:iB}
noncomputable def seqK (call:iB) (lp:LH) (b:C) (k:Ex->pA->Option RV):Ex->pA->Option RV:=fun e s=>match e with
 | .nrm=>b.run call lp s k
 | e=>k e s
def regK (k:Ex->pA->Option RV):pA->Option RV:=fun s=>k .nrm { s with next:=s.next + 1 }
noncomputable def opK (call:iB) (lp:LH) (r:List WA) (k:pA->Option RV):pA->Option RV:=fun s=>SF call lp r s k
def callK (d:Option Nat) (nt:Nat) (k:pA->Option RV):wA->pA->Option RV:=fun y s'=>k ((s'.leave nt).put d y)
def blkK (id:Nat) (k:Ex->pA->Option RV):Ex->pA->Option RV:=fun e s=>match e with
 | .exit j=>if j=id then k .nrm s else k (.exit j) s
 | e=>k e s
def C7 (v:AV) (a b:Option RV):Option RV:=match v with
 | .bool t=>if t then a else b
 | _=>none
def tU (v:AV) (w:Bool) (a b:Option pA):Option pA:=match v with
 | .bool t=>if t=w then a else b
 | .tup []=>b
 | _=>none
def uU (v:AV) (w:Bool) (a b:Option RV):Option RV:=match v with
 | .bool t=>if t=w then a else b
 | .tup []=>b
 | _=>none
def fnC (v:AV) (h:Nat->List AV->Option RV):Option RV:=match v with
 | .fn f cs=>h f cs
 | _=>none
variable (b c:C) (s:pA) (k:Ex->pA->Option RV) (j id:Nat)
theorem seqK_nrm:seqK call lp b k .nrm s=b.run call lp s k:=(rfl)
theorem seqK_exit:seqK call lp b k (.exit j) s=k (.exit j) s:=(rfl)
theorem seqK_ret:seqK call lp b k .ret s=k .ret s:=(rfl)
theorem regK_at:regK k s=k .nrm ⟨s.env,s.mem,s.next + 1,s.obj,s.gh⟩:=(rfl)
theorem opK_at (r:List WA) (k:pA->Option RV):opK call lp r k s=SF call lp r s k:=(rfl)
theorem callK_at (d:Option Nat) (nt:Nat) (k:pA->Option RV) (y:wA):callK d nt k y s=k ((s.leave nt).put d y):=(rfl)
theorem blkK_nrm:blkK id k .nrm s=k .nrm s:=(rfl)
theorem blkK_exit:blkK id k (.exit j) s=if j=id then k .nrm s else k (.exit j) s:=(rfl)
theorem blkK_ret:blkK id k .ret s=k .ret s:=(rfl)
theorem condC_true (x y:Option RV):C7 (.bool true) x y=x:=(rfl)
theorem B7 (x y:Option RV):C7 (.bool false) x y=y:=(rfl)
theorem l8 (t w:Bool) (x y:Option pA):tU (.bool t) w x y=if t=w then x else y:=(rfl)
theorem guardC_tup (w:Bool) (x y:Option pA):tU (.tup []) w x y=y:=(rfl)
theorem z8 (t w:Bool) (x y:Option RV):uU (.bool t) w x y=if t=w then x else y:=(rfl)
theorem guardK_tup (w:Bool) (x y:Option RV):uU (.tup []) w x y=y:=(rfl)
theorem fnC_fn (f:Nat) (cs:List AV) (h:Nat->List AV->Option RV):fnC (.fn f cs) h=h f cs:=(rfl)
theorem r_skip:C.run call lp .skip s k=k .nrm s:=(rfl)
theorem r_seq:C.run call lp (.seq b c) s k=b.run call lp s (seqK call lp c k):=(rfl)
theorem r_reg (ops:List WA):C.run call lp (.reg ops) s k=SF call lp ops s (regK k):=(rfl)
theorem r_cond (x:JB):C.run call lp (.cond x b c) s k=C7 (x.get s) (b.run call lp s k) (c.run call lp s k):=(rfl)
theorem r_block:C.run call lp (.block id b) s k=b.run call lp s (blkK id k):=(rfl)
theorem r_loop:C.run call (BJ T ext) (.loop b) s k=GG T ext b s k:=(rfl)
theorem r_exit:C.run call lp (.exit id) s k=k (.exit id) s:=(rfl)
theorem r_ret:C.run call lp .ret s k=k .ret s:=(rfl)
theorem a_nrm:HJ lp b k .nrm s=lp b s k:=(rfl)
theorem a_exit:HJ lp b k (.exit j) s=k (.exit j) s:=(rfl)
theorem a_ret:HJ lp b k .ret s=k .ret s:=(rfl)
theorem o_nil (k:pA->Option RV):SF call lp [] s k=k s:=(rfl)
theorem o_cons (o:WA) (r:List WA) (k:pA->Option RV):SF call lp (o :: r) s k=o.stepK call lp s (opK call lp r k):=(rfl)
theorem s_plain (d:Option Nat) (op:K):WA.step call ⟨d,op,none⟩ s=(op.run call s).bind (WA.eff ⟨d,op,none⟩ s):=(rfl)
theorem s_guard (d:Option Nat) (op:K) (t:Nat) (w:Bool):WA.step call ⟨d,op,some (t,w)⟩ s=tU (s.env t).v w ((op.run call s).bind (WA.eff ⟨d,op,none⟩ s)) (some (s.put d ⟨.tup [],.no⟩)):=by
 simp only [WA.step,tU];generalize (s.env t).v=v;cases v with
 | tup l=>cases l <;> rfl
 | _=>rfl
theorem k_callh (d:Option Nat) (nt:Nat) (x:JB) (xs:List JB) (g:Option (Nat × Bool)) (k:pA->Option RV):WA.stepK call lp ⟨d,.callh nt x xs,g⟩ s k=IH s d g (cL lp d nt x xs s k) k:=(rfl)
theorem hg_none (d:Option Nat) (a:Option RV) (k:pA->Option RV):IH s d none a k=a:=(rfl)
theorem hg_some (d:Option Nat) (t:Nat) (w:Bool) (a:Option RV) (k:pA->Option RV):IH s d (some (t,w)) a k=uU (s.env t).v w a (k (s.put d ⟨.tup [],.no⟩)):=by
 simp only [IH,uU];generalize (s.env t).v=v;cases v with
 | tup l=>cases l <;> rfl
 | _=>rfl
theorem h_step (d:Option Nat) (nt:Nat) (x:JB) (xs:List JB) (k:pA->Option RV):cL (BJ T ext) d nt x xs s k=fnC (x.get s) fun f cs=>evH T ext f (lP s xs++cs.map (⟨·,.no⟩)) (s.enter nt) (callK d nt k):=by
 simp only [cL,fnC];generalize x.get s=v;cases v <;> rfl
section
variable (d:Option Nat) (g:Option (Nat × Bool)) (k:pA->Option RV)
section
variable {x0}
include x0
theorem k_mv:WA.stepK call lp ⟨d,.mv x0,g⟩ s k=(WA.step call ⟨d,.mv x0,g⟩ s).bind k:=(rfl)
theorem k_pick {x1} {x2}:WA.stepK call lp ⟨d,.pick x0 x1 x2,g⟩ s k=(WA.step call ⟨d,.pick x0 x1 x2,g⟩ s).bind k:=(rfl)
theorem k_alloc:WA.stepK call lp ⟨d,.alloc x0,g⟩ s k=(WA.step call ⟨d,.alloc x0,g⟩ s).bind k:=(rfl)
theorem k_box {x1}:WA.stepK call lp ⟨d,.box x0 x1,g⟩ s k=(WA.step call ⟨d,.box x0 x1,g⟩ s).bind k:=(rfl)
theorem k_build {x1}:WA.stepK call lp ⟨d,.build x0 x1,g⟩ s k=(WA.step call ⟨d,.build x0 x1,g⟩ s).bind k:=(rfl)
theorem k_bsl {x1} {x2}:WA.stepK call lp ⟨d,.bsl x0 x1 x2,g⟩ s k=(WA.step call ⟨d,.bsl x0 x1 x2,g⟩ s).bind k:=(rfl)
theorem k_bslr {x1} {x2} {x3}:WA.stepK call lp ⟨d,.bslr x0 x1 x2 x3,g⟩ s k=(WA.step call ⟨d,.bslr x0 x1 x2 x3,g⟩ s).bind k:=(rfl)
theorem k_load {x1} {x2} {x3}:WA.stepK call lp ⟨d,.load x0 x1 x2 x3,g⟩ s k=(WA.step call ⟨d,.load x0 x1 x2 x3,g⟩ s).bind k:=(rfl)
theorem k_store {x1} {x2} {x3} {x4}:WA.stepK call lp ⟨d,.store x0 x1 x2 x3 x4,g⟩ s k=(WA.step call ⟨d,.store x0 x1 x2 x3 x4,g⟩ s).bind k:=(rfl)
theorem k_bin {x1} {x2} {x3}:WA.stepK call lp ⟨d,.bin x0 x1 x2 x3,g⟩ s k=(WA.step call ⟨d,.bin x0 x1 x2 x3,g⟩ s).bind k:=(rfl)
theorem k_mm {x1} {x2}:WA.stepK call lp ⟨d,.mm x0 x1 x2,g⟩ s k=(WA.step call ⟨d,.mm x0 x1 x2,g⟩ s).bind k:=(rfl)
theorem k_eqa {x1} {x2} {x3}:WA.stepK call lp ⟨d,.eqa x0 x1 x2 x3,g⟩ s k=(WA.step call ⟨d,.eqa x0 x1 x2 x3,g⟩ s).bind k:=(rfl)
theorem k_eqn {x1} {x2} {x3}:WA.stepK call lp ⟨d,.eqn x0 x1 x2 x3,g⟩ s k=(WA.step call ⟨d,.eqn x0 x1 x2 x3,g⟩ s).bind k:=(rfl)
theorem k_un {x1}:WA.stepK call lp ⟨d,.un x0 x1,g⟩ s k=(WA.step call ⟨d,.un x0 x1,g⟩ s).bind k:=(rfl)
theorem k_conv {x1}:WA.stepK call lp ⟨d,.conv x0 x1,g⟩ s k=(WA.step call ⟨d,.conv x0 x1,g⟩ s).bind k:=(rfl)
theorem k_rstr:WA.stepK call lp ⟨d,.rstr x0,g⟩ s k=(WA.step call ⟨d,.rstr x0,g⟩ s).bind k:=(rfl)
theorem k_bstr {x1}:WA.stepK call lp ⟨d,.bstr x0 x1,g⟩ s k=(WA.step call ⟨d,.bstr x0 x1,g⟩ s).bind k:=(rfl)
theorem k_mks {x1} {x2} {x3} {x4}:WA.stepK call lp ⟨d,.mks x0 x1 x2 x3 x4,g⟩ s k=(WA.step call ⟨d,.mks x0 x1 x2 x3 x4,g⟩ s).bind k:=(rfl)
theorem k_slc {x1} {x2} {x3} {x4} {x5}:WA.stepK call lp ⟨d,.slc x0 x1 x2 x3 x4 x5,g⟩ s k=(WA.step call ⟨d,.slc x0 x1 x2 x3 x4 x5,g⟩ s).bind k:=(rfl)
theorem k_aslc {x1} {x2} {x3} {x4} {x5}:WA.stepK call lp ⟨d,.aslc x0 x1 x2 x3 x4 x5,g⟩ s k=(WA.step call ⟨d,.aslc x0 x1 x2 x3 x4 x5,g⟩ s).bind k:=(rfl)
theorem k_faddr {x1}:WA.stepK call lp ⟨d,.faddr x0 x1,g⟩ s k=(WA.step call ⟨d,.faddr x0 x1,g⟩ s).bind k:=(rfl)
theorem k_field {x1} {x2} {x3}:WA.stepK call lp ⟨d,.field x0 x1 x2 x3,g⟩ s k=(WA.step call ⟨d,.field x0 x1 x2 x3,g⟩ s).bind k:=(rfl)
theorem k_iaddr {x1} {x2}:WA.stepK call lp ⟨d,.iaddr x0 x1 x2,g⟩ s k=(WA.step call ⟨d,.iaddr x0 x1 x2,g⟩ s).bind k:=(rfl)
theorem k_aaddr {x1} {x2} {x3}:WA.stepK call lp ⟨d,.aaddr x0 x1 x2 x3,g⟩ s k=(WA.step call ⟨d,.aaddr x0 x1 x2 x3,g⟩ s).bind k:=(rfl)
theorem k_index {x1}:WA.stepK call lp ⟨d,.index x0 x1,g⟩ s k=(WA.step call ⟨d,.index x0 x1,g⟩ s).bind k:=(rfl)
theorem k_ext {x1}:WA.stepK call lp ⟨d,.ext x0 x1,g⟩ s k=(WA.step call ⟨d,.ext x0 x1,g⟩ s).bind k:=(rfl)
theorem k_call {x1} {x2}:WA.stepK call lp ⟨d,.call x0 x1 x2,g⟩ s k=(WA.step call ⟨d,.call x0 x1 x2,g⟩ s).bind k:=(rfl)
theorem k_callf {x1} {x2} {x3}:WA.stepK call lp ⟨d,.callf x0 x1 x2 x3,g⟩ s k=(WA.step call ⟨d,.callf x0 x1 x2 x3,g⟩ s).bind k:=(rfl)
theorem k_mkf {x1}:WA.stepK call lp ⟨d,.mkf x0 x1,g⟩ s k=(WA.step call ⟨d,.mkf x0 x1,g⟩ s).bind k:=(rfl)
theorem k_callv {x1} {x2}:WA.stepK call lp ⟨d,.callv x0 x1 x2,g⟩ s k=(WA.step call ⟨d,.callv x0 x1 x2,g⟩ s).bind k:=(rfl)
theorem k_callr {x1} {x2}:WA.stepK call lp ⟨d,.callr x0 x1 x2,g⟩ s k=(WA.step call ⟨d,.callr x0 x1 x2,g⟩ s).bind k:=(rfl)
theorem k_len {x1}:WA.stepK call lp ⟨d,.len x0 x1,g⟩ s k=(WA.step call ⟨d,.len x0 x1,g⟩ s).bind k:=(rfl)
theorem k_app {x1} {x2} {x3} {x4} {x5}:WA.stepK call lp ⟨d,.app x0 x1 x2 x3 x4 x5,g⟩ s k=(WA.step call ⟨d,.app x0 x1 x2 x3 x4 x5,g⟩ s).bind k:=(rfl)
theorem k_appf {x1} {x2} {x3} {x4} {x5}:WA.stepK call lp ⟨d,.appf x0 x1 x2 x3 x4 x5,g⟩ s k=(WA.step call ⟨d,.appf x0 x1 x2 x3 x4 x5,g⟩ s).bind k:=(rfl)
theorem k_appm {x1} {x2} {x3} {x4} {x5}:WA.stepK call lp ⟨d,.appm x0 x1 x2 x3 x4 x5,g⟩ s k=(WA.step call ⟨d,.appm x0 x1 x2 x3 x4 x5,g⟩ s).bind k:=(rfl)
theorem k_appn {x1} {x2} {x3} {x4} {x5}:WA.stepK call lp ⟨d,.appn x0 x1 x2 x3 x4 x5,g⟩ s k=(WA.step call ⟨d,.appn x0 x1 x2 x3 x4 x5,g⟩ s).bind k:=(rfl)
end
theorem k_mkm:WA.stepK call lp ⟨d,.mkm,g⟩ s k=(WA.step call ⟨d,.mkm,g⟩ s).bind k:=(rfl)
theorem k_bad:WA.stepK call lp ⟨d,.bad,g⟩ s k=(WA.step call ⟨d,.bad,g⟩ s).bind k:=(rfl)
theorem k_mkb {T e:TypeId}:WA.stepK call lp ⟨d,.mkb T e,g⟩ s k=(WA.step call ⟨d,.mkb T e,g⟩ s).bind k:=(rfl)
theorem k_mget {x0} {x1} {x2} {x3} {x4}:WA.stepK call lp ⟨d,.mget x0 x1 x2 x3 x4,g⟩ s k=(WA.step call ⟨d,.mget x0 x1 x2 x3 x4,g⟩ s).bind k:=(rfl)
theorem k_mset {x0} {x1} {x2} {x3}:WA.stepK call lp ⟨d,.mset x0 x1 x2 x3,g⟩ s k=(WA.step call ⟨d,.mset x0 x1 x2 x3,g⟩ s).bind k:=(rfl)
theorem k_mlen {x0}:WA.stepK call lp ⟨d,.mlen x0,g⟩ s k=(WA.step call ⟨d,.mlen x0,g⟩ s).bind k:=(rfl)
theorem k_rng {x0}:WA.stepK call lp ⟨d,.rng x0,g⟩ s k=(WA.step call ⟨d,.rng x0,g⟩ s).bind k:=(rfl)
theorem k_slz {x0}:WA.stepK call lp ⟨d,.slz x0,g⟩ s k=(WA.step call ⟨d,.slz x0,g⟩ s).bind k:=(rfl)
theorem k_ent {x0}:WA.stepK call lp ⟨d,.ent x0,g⟩ s k=(WA.step call ⟨d,.ent x0,g⟩ s).bind k:=(rfl)
theorem k_nxt {x0}:WA.stepK call lp ⟨d,.nxt x0,g⟩ s k=IH s d g (HP d x0 s k) k:=(rfl)
theorem k_nilchk {x0}:WA.stepK call lp ⟨d,.nilchk x0,g⟩ s k=(WA.step call ⟨d,.nilchk x0,g⟩ s).bind k:=(rfl)
end
theorem e_none (d:Option Nat) (op:K) (g:Option (Nat × Bool)) (x:wA):WA.eff ⟨d,op,g⟩ s (x,.none)=some (s.put d x):=(rfl)
theorem e_set (d:Option Nat) (op:K) (g:Option (Nat × Bool)) (x:wA) (t n:Nat) (r:List wA):WA.eff ⟨d,op,g⟩ s (x,.set t n r)=some ((s.setRow t n r).put d x):=(rfl)
theorem e_newp (d:Nat) (op:K) (g:Option (Nat × Bool)) (t n o:Nat) (a:An) (r:List wA):WA.eff ⟨some d,op,g⟩ s (⟨.ptr t n o,a⟩,.new r)=some ((s.setRow d s.next r).put (some d) ⟨.ptr d s.next 0,.no⟩):=(rfl)
theorem e_newr (d:Nat) (op:K) (g:Option (Nat × Bool)) (t n z o l p:Nat) (a:An) (r:List wA):WA.eff ⟨some d,op,g⟩ s (⟨.ref t n z o l p,a⟩,.new r)=some ((s.setRow d s.next r).put (some d) ⟨.ref d s.next z o l p,.no⟩):=(rfl)
theorem e_app (d:Nat) (op:K) (g:Option (Nat × Bool)) (v:AV) (a:An) (kk j:Nat) (e:TypeId):WA.eff ⟨some d,op,g⟩ s (⟨v,.own kk e⟩,.app a j)=some (((s.stripA a).strip d).put (some d) ⟨v,.own d e⟩):=(rfl)
theorem e_obj (d:Option Nat) (op:K) (g:Option (Nat × Bool)) (x:wA) (t n:Nat) (S:AV):WA.eff ⟨d,op,g⟩ s (x,.obj t n S)=some ((s.setObj t n S).put d x):=(rfl)
theorem e_mk (d:Nat) (op:K) (g:Option (Nat × Bool)) (x:wA) (S:AV):WA.eff ⟨some d,op,g⟩ s (x,.mk S)=some ((s.setObj d s.next S).put (some d) ⟨x.v.named d s.next,.no⟩):=(rfl)
theorem e_rn (d:Nat) (op:K) (g:Option (Nat × Bool)) (t n z o l p:Nat) (a:An) (q:Option (Nat × Nat)) (r:List wA):WA.eff ⟨some d,op,g⟩ s (⟨.ref t n z o l p,a⟩,.rn q r)=some (((s.killO q).setRow d s.next r).put (some d) ⟨.ref d s.next z o l p,.no⟩):=(rfl)
theorem e_ob2 (d:Nat) (op:K) (g:Option (Nat × Bool)) (t n z o l p:Nat) (a:An) (t' n':Nat) (S:AV) (r:List wA):WA.eff ⟨some d,op,g⟩ s (⟨.ref t n z o l p,a⟩,.ob2 t' n' S r)=some (((s.setObj t' n' S).setRow d s.next r).put (some d) ⟨.ref d s.next z o l p,.no⟩):=(rfl)
theorem run_cg {b:C} {s s':pA} {k:Ex->pA->Option RV} (h:s=s'):C.run call lp b s k=C.run call lp b s' k:=by rw [h]
theorem ops_cg {l:List WA} {s s':pA} {k:pA->Option RV} (h:s=s'):SF call lp l s k=SF call lp l s' k:=by rw [h]
theorem stepK_cg {o:WA} {s s':pA} {k:pA->Option RV} (h:s=s'):WA.stepK call lp o s k=WA.stepK call lp o s' k:=by rw [h]
theorem bind_cg {α β:Type} {a a':Option α} {f:α->Option β} (h:a=a'):a.bind f=a'.bind f:=by rw [h]
theorem condC_cg {v v':AV} {a b:Option RV} (h:v=v'):C7 v a b=C7 v' a b:=by rw [h]
theorem guardC_cg {v v':AV} {w:Bool} {a b:Option pA} (h:v=v'):tU v w a b=tU v' w a b:=by rw [h]
theorem guardK_cg {v v':AV} {w:Bool} {a b:Option RV} (h:v=v'):uU v w a b=uU v' w a b:=by rw [h]
theorem fnC_cg {v v':AV} {g:Nat->List AV->Option RV} (h:v=v'):fnC v g=fnC v' g:=by rw [h]
theorem evL_cg {T:Nat->Option qB} {ext:iB} {b:C} {s s':pA} {k:Ex->pA->Option RV} (h:s=s'):GG T ext b s k=GG T ext b s' k:=by rw [h]
theorem evH_cg {T:Nat->Option qB} {ext:iB} {f:Nat} {xs gj:List wA} {s s':pA} {k:wA->pA->Option RV} (hx:xs=gj) (h:s=s'):evH T ext f xs s k=evH T ext f gj s' k:=by rw [h,hx]
end
attribute [congr] run_cg ops_cg stepK_cg bind_cg condC_cg guardC_cg guardK_cg fnC_cg evL_cg evH_cg
attribute [simp] k_rng k_slz k_ent k_nxt k_bad k_mkb k_mv k_pick k_alloc k_box k_build k_bsl k_bslr k_load k_store k_bin k_mm k_eqa k_eqn k_un k_conv k_rstr k_bstr k_mks k_slc k_aslc k_faddr k_field k_iaddr k_aaddr k_index k_ext k_call k_callf k_mkf k_callv k_callr k_callh k_len k_app k_appf k_appm k_appn k_mkm k_mget k_mset k_mlen k_nilchk z8 guardK_tup fnC_fn hg_none hg_some h_step opK_at callK_at undE_at rowE_at drop0M_at slotE_at GE bN j9 m_initH m_enter m_leave m_initR m_drop0
attribute [simp] tG wB setO_at F2 G2 wA.strip_v wA.strip_a wA.strip_mk argE_at noM_at objE_at eB dB wA.kill_v wA.kill_a wA.kill_mk
attribute [simp] e_ob2 frz_free frz_map AV.frz AV.frz0 P1 E8 AV.kill AV.kill0 m_kill m_kill0 e_rn m_init m_put m_put0 m_row m_obj m_strip m_stripA m_stripX An.strip e_none e_set e_newp e_newr e_app e_obj e_mk K.run JB.get EA AV.leaf AV.whole AV.cells ZT mmC gL rT jB zG Cl.okPtr Cl.okMem AS uO sX objAt DJ RT AV.free AV.free0 AV.back AV.backN AV.isObj AV.named cW bE GF nD PP AV.capOk MS RJ QJ AV.elems JB.an tC elsOk_nil SR G3 lC eX elsOk_drop B4
attribute [simp ↓] bind_some2 seqK_nrm seqK_exit seqK_ret regK_at blkK_nrm blkK_exit blkK_ret condC_true B7 l8 guardC_tup r_skip r_seq r_reg r_cond r_block r_loop r_exit r_ret a_nrm a_exit a_ret o_nil o_cons s_plain s_guard
end
def eA:iB:=fun _ _ _=>none
theorem XT {O:rH} (f:FuncId) (args:List AV) (S:Option AV) (r:RV) (h:eA f args S=some r):aD Tryz.prog O f args S r:=by cases h
abbrev i6 (n:Int):AV:=.int .i64 n
abbrev f6:AV:=.bool false
abbrev t6:AV:=.bool true
abbrev n6:AV:=.sl true []
abbrev e6:AV:=.str ⟨#[]⟩
abbrev i0:AV:=.int .i64 0
def awkh_M0:List ME:=[]
theorem awkh_k0:UA dA eA awkh_M0:=UA.nil
abbrev va:AV:=(.sl false [[(i6 5),(.str (.mk #[82])),i0,i0,i0,n6,(.sl false [[(i6 1),(.str (.mk #[120])),(i6 1),f6,t6,(i6 1),t6,i0,e6,i0,n6,n6,n6]]),i0,i0,f6],[(i6 1),e6,i0,i0,i0,n6,n6,i0,i0,f6]])
abbrev vc:AV:=(.sl false [[(i6 5),(.str (.mk #[82])),i0,i0,i0,n6,(.sl false [[(i6 1),(.str (.mk #[120])),(i6 1),f6,t6,(i6 1),f6,i0,e6,i0,n6,n6,n6]]),i0,i0,f6],[(i6 1),e6,i0,i0,i0,n6,n6,i0,i0,f6]])
abbrev vf:AV:=(.sl false [[(i6 5),(.str (.mk #[82])),i0,i0,i0,n6,n6,i0,i0,f6],[(i6 1),e6,i0,i0,i0,n6,n6,i0,i0,f6]])
abbrev vg:AV:=(.sl false [[(.sl false [[t6],[t6],[f6]])],[(.sl false [[t6],[t6],[t6]])],[(.sl false [[f6],[t6],[t6]])]])
abbrev vh:AV:=(.agg [vf,i0])
abbrev vj:AV:=(.agg [vc,i0])
abbrev vl:AV:=(.agg [va,i0])
abbrev vm:AV:=(.agg [vc])
abbrev vn:AV:=(.agg [va])
abbrev vo:AV:=(.tup [(.sl false [[i0,i0]]),(.sl false [[(i6 (-1))]])])
abbrev vp:AV:=(.tup [(.sl false [[i0,i0],[(i6 1),(i6 1)]]),(.sl false [[(i6 (-1))],[i0]])])
abbrev vq:AV:=(.agg [vf])
abbrev vt:AV:=(.tup [n6,i0,(i6 15)])
abbrev vu:AV:=(.sl false [[va,i0],[vf,i0],[vc,i0]])
abbrev vv:AV:=(.tup [t6,i0])
abbrev vz:AV:=(.sl false [[(i6 1),(i6 1)]])
def awkh_M1:List ME:=⟨102,[t6,t6],none,(vl,none)⟩ :: awkh_M0
theorem awkh_k1:UA dA eA awkh_M1:=awkh_k0.more 3000 _ (by kernel_rfl)
def awkh_M2:List ME:=⟨102,[f6,f6],none,(vh,none)⟩ :: awkh_M1
theorem awkh_k2:UA dA eA awkh_M2:=awkh_k1.more 3000 _ (by kernel_rfl)
def awkh_M3:List ME:=⟨102,[t6,f6],none,(vj,none)⟩ :: awkh_M2
theorem awkh_k3:UA dA eA awkh_M3:=awkh_k2.more 3000 _ (by kernel_rfl)
def awkh_M4:List ME:=⟨203,[vn],none,(i0,none)⟩ :: awkh_M3
theorem awkh_k4:UA dA eA awkh_M4:=awkh_k3.more 3000 _ (by kernel_rfl)
def awkh_M5:List ME:=⟨204,[vn],none,((.tup [i0,i0,i0]),none)⟩ :: awkh_M4
theorem awkh_k5:UA dA eA awkh_M5:=awkh_k4.more 3000 _ (by kernel_rfl)
def awkh_M6:List ME:=⟨173,[vn],none,(i0,none)⟩ :: awkh_M5
theorem awkh_k6:UA dA eA awkh_M6:=awkh_k5.more 3000 _ (by kernel_rfl)
def awkh_M7:List ME:=⟨174,[vn],none,((.sl false [[(i6 2)],[(i6 2)]]),none)⟩ :: awkh_M6
theorem awkh_k7:UA dA eA awkh_M7:=awkh_k6.more 3000 _ (by kernel_rfl)
def awkh_M8:List ME:=⟨144,[vn],none,((.tup [(.sl false [[t6],[t6]]),i0]),none)⟩ :: awkh_M7
theorem awkh_k8:UA dA eA awkh_M8:=awkh_k7.more 3000 _ (by kernel_rfl)
def awkh_M9:List ME:=⟨95,[vn],none,(i0,none)⟩ :: awkh_M8
theorem awkh_k9:UA dA eA awkh_M9:=awkh_k8.more 3000 _ (by kernel_rfl)
def I5:List ME:=⟨203,[vq],none,(i0,none)⟩ :: awkh_M9
theorem awkh_k10:UA dA eA I5:=awkh_k9.more 3000 _ (by kernel_rfl)
def O5:List ME:=⟨204,[vq],none,((.tup [i0,i0,i0]),none)⟩ :: I5
theorem awkh_k11:UA dA eA O5:=awkh_k10.more 3000 _ (by kernel_rfl)
def A5:List ME:=⟨173,[vq],none,(i0,none)⟩ :: O5
theorem awkh_k12:UA dA eA A5:=awkh_k11.more 3000 _ (by kernel_rfl)
def S5:List ME:=⟨174,[vq],none,((.sl false [[(i6 1)],[(i6 2)]]),none)⟩ :: A5
theorem awkh_k13:UA dA eA S5:=awkh_k12.more 3000 _ (by kernel_rfl)
def D5:List ME:=⟨144,[vq],none,((.tup [(.sl false [[t6],[t6]]),i0]),none)⟩ :: S5
theorem awkh_k14:UA dA eA D5:=awkh_k13.more 3000 _ (by kernel_rfl)
def F5:List ME:=⟨95,[vq],none,(i0,none)⟩ :: D5
theorem awkh_k15:UA dA eA F5:=awkh_k14.more 3000 _ (by kernel_rfl)
def G5:List ME:=⟨203,[vm],none,(i0,none)⟩ :: F5
theorem awkh_k16:UA dA eA G5:=awkh_k15.more 3000 _ (by kernel_rfl)
def H5:List ME:=⟨204,[vm],none,((.tup [i0,i0,i0]),none)⟩ :: G5
theorem awkh_k17:UA dA eA H5:=awkh_k16.more 3000 _ (by kernel_rfl)
def J5:List ME:=⟨173,[vm],none,(i0,none)⟩ :: H5
theorem awkh_k18:UA dA eA J5:=awkh_k17.more 3000 _ (by kernel_rfl)
def K5:List ME:=⟨174,[vm],none,((.sl false [[(i6 2)],[(i6 2)]]),none)⟩ :: J5
theorem awkh_k19:UA dA eA K5:=awkh_k18.more 3000 _ (by kernel_rfl)
def L5:List ME:=⟨144,[vm],none,((.tup [(.sl false [[t6],[t6]]),i0]),none)⟩ :: K5
theorem awkh_k20:UA dA eA L5:=awkh_k19.more 3000 _ (by kernel_rfl)
def Z5:List ME:=⟨95,[vm],none,(i0,none)⟩ :: L5
theorem awkh_k21:UA dA eA Z5:=awkh_k20.more 3000 _ (by kernel_rfl)
def X5:List ME:=⟨103,[vu],none,(i0,none)⟩ :: Z5
theorem awkh_k22:UA dA eA X5:=awkh_k21.more 3000 _ (by kernel_rfl)
def C5:List ME:=⟨79,[vn,i0,vn,i0],none,(vz,none)⟩ :: X5
theorem awkh_k23:UA dA eA C5:=awkh_k22.more 3000 _ (by kernel_rfl)
def B5:List ME:=⟨79,[vn,(i6 1),vn,(i6 1)],none,(n6,none)⟩ :: C5
theorem awkh_k24:UA dA eA B5:=awkh_k23.more 3000 _ (by kernel_rfl)
def N5:List ME:=⟨81,[vl,vl],none,(vp,none)⟩ :: B5
theorem awkh_k25:UA dA eA N5:=awkh_k24.more 3000 _ (by kernel_rfl)
def M5:List ME:=⟨77,[vn,i0,vn,i0],none,(i0,none)⟩ :: N5
theorem awkh_k26:UA dA eA M5:=awkh_k25.more 3000 _ (by kernel_rfl)
def r6:List ME:=⟨77,[vn,(i6 1),vn,(i6 1)],none,(i0,none)⟩ :: M5
theorem awkh_k27:UA dA eA r6:=awkh_k26.more 3000 _ (by kernel_rfl)
def u6:List ME:=⟨32,[vl,vl],none,(vt,none)⟩ :: r6
theorem awkh_k28:UA dA eA u6:=awkh_k27.more 3000 _ (by kernel_rfl)
def p6:List ME:=⟨21,[vl,vl],none,(vv,none)⟩ :: u6
theorem awkh_k29:UA dA eA p6:=awkh_k28.more 3000 _ (by kernel_rfl)
def a6:List ME:=⟨79,[vn,i0,vq,i0],none,(n6,none)⟩ :: p6
theorem awkh_k30:UA dA eA a6:=awkh_k29.more 3000 _ (by kernel_rfl)
def s6:List ME:=⟨81,[vl,vh],none,(vo,none)⟩ :: a6
theorem awkh_k31:UA dA eA s6:=awkh_k30.more 3000 _ (by kernel_rfl)
def d6:List ME:=⟨77,[vn,i0,vq,i0],none,(i0,none)⟩ :: s6
theorem awkh_k32:UA dA eA d6:=awkh_k31.more 3000 _ (by kernel_rfl)
def j6:List ME:=⟨32,[vl,vh],none,(vt,none)⟩ :: d6
theorem awkh_k33:UA dA eA j6:=awkh_k32.more 3000 _ (by kernel_rfl)
def z6:List ME:=⟨21,[vl,vh],none,(vv,none)⟩ :: j6
theorem awkh_k34:UA dA eA z6:=awkh_k33.more 3000 _ (by kernel_rfl)
def x6:List ME:=⟨79,[vn,i0,vm,i0],none,(vz,none)⟩ :: z6
theorem awkh_k35:UA dA eA x6:=awkh_k34.more 3000 _ (by kernel_rfl)
def b6:List ME:=⟨79,[vn,(i6 1),vm,(i6 1)],none,(n6,none)⟩ :: x6
theorem awkh_k36:UA dA eA b6:=awkh_k35.more 3000 _ (by kernel_rfl)
def Q6:List ME:=⟨81,[vl,vj],none,(vp,none)⟩ :: b6
theorem awkh_k37:UA dA eA Q6:=awkh_k36.more 3000 _ (by kernel_rfl)
def W6:List ME:=⟨77,[vn,i0,vm,i0],none,((i6 10),none)⟩ :: Q6
theorem awkh_k38:UA dA eA W6:=awkh_k37.more 3000 _ (by kernel_rfl)
def E6:List ME:=⟨32,[vl,vj],none,((.tup [(.sl false [[i0,i0]]),(i6 10),i0]),none)⟩ :: W6
theorem awkh_k39:UA dA eA E6:=awkh_k38.more 3000 _ (by kernel_rfl)
def R6:List ME:=⟨21,[vl,vj],none,((.tup [f6,i0]),none)⟩ :: E6
theorem awkh_k40:UA dA eA R6:=awkh_k39.more 3000 _ (by kernel_rfl)
def T6:List ME:=⟨79,[vq,i0,vn,i0],none,(n6,none)⟩ :: R6
theorem awkh_k41:UA dA eA T6:=awkh_k40.more 3000 _ (by kernel_rfl)
def U6:List ME:=⟨81,[vh,vl],none,(vo,none)⟩ :: T6
theorem awkh_k42:UA dA eA U6:=awkh_k41.more 3000 _ (by kernel_rfl)
def I6:List ME:=⟨77,[vq,i0,vn,i0],none,(i0,none)⟩ :: U6
theorem awkh_k43:UA dA eA I6:=awkh_k42.more 3000 _ (by kernel_rfl)
def O6:List ME:=⟨32,[vh,vl],none,(vt,none)⟩ :: I6
theorem awkh_k44:UA dA eA O6:=awkh_k43.more 3000 _ (by kernel_rfl)
def P6:List ME:=⟨21,[vh,vl],none,(vv,none)⟩ :: O6
theorem awkh_k45:UA dA eA P6:=awkh_k44.more 3000 _ (by kernel_rfl)
def A6:List ME:=⟨79,[vq,i0,vq,i0],none,(n6,none)⟩ :: P6
theorem awkh_k46:UA dA eA A6:=awkh_k45.more 3000 _ (by kernel_rfl)
def S6:List ME:=⟨81,[vh,vh],none,(vo,none)⟩ :: A6
theorem awkh_k47:UA dA eA S6:=awkh_k46.more 3000 _ (by kernel_rfl)
def D6:List ME:=⟨77,[vq,i0,vq,i0],none,(i0,none)⟩ :: S6
theorem awkh_k48:UA dA eA D6:=awkh_k47.more 3000 _ (by kernel_rfl)
def F6:List ME:=⟨32,[vh,vh],none,(vt,none)⟩ :: D6
theorem awkh_k49:UA dA eA F6:=awkh_k48.more 3000 _ (by kernel_rfl)
def G6:List ME:=⟨21,[vh,vh],none,(vv,none)⟩ :: F6
theorem awkh_k50:UA dA eA G6:=awkh_k49.more 3000 _ (by kernel_rfl)
def H6:List ME:=⟨79,[vq,i0,vm,i0],none,(n6,none)⟩ :: G6
theorem awkh_k51:UA dA eA H6:=awkh_k50.more 3000 _ (by kernel_rfl)
def J6:List ME:=⟨81,[vh,vj],none,(vo,none)⟩ :: H6
theorem awkh_k52:UA dA eA J6:=awkh_k51.more 3000 _ (by kernel_rfl)
def K6:List ME:=⟨77,[vq,i0,vm,i0],none,(i0,none)⟩ :: J6
theorem awkh_k53:UA dA eA K6:=awkh_k52.more 3000 _ (by kernel_rfl)
def L6:List ME:=⟨32,[vh,vj],none,(vt,none)⟩ :: K6
theorem awkh_k54:UA dA eA L6:=awkh_k53.more 3000 _ (by kernel_rfl)
def Z6:List ME:=⟨21,[vh,vj],none,(vv,none)⟩ :: L6
theorem awkh_k55:UA dA eA Z6:=awkh_k54.more 3000 _ (by kernel_rfl)
def X6:List ME:=⟨79,[vm,i0,vn,i0],none,(vz,none)⟩ :: Z6
theorem awkh_k56:UA dA eA X6:=awkh_k55.more 3000 _ (by kernel_rfl)
def C6:List ME:=⟨79,[vm,(i6 1),vn,(i6 1)],none,(n6,none)⟩ :: X6
theorem awkh_k57:UA dA eA C6:=awkh_k56.more 3000 _ (by kernel_rfl)
def B6:List ME:=⟨81,[vj,vl],none,(vp,none)⟩ :: C6
theorem awkh_k58:UA dA eA B6:=awkh_k57.more 3000 _ (by kernel_rfl)
def N6:List ME:=⟨77,[vm,i0,vn,i0],none,((i6 10),none)⟩ :: B6
theorem awkh_k59:UA dA eA N6:=awkh_k58.more 3000 _ (by kernel_rfl)
def M6:List ME:=⟨32,[vj,vl],none,((.tup [(.sl false [[i0,i0]]),(i6 10),i0]),none)⟩ :: N6
theorem awkh_k60:UA dA eA M6:=awkh_k59.more 3000 _ (by kernel_rfl)
def w7:List ME:=⟨21,[vj,vl],none,((.tup [f6,i0]),none)⟩ :: M6
theorem awkh_k61:UA dA eA w7:=awkh_k60.more 3000 _ (by kernel_rfl)
def r7:List ME:=⟨79,[vm,i0,vq,i0],none,(n6,none)⟩ :: w7
theorem awkh_k62:UA dA eA r7:=awkh_k61.more 3000 _ (by kernel_rfl)
def u7:List ME:=⟨81,[vj,vh],none,(vo,none)⟩ :: r7
theorem awkh_k63:UA dA eA u7:=awkh_k62.more 3000 _ (by kernel_rfl)
def i7:List ME:=⟨77,[vm,i0,vq,i0],none,(i0,none)⟩ :: u7
theorem awkh_k64:UA dA eA i7:=awkh_k63.more 3000 _ (by kernel_rfl)
def p7:List ME:=⟨32,[vj,vh],none,(vt,none)⟩ :: i7
theorem awkh_k65:UA dA eA p7:=awkh_k64.more 3000 _ (by kernel_rfl)
def s7:List ME:=⟨21,[vj,vh],none,(vv,none)⟩ :: p7
theorem awkh_k66:UA dA eA s7:=awkh_k65.more 3000 _ (by kernel_rfl)
def d7:List ME:=⟨79,[vm,i0,vm,i0],none,(vz,none)⟩ :: s7
theorem awkh_k67:UA dA eA d7:=awkh_k66.more 3000 _ (by kernel_rfl)
def g7:List ME:=⟨79,[vm,(i6 1),vm,(i6 1)],none,(n6,none)⟩ :: d7
theorem awkh_k68:UA dA eA g7:=awkh_k67.more 3000 _ (by kernel_rfl)
def j7:List ME:=⟨81,[vj,vj],none,(vp,none)⟩ :: g7
theorem awkh_k69:UA dA eA j7:=awkh_k68.more 3000 _ (by kernel_rfl)
def z7:List ME:=⟨77,[vm,i0,vm,i0],none,(i0,none)⟩ :: j7
theorem awkh_k70:UA dA eA z7:=awkh_k69.more 3000 _ (by kernel_rfl)
def x7:List ME:=⟨77,[vm,(i6 1),vm,(i6 1)],none,(i0,none)⟩ :: z7
theorem awkh_k71:UA dA eA x7:=awkh_k70.more 3000 _ (by kernel_rfl)
def c7:List ME:=⟨32,[vj,vj],none,(vt,none)⟩ :: x7
theorem awkh_k72:UA dA eA c7:=awkh_k71.more 3000 _ (by kernel_rfl)
def b7:List ME:=⟨21,[vj,vj],none,(vv,none)⟩ :: c7
theorem awkh_k73:UA dA eA b7:=awkh_k72.more 3000 _ (by kernel_rfl)
def Q7:List ME:=⟨46,[vu],none,((.tup [vg,i0]),none)⟩ :: b7
theorem awkh_k74:UA dA eA Q7:=awkh_k73.more 3000 _ (by kernel_rfl)
def W7:List ME:=⟨54,[vu],none,((.tup [(.sl false [[i0,(i6 2)]]),i0]),none)⟩ :: Q7
theorem awkh_k75:UA dA eA W7:=awkh_k74.more 3000 _ (by kernel_rfl)
def E7:List ME:=⟨50,[vu],none,((.tup [f6,i0]),none)⟩ :: W7
theorem awkh_k76:UA dA eA E7:=awkh_k75.more 3000 _ (by kernel_rfl)
def R7:List ME:=⟨105,[(.agg [(i6 5),(.str (.mk #[82])),i0,i0,i0,n6,(.sl false [[(i6 1),(.str (.mk #[120])),(i6 1),f6,t6,(i6 1),t6,i0,e6,i0,n6,n6,n6]]),i0,i0,f6])],none,((.sl false [[(i6 1)]]),none)⟩ :: E7
theorem awkh_k77:UA dA eA R7:=awkh_k76.more 3000 _ (by kernel_rfl)
def T7:List ME:=⟨105,[(.agg [(i6 5),(.str (.mk #[82])),i0,i0,i0,n6,n6,i0,i0,f6])],none,(n6,none)⟩ :: R7
theorem awkh_k78:UA dA eA T7:=awkh_k77.more 3000 _ (by kernel_rfl)
def U7:List ME:=⟨105,[(.agg [(i6 5),(.str (.mk #[82])),i0,i0,i0,n6,(.sl false [[(i6 1),(.str (.mk #[120])),(i6 1),f6,t6,(i6 1),f6,i0,e6,i0,n6,n6,n6]]),i0,i0,f6])],none,((.sl false [[(i6 1)]]),none)⟩ :: T7
theorem awkh_k79:UA dA eA U7:=awkh_k78.more 3000 _ (by kernel_rfl)
def I7:List ME:=⟨106,[(.sl false [[(i6 1)]]),(i6 1)],none,(t6,none)⟩ :: U7
theorem awkh_k80:UA dA eA I7:=awkh_k79.more 3000 _ (by kernel_rfl)
def O7:List ME:=⟨106,[n6,(i6 1)],none,(f6,none)⟩ :: I7
theorem awkh_k81:UA dA eA O7:=awkh_k80.more 3000 _ (by kernel_rfl)
def P7:List ME:=⟨40,[vg,vg],none,(t6,none)⟩ :: O7
theorem awkh_k82:UA dA eA P7:=awkh_k81.more 3000 _ (by kernel_rfl)
def A7:List ME:=⟨28,[(.sl false [[i0,(i6 2)]]),(.sl false [[i0,(i6 2)]])],none,(t6,none)⟩ :: P7
theorem awkh_k83:UA dA eA A7:=awkh_k82.more 3000 _ (by kernel_rfl)
def ZW:List ME:=⟨61,[vg,(.int .u8 3)],none,((.int .u8 3),none)⟩ :: A7
theorem awkh_k84:UA dA eA ZW:=awkh_k83.more 3000 _ (by kernel_rfl)
theorem XW:UA dA eA ZW:=awkh_k84
section
def rvBeq:RV->RV->Bool
 | (a,S),(b,S')=>AV.beq a b&&AV.beqO S S'
theorem rvBeq_eq {x y:RV} (h:rvBeq x y=true):x=y:=by
 obtain ⟨a,S⟩:=x;obtain ⟨b,S'⟩:=y;simp only [rvBeq,y9] at h;rw [AV.beq_eq _ _ h.1,AV.beqO_eq _ _ h.2]
def pickB (f:Nat->Option RV) (z:Option RV):List Nat->Option RV
 | []=>z
 | [i]=>f i
 | i :: j :: r=>match f i with
  | none=>none
  | some v=>if (j :: r).all (fun x=>match f x with | some y=>rvBeq y v | none=>false) then some v else none
theorem pickB_some {f:Nat->Option RV} {z:Option RV} {r:RV}:∀ (l:List Nat),pickB f z l=some r->(l=[]->z=some r)/\∀ i∈l,f i=some r
 | [],h=>⟨fun _=>h,fun i hi=>absurd hi (by simp)⟩
 | [a],h=>⟨fun e=>(by cases e),fun i hi=>(by rw [yS.1 hi]; exact h)⟩
 | a :: b :: l,h=>by
  refine ⟨fun e=>(by cases e),fun i hi=>?_⟩;simp only [pickB] at h;split at h
  ·cases h
  ·rename_i v hv;split at h
   ·rename_i ha;injection h with h;subst h;rcases yh.1 hi with rfl | hi
    ·exact hv
    ·have:=y6.1 ha i hi;split at this
     ·rename_i y hy;rw [hy,rvBeq_eq this]
     ·cases this
   ·cases h
def nstepB (d:Option Nat) (x:JB) (s:pA) (k:pA->Option RV):Option RV:=match x.get s with
 | .ptr t n 0=>match (s.obj t n).bind CV with
  | some (tm,nm,N,seen)=>match (s.obj tm nm).bind qI with
   | some L=>if L.length=N then pickB (fun i=>match L[i]? with
     | some [y,v]=>if y.flat&&v.flat then k ((s.setObj t n (BS tm nm N (seen++[i]))).put d ⟨.tup [.bool true,y,v],.no⟩) else none
     | _=>none) (k (s.put d ⟨.tup [.bool false],.no⟩)) ((List.range N).filter fun i=>!seen.contains i) else none
   | none=>none
  | none=>none
 | _=>none
theorem X1 {d:Option Nat} {x:JB} {s:pA} {k:pA->Option RV} {r:RV} (h:nstepB d x s k=some r):HP d x s k=some r:=by
 unfold nstepB at h;unfold HP;split at h
 ·rename_i t n hx;simp only [hx];split at h
  ·rename_i tm nm N seen hi;simp only [hi];split at h
   ·rename_i L hL;simp only [hL];split at h
    ·rename_i hN;simp only [hN,if_true];obtain ⟨h1,h2⟩:=pickB_some _ h;exact TO _ h1 h2
    ·cases h
   ·cases h
  ·cases h
 ·cases h
def stepB (call:iB) (o:WA) (s:pA) (k:pA->Option RV):Option RV:=match o.op with
 | .callh ..=>none
 | .nxt x=>IH s o.dst o.guard (nstepB o.dst x s k) k
 | _=>(o.step call s).bind k
def opsB (call:iB):List WA->pA->(pA->Option RV)->Option RV
 | [],s,k=>k s
 | o :: r,s,k=>stepB call o s fun s=>opsB call r s k
def SZ (call:iB) (lp:LpT):C->pA->(Ex->pA->Option RV)->Option RV
 | .skip,s,k=>k .nrm s
 | .seq a b,s,k=>SZ call lp a s fun e s=>match e with
  | .nrm=>SZ call lp b s k
  | e=>k e s
 | .reg ops,s,k=>opsB call ops s fun s=>k .nrm { s with next:=s.next + 1 }
 | .cond c t e,s,k=>match c.get s with
  | .bool b=>if b then SZ call lp t s k else SZ call lp e s k
  | _=>none
 | .block id b,s,k=>SZ call lp b s fun e s=>match e with
  | .exit j=>if j=id then k .nrm s else k (.exit j) s
  | e=>k e s
 | .loop b,s,k=>lp b s k
 | .exit id,s,k=>k (.exit id) s
 | .ret,s,k=>k .ret s
theorem stepB_le {call:iB} {lh:LH} {o:WA} {s:pA} {k:pA->Option RV} {r:RV} (h:stepB call o s k=some r):o.stepK call lh s k=some r:=by
 obtain ⟨d,op,g⟩:=o;by_cases fb:isH op=true
 ·cases op with
  | callh nt x xs=>cases h
  | nxt x =>
   simp only [stepB,IH] at h;simp only [WA.stepK,IH];cases g with
   | none=>exact X1 h
   | some p =>
    obtain ⟨t,want⟩:=p;simp only at h ⊢;cases hv:(s.env t).v with
    | bool b =>
     rw [hv] at h;simp only at h ⊢;by_cases hb:b=want
     ·rw [if_pos hb] at h;simp only [if_pos hb];exact X1 h
     ·rw [if_neg hb] at h;simp only [if_neg hb];exact h
    | tup l=>rw [hv] at h; cases l with
     | nil=>exact h
     | cons=>cases h
    | _=>rw [hv] at h; cases h
  | _=>cases fb
 ·have fb:isH op=false:=by simpa using fb
  rw [eH fb];cases op <;> first | exact h | cases fb
theorem B1 {callA:iB} {callB:Nat->iB} {lhB:Nat->LH} (hc:∀ f args S r,callA f args S=some r->xB fun m=>callB m f args S=some r):∀ (ops:List WA) {s:pA} {k:pA->Option RV} {r:RV} {km:Nat->pA->Option RV},(∀ s' r',k s'=some r'->xB fun m=>km m s'=some r')->opsB callA ops s k=some r->xB fun m=>SF (callB m) (lhB m) ops s (km m)=some r
 | [],s,k,r,km,hk,h=>hk _ _ h
 | o :: l,s,k,r,km,hk,h=>qZ (lhA:=⟨fun _ _ _=>none,fun _ _ _ _=>none⟩) hc (fun f xs s k r km _ h=>by cases h) o (km:=fun m s=>SF (callB m) (lhB m) l s (km m)) (fun s' r' h'=>B1 hc l hk h') (stepB_le h)
theorem nK {callA:iB} {lpA:LpT} {callB:Nat->iB} {IV:Nat->LH} (hc:∀ f args S r,callA f args S=some r->xB fun m=>callB m f args S=some r)
  (hl:∀ b s k r (km:Nat->Ex->pA->Option RV),(∀ e s' r',k e s'=some r'->xB fun m=>km m e s'=some r')->lpA b s k=some r->xB fun m=>IV m b s (km m)=some r) :
  ∀ (c:C) (s:pA) (k:Ex->pA->Option RV) (r:RV) (km:Nat->Ex->pA->Option RV),(∀ e s' r',k e s'=some r'->xB fun m=>km m e s'=some r')->SZ callA lpA c s k=some r->xB fun m=>c.run (callB m) (IV m) s (km m)=some r
 | .skip,s,k,r,km,hk,h=>hk _ _ _ h
 | .exit id,s,k,r,km,hk,h=>hk _ _ _ h
 | .ret,s,k,r,km,hk,h=>hk _ _ _ h
 | .seq a b,s,k,r,km,hk,h=>by
  refine nK hc hl a s _ r (fun m e s'=>match e with | .nrm=>b.run (callB m) (IV m) s' (km m) | e=>km m e s') (fun e s' r' h'=>?_) h;cases e with
  | nrm=>exact nK hc hl b s' k r' km hk h'
  | exit id=>exact hk _ _ _ h'
  | ret=>exact hk _ _ _ h'
 | .reg ops,s,k,r,km,hk,h=>by
  simp only [SZ] at h;simp only [C.run];exact B1 hc ops (km:=fun m s=>km m .nrm { s with next:=s.next + 1 }) (fun s' r' h'=>hk _ _ _ h') h
 | .cond x t e,s,k,r,km,hk,h=>by
  simp only [SZ] at h;simp only [C.run];cases hv:x.get s with
  | bool b =>
   rw [hv] at h;cases b with
   | true=>exact nK hc hl t s k r km hk (by simpa using h)
   | false=>exact nK hc hl e s k r km hk (by simpa using h)
  | _=>rw [hv] at h; cases h
 | .block id b,s,k,r,km,hk,h=>by
  refine nK hc hl b s _ r (fun m e s'=>match e with | .exit j=>if j=id then km m .nrm s' else km m (.exit j) s' | e=>km m e s') (fun e s' r' h'=>?_) h;cases e with
  | nrm=>exact hk _ _ _ h'
  | ret=>exact hk _ _ _ h'
  | exit j =>
   simp only at h' ⊢;by_cases e:j=id
   ·rw [if_pos e] at h'; simp only [if_pos e]; exact hk _ _ _ h'
   ·rw [if_neg e] at h'; simp only [if_neg e]; exact hk _ _ _ h'
 | .loop b,s,k,r,km,hk,h=>hl b s k r km hk h
def IV (call:iB):Nat->LpT
 | 0,_,_,_=>none
 | n + 1,b,s,k=>SZ call (IV call n) b s (HJ (IV call n) b k)
variable {T:Nat->Option qB} {ext:iB} {M:List ME}
theorem DX (hM:UA T ext M):∀ n b s k r (km:Nat->Ex->pA->Option RV),(∀ e s' r',k e s'=some r'->xB fun m=>km m e s'=some r')->IV (S8 M) n b s k=some r->xB fun m=>FJ T ext m b s (km m)=some r
 | 0,b,s,k,r,km,hk,h=>by cases h
 | n + 1,b,s,k,r,km,hk,h=>by
  unfold IV at h;refine xB.pred ((nK (IV:=fun m=>⟨FJ T ext m,wM T ext m⟩) (fun f args S r hl=>PS f args S _ (hM f args S _ hl)) (DX hM n) b s _ r (fun m=>HJ (FJ T ext m) b (km (m + 1))) (fun e s' r' h'=>?_) h).imp fun m hm=>?_)
  ·cases e with
   | nrm=>exact DX hM n b s' k r' (fun m=>km (m + 1)) (fun e s'' r'' h''=>(hk e s'' r'' h'').succ) h'
   | exit id=>exact (hk _ _ _ h').succ
   | ret=>exact (hk _ _ _ h').succ
  ·unfold FJ;exact hm
theorem UA.every (hM:UA T ext M) {f:Nat} {c:qB} (hT:T f=some c) {args:List AV} (ha:args.length=c.np) (hm:OI args=false) (hr:DP args=none) {r:RV} (N:Nat) (h:SZ (S8 M) (IV (S8 M) N) c.code (pA.init args none) (uO c none)=some r):cE T ext f args none=some r:=by
 obtain ⟨m,hm⟩:=(xB.pred (p:=fun m=>jD T ext m f args none=some r) ((nK (IV:=fun m=>⟨FJ T ext m,wM T ext m⟩) (km:=fun _=>uO c none) (fun f args S r hl=>PS f args S _ (hM f args S _ hl)) (DX hM N) c.code _ _ r (fun e s' r' h'=>xB.now h') h).imp fun m bd=>by
  unfold jD;rw [hT];simp only [hr];rw [if_pos ⟨ha,hm,rfl⟩];exact bd)).some
 exact pF.2 ⟨m,hm⟩
end
section
open Go.ChangeShapes Go.WideShapes Go.ChangeAt Go.RowKit
theorem own:ownKnob Tryz.prog.godebug=none:=by kernel_rfl
theorem laidOut:laidOutB Tryz.prog=true:=by kernel_rfl
theorem nR {H:Type} {enc:TypeId × Value->H} {P:Program} {f:Func} {s:ChangeSpec} {apart fresh lv:Bool} {W W':World} {args:Array Value} {v:Value} {ds gs:List (DataW H)} {before pa pv:List MemPlace}
  (hW:DataW.Whole enc P f.params.toList s.vars apart W args.toList ds gs before)
  (md:∀ (b:Nat) (sp:Nat->Bool) (hd:Bool),DataW.TrodAll enc P W' b sp hd f.resultTypes.toList (v.resultList f.resultTypes.size) (s.fn H (ds++gs)).results [])
  (lc:DataW.TrodAll enc P W' 0 (fun b=>decide (b<W.heap.size)) true f.params.toList args.toList (s.fn H (ds++gs)).args pa)
  (hvars:DataW.TrodVars enc P W' (fun b=>decide (b<W.heap.size)) s.vars (s.fn H (ds++gs)).vars pv)
  (hb:Below W.heap.size W W'):s.post enc P f apart fresh lv false W args v W' :=
 ⟨ds,gs,before,[],pa,pv,hW,md _ _ _,lc,hvars,hb.frame _,fun h=>by cases h⟩
end
abbrev joinA (P:Program) (f:FuncId) (fn:Func) (s:ChangeSpec) (c:OpenClaim):Bool:=(c.wf (OpenSpec.ofChange s)&&laidOutB P&&mapsRowed P&&fn.params.all (P.readableRec ·)&&namedTie P c.named s.vars&&(c.stops == [])&&(P.stops == [])&&(c.knobs == [])&&(P.stopKnobs == []))
abbrev joinB (P:Program) (f:FuncId) (fn:Func) (s:ChangeSpec) (c:OpenClaim):Bool:=((c.inPlace == P.inPlace f)&&(c.unfollowed == P.unfollowed f))
abbrev joinC (P:Program) (f:FuncId) (fn:Func) (s:ChangeSpec) (c:OpenClaim):Bool:=((c.recurses == P.recurses f)&&(c.named == P.varsNamed f))
abbrev joinD (P:Program) (f:FuncId) (fn:Func) (s:ChangeSpec) (c:OpenClaim):Bool:=((c.maps == (fn.params.toList++s.plain.varTypes P).any (P.mapsRec ·))&&(c.ifaces == (fn.params.toList++s.plain.varTypes P).any (P.ifacesRec ·))&&(c.mapsOut == P.mapsAmong fn.resultTypes.toList)&&(c.loops == (fn.params.toList++s.plain.varTypes P).any (P.loopsFrom ·))&&(c.wideKeys == (fn.params.toList++s.plain.varTypes P++fn.resultTypes.toList).any (P.wideKeysFrom ·))&&s.vars.all (P.varReadable ·)&&fn.resultTypes.all (fun t=>P.readableRec t&&decide (t<P.types.size))&&(c.ifacesOut == fn.resultTypes.toList.any (P.ifacesRec ·))&&(c.loopsOut == fn.resultTypes.toList.any (P.loopsFrom ·))&&(c.plainKeys == P.plainKeys)&&c.shortTexts.isNone&&P.stopsHeard)
abbrev joinE (P:Program) (f:FuncId) (fn:Func) (s:ChangeSpec) (c:OpenClaim):Bool:=P.mayEnter
abbrev joinF (P:Program) (f:FuncId) (fn:Func) (s:ChangeSpec) (c:OpenClaim):Bool:=(c.lifted == P.liftsFinal)
abbrev joinG (P:Program) (f:FuncId) (fn:Func) (s:ChangeSpec) (c:OpenClaim):Bool:=((P.make == some c.make)&&(c.kinds == (if c.domain.isEmpty then [] else fn.params.toList.map fun t=>match P.underlying t with | some (.int k)=>some k | _=>none))&&(c.pinned == c.pinnedBy)&&(c.veiled == (fn.params.toList++s.plain.varTypes P++fn.resultTypes.toList).any (P.veiledRec ·))&&c.veiledFits P fn.params.toList (fn.params.toList++s.plain.varTypes P++fn.resultTypes.toList))
theorem N0 {P:Program} {f:FuncId} {fn:Func} {s:ChangeSpec} {c:OpenClaim} (h1:joinA P f fn s c=true) (h2:joinB P f fn s c=true) (il:joinC P f fn s c=true) (h3:joinD P f fn s c=true) (h4:joinE P f fn s c=true) (h5:joinF P f fn s c=true) (h6:joinG P f fn s c=true):joinedFacts P f fn s c=true:=by
 have e:joinedFacts P f fn s c=((c.wf (OpenSpec.ofChange s)&&laidOutB P&&mapsRowed P&&fn.params.all (P.readableRec ·)&&namedTie P c.named s.vars&&(c.stops == [])&&(P.stops == [])&&(c.knobs == [])&&(P.stopKnobs == []))&&(((c.inPlace == P.inPlace f)&&(c.unfollowed == P.unfollowed f))&&(((c.recurses == P.recurses f)&&(c.named == P.varsNamed f))&&(((c.maps == (fn.params.toList++s.plain.varTypes P).any (P.mapsRec ·))&&(c.ifaces == (fn.params.toList++s.plain.varTypes P).any (P.ifacesRec ·))&&(c.mapsOut == P.mapsAmong fn.resultTypes.toList)&&(c.loops == (fn.params.toList++s.plain.varTypes P).any (P.loopsFrom ·))&&(c.wideKeys == (fn.params.toList++s.plain.varTypes P++fn.resultTypes.toList).any (P.wideKeysFrom ·))&&s.vars.all (P.varReadable ·)&&fn.resultTypes.all (fun t=>P.readableRec t&&decide (t<P.types.size))&&(c.ifacesOut == fn.resultTypes.toList.any (P.ifacesRec ·))&&(c.loopsOut == fn.resultTypes.toList.any (P.loopsFrom ·))&&(c.plainKeys == P.plainKeys)&&c.shortTexts.isNone&&P.stopsHeard)&&(P.mayEnter&&((c.lifted == P.liftsFinal)&&((P.make == some c.make)&&(c.kinds == (if c.domain.isEmpty then [] else fn.params.toList.map fun t=>match P.underlying t with | some (.int k)=>some k | _=>none))&&(c.pinned == c.pinnedBy)&&(c.veiled == (fn.params.toList++s.plain.varTypes P++fn.resultTypes.toList).any (P.veiledRec ·))&&c.veiledFits P fn.params.toList (fn.params.toList++s.plain.varTypes P++fn.resultTypes.toList)))))))):=by
  simp only [joinedFacts,Bool.and_assoc];rfl
 dsimp only [joinA,joinB,joinC,joinD,joinE,joinF,joinG] at h1 h2 il h3 h4 h5 h6;rw [e,h1,h2,il,h3,h4,h5,h6];rfl
end Go.Proofs.YtbnlmgncbgaepaaGreat
