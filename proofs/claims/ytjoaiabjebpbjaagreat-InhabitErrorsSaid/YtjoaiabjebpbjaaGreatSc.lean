/- A part of the proof. -/
import Derived.Test.YtjoaiabjebpbjaaGreatSb
import Derived.Deep.Slices
import Derived.Deep.Fields
import Derived.ChangeSame
import Derived.OpenShut
import Derived.Carry
import Derived.ChangeOld
import Derived.Test.YtjoaiabjebpbjaaGreatChecked
import Derived.Lib.Builder
import Derived.Lib.UnsafeStr
import Derived.Shelf.RegionOpenPlain
import Derived.ProofKit
import Derived.JoinedCond
set_option linter.all false
set_option maxRecDepth 100000
set_option maxHeartbeats 8000000
open Option renaming bind_some → V, bind_eq_some_iff → yb, map_eq_some_iff → yg, map_some → yq
open List renaming getElem?_eq_getElem → y4, all_eq_true → y6, getElem?_map → y8, drop_eq_getElem_cons → y9, mem_cons → yc, drop_eq_nil_of_le → ye, mem_cons_of_mem → yh, replicate → yj, mem_cons_self → yk, map_cons → yl, getElem?_eq_some_iff → ym, length_map → yn, map_nil → yo, take_of_length_le → yv, getElem_of_mem → yy, map_congr_left → yz, length_append → yA, mem_map → yB, flatten_cons → yC, eq_nil_of_length_eq_zero → yF, length_cons → yI, length_take → yN, getElem?_append_right → yP, mem_of_getElem? → yQ, take_append_drop → yR
open Bool renaming and_eq_true → y7, false_eq_true → yp
open Nat renaming le_refl → yf, succ_mul → yt, le_trans → yw, zero_add → yD, eq_zero_or_pos → yG, lt_of_lt_of_le → yW, mul_le_mul_right → yX
namespace Go.Proofs.YtjoaiabjebpbjaaGreat
open Go
section
section
variable {α:Type}
def JB (p:Nat->Prop):Prop:=∃ n,∀ m,n<=m->p m
theorem JB.and {p q:Nat->Prop} (h:JB p) (h':JB q):JB fun m=>p m/\q m:=by
 obtain ⟨n,h⟩:=h;obtain ⟨n',h'⟩:=h';exact ⟨max n n',fun m hm=>⟨h m (by omega),h' m (by omega)⟩⟩
theorem JB.imp {p q:Nat->Prop} (h:JB p) (hi:∀ m,p m->q m):JB q:=by
 obtain ⟨n,h⟩:=h;exact ⟨n,fun m hm=>hi m (h m hm)⟩
theorem JB.now {p:Prop} (h:p):JB fun _=>p:=⟨0,fun _ _=>h⟩
theorem JB.succ {p:Nat->Prop} (h:JB p):JB fun m=>p (m + 1):=by
 obtain ⟨n,h⟩:=h;exact ⟨n,fun m hm=>h (m + 1) (by omega)⟩
theorem JB.pred {p:Nat->Prop} (h:JB fun m=>p (m + 1)):JB p:=by
 obtain ⟨n,h⟩:=h;exact ⟨n + 1,fun m hm=>by have:=h (m - 1) (by omega); simp only at this; rwa [show m - 1 + 1=m from by omega] at this⟩
theorem JB.some {p:Nat->Prop} (h:JB p):∃ m,p m:=by
 obtain ⟨n,h⟩:=h;exact ⟨n,h n (yf _)⟩
theorem f9 {s:aA} {callA:DB} {callB:Nat->DB} (hc:∀ f args S r,callA f args S=some r->JB fun m=>callB m f args S=some r) (k:K) {xe:rA × nD} (h:k.run callA s=some xe):JB fun m=>k.run (callB m) s=some xe:=by
 cases k with
 | call cl f xs =>
  simp only [K.run] at h ⊢;cases hl:IE s cl xs with
  | none=>rw [hl] at h; cases h
  | some vs =>
   rw [hl] at h;simp only [V] at h ⊢;split at h
   ·obtain ⟨r,hr,h⟩:=yb.1 h;exact (hc f vs _ r hr).imp fun m hm=>by rw [hm]; exact h
   ·obtain ⟨r,hr,h⟩:=yb.1 h;exact (hc f vs _ r hr).imp fun m hm=>by rw [hm]; exact h
   ·cases h
 | callf cl f z xs =>
  simp only [K.run] at h ⊢;cases hl:IE s cl xs with
  | none=>rw [hl] at h; cases h
  | some vs =>
   rw [hl] at h;simp only [V] at h ⊢;split at h
   ·obtain ⟨r,hr,h⟩:=yb.1 h;exact (hc f (.undef :: vs) _ r hr).imp fun m hm=>by rw [hm]; exact h
   ·cases h
 | callv cl x xs =>
  simp only [K.run] at h ⊢;split at h
  ·rename_i f cs hx
   try simp only [hx]
   split at h
   ·rename_i vs ws hl hw ho
    try simp only [hl,hw,ho]
    obtain ⟨r,hr,h⟩:=yb.1 h;exact (hc f (vs++ws) _ r hr).imp fun m hm=>by rw [hm]; exact h
   ·cases h
  ·cases h
 | callr cl f xs =>
  simp only [K.run] at h ⊢;split at h
  ·rename_i t n hp
   try simp only [hp]
   split at h
   ·rename_i na;simp only [if_pos na];split at h
    ·rename_i r vs hr hv
     try simp only [hr,hv]
     split at h
     ·rename_i za;simp only [if_pos za];obtain ⟨q,hq,h⟩:=yb.1 h;exact (hc f _ _ q hq).imp fun m hm=>by rw [hm]; exact h
     ·cases h
    ·cases h
   ·cases h
  ·cases h
 | _=>exact JB.now h
theorem step_late {s s1:aA} {callA:DB} {callB:Nat->DB} (hc:∀ f args S r,callA f args S=some r->JB fun m=>callB m f args S=some r) (o:PA) (h1:o.step callA s=some s1):JB fun m=>o.step (callB m) s=some s1:=by
 unfold PA.step at h1 ⊢;cases hg:o.guard with
 | none =>
  rw [hg] at h1;simp only at h1 ⊢;obtain ⟨xe,hx,he⟩:=yb.1 h1;exact (f9 hc o.op hx).imp fun m hm=>by rw [hm]; exact he
 | some p =>
  obtain ⟨t,want⟩:=p;rw [hg] at h1;simp only at h1 ⊢;cases hv:(s.env t).v with
  | bool b =>
   rw [hv] at h1;simp only at h1 ⊢;by_cases hb:b=want
   ·rw [if_pos hb] at h1;simp only [if_pos hb];obtain ⟨xe,hx,he⟩:=yb.1 h1;exact (f9 hc o.op hx).imp fun m hm=>by rw [hm]; exact he
   ·rw [if_neg hb] at h1;simp only [if_neg hb];exact JB.now h1
  | tup l=>rw [hv] at h1; cases l with
   | nil=>exact JB.now h1
   | cons=>cases h1
  | _=>rw [hv] at h1; cases h1
def FV (hA:HpT) (hB:Nat->HpT):Prop:=∀ f xs s k r (km:Nat->rA->aA->Option RV),(∀ y s' r',k y s'=some r'->JB fun m=>km m y s'=some r')->hA f xs s k=some r->JB fun m=>hB m f xs s (km m)=some r
theorem wY {s:aA} {lhA:LH} {lhB:Nat->LH} (hh:FV lhA.h fun m=>(lhB m).h) (d:Option Nat) (nt:Nat) (x:CB) (xs:List CB) {k:aA->Option RV} {r:RV} {km:Nat->aA->Option RV} (hk:∀ s' r',k s'=some r'->JB fun m=>km m s'=some r') (h:xP lhA d nt x xs s k=some r):JB fun m=>xP (lhB m) d nt x xs s (km m)=some r:=by
 unfold xP at h ⊢;split at h
 ·rename_i f cs hx
  try simp only [hx]
  exact hh _ _ _ _ _ (fun m y s'=>km m ((s'.leave nt).put d y)) (fun y s' r' h'=>hk _ _ h') h
 ·cases h
theorem JB.all {l:List Nat} {Q:Nat->Nat->Prop} (h:∀ i∈l,JB fun m=>Q i m):JB fun m=>∀ i∈l,Q i m:=by
 induction l with
 | nil=>exact ⟨0,fun m _ i hi=>by cases hi⟩
 | cons a r ih =>
  refine ((h a yk).and (ih fun i hi=>h i (yh _ hi))).imp fun m hm i hi=>?_
  rcases yc.1 hi with rfl | hi
  ·exact hm.1
  ·exact hm.2 i hi
theorem mY {s:aA} (d:Option Nat) (x:CB) {k:aA->Option RV} {r:RV} {km:Nat->aA->Option RV} (hk:∀ s' r',k s'=some r'->JB fun m=>km m s'=some r') (h:nY d x s k=some r):JB fun m=>nY d x s (km m)=some r:=by
 unfold nY at h ⊢;split at h
 ·rename_i t n hx
  try simp only [hx]
  split at h
  ·rename_i tm nm N seen hi
   try simp only [hi]
   split at h
   ·rename_i L hL
    try simp only [hL]
    split at h
    ·rename_i hN
     try simp only [hN,if_true]
     obtain ⟨h1,h2⟩:=OT _ h;have ci:=JB.all (Q:=fun i m=>(match L[i]? with | some [y,v]=>if y.flat&&v.flat then km m ((s.setObj t n (t5 tm nm N (seen++[i]))).put d ⟨.tup [.bool true,y,v],.no⟩) else none | _=>none)=some r) fun i jc=>by
      have:=h2 i jc;split at this
      ·rename_i y v hy;split at this
       ·rename_i hf;simp only [hy,hf,if_true];exact hk _ _ this
       ·cases this
      ·cases this
     by_cases he:(List.range N).filter (fun i=>!seen.contains i)=[]
     ·refine (hk _ _ (h1 he)).imp fun m hm=>aZ _ (fun _=>hm) fun i jc=>?_
      rw [he] at jc;cases jc
     ·exact ci.imp fun m hm=>aZ _ (fun e=>absurd e he) hm
    ·cases h
   ·cases h
  ·cases h
 ·cases h
theorem stepK_late {s:aA} {callA:DB} {callB:Nat->DB} {lhA:LH} {lhB:Nat->LH} (hc:∀ f args S r,callA f args S=some r->JB fun m=>callB m f args S=some r) (hh:FV lhA.h fun m=>(lhB m).h) (o:PA) {k:aA->Option RV} {r:RV} {km:Nat->aA->Option RV} (hk:∀ s' r',k s'=some r'->JB fun m=>km m s'=some r') (h:o.stepK callA lhA s k=some r):JB fun m=>o.stepK (callB m) (lhB m) s (km m)=some r:=by
 obtain ⟨d,op,g⟩:=o;by_cases rb:isH op=true
 ·cases op with
  | callh nt x xs =>
   simp only [PA.stepK,RK] at h ⊢;cases g with
   | none=>exact wY hh d nt x xs hk h
   | some p =>
    obtain ⟨t,want⟩:=p;simp only at h ⊢;cases hv:(s.env t).v with
    | bool b =>
     rw [hv] at h;simp only at h ⊢;by_cases hb:b=want
     ·rw [if_pos hb] at h;simp only [if_pos hb];exact wY hh d nt x xs hk h
     ·rw [if_neg hb] at h;simp only [if_neg hb];exact hk _ _ h
    | tup l=>rw [hv] at h; cases l with
     | nil=>exact hk _ _ h
     | cons=>cases h
    | _=>rw [hv] at h; cases h
  | nxt x =>
   simp only [PA.stepK,RK] at h ⊢;cases g with
   | none=>exact mY d x hk h
   | some p =>
    obtain ⟨t,want⟩:=p;simp only at h ⊢;cases hv:(s.env t).v with
    | bool b =>
     rw [hv] at h;simp only at h ⊢;by_cases hb:b=want
     ·rw [if_pos hb] at h;simp only [if_pos hb];exact mY d x hk h
     ·rw [if_neg hb] at h;simp only [if_neg hb];exact hk _ _ h
    | tup l=>rw [hv] at h; cases l with
     | nil=>exact hk _ _ h
     | cons=>cases h
    | _=>rw [hv] at h; cases h
  | _=>cases rb
 ·have rb:isH op=false:=by simpa using rb
  rw [gJ rb] at h;obtain ⟨s1,h1,h2⟩:=yb.1 h;exact ((step_late hc ⟨d,op,g⟩ h1).and (hk _ _ h2)).imp fun m hm=>by rw [gJ rb,hm.1]; exact hm.2
theorem G8 {callA:DB} {callB:Nat->DB} {lhA:LH} {lhB:Nat->LH} (hc:∀ f args S r,callA f args S=some r->JB fun m=>callB m f args S=some r) (hh:FV lhA.h fun m=>(lhB m).h):∀ (ops:List PA) {s:aA} {k:aA->Option RV} {r:RV} {km:Nat->aA->Option RV},(∀ s' r',k s'=some r'->JB fun m=>km m s'=some r')->XG callA lhA ops s k=some r->JB fun m=>XG (callB m) (lhB m) ops s (km m)=some r
 | [],s,k,r,km,hk,h=>hk _ _ h
 | o :: l,s,k,r,km,hk,h=>stepK_late hc hh o (km:=fun m s=>XG (callB m) (lhB m) l s (km m)) (fun s' r' h'=>G8 hc hh l hk h') h
theorem oE {callA:DB} {lpA:LH} {callB:Nat->DB} {lpB:Nat->LH} (hc:∀ f args S r,callA f args S=some r->JB fun m=>callB m f args S=some r) (hh:FV lpA.h fun m=>(lpB m).h)
  (hl:∀ b s k r (km:Nat->Ex->aA->Option RV),(∀ e s' r',k e s'=some r'->JB fun m=>km m e s'=some r')->lpA b s k=some r->JB fun m=>lpB m b s (km m)=some r) :
  ∀ (c:C) (s:aA) (k:Ex->aA->Option RV) (r:RV) (km:Nat->Ex->aA->Option RV),(∀ e s' r',k e s'=some r'->JB fun m=>km m e s'=some r')->c.run callA lpA s k=some r->JB fun m=>c.run (callB m) (lpB m) s (km m)=some r
 | .skip,s,k,r,km,hk,h=>hk _ _ _ h
 | .exit id,s,k,r,km,hk,h=>hk _ _ _ h
 | .ret,s,k,r,km,hk,h=>hk _ _ _ h
 | .seq a b,s,k,r,km,hk,h=>by
  refine oE hc hh hl a s _ r (fun m e s'=>match e with | .nrm=>b.run (callB m) (lpB m) s' (km m) | e=>km m e s') (fun e s' r' h'=>?_) h;cases e with
  | nrm=>exact oE hc hh hl b s' k r' km hk h'
  | exit id=>exact hk _ _ _ h'
  | ret=>exact hk _ _ _ h'
 | .reg ops,s,k,r,km,hk,h=>by
  simp only [C.run] at h ⊢;exact G8 hc hh ops (km:=fun m s=>km m .nrm { s with next:=s.next + 1 }) (fun s' r' h'=>hk _ _ _ h') h
 | .cond x t e,s,k,r,km,hk,h=>by
  simp only [C.run] at h ⊢;cases hv:x.get s with
  | bool b =>
   rw [hv] at h;cases b with
   | true=>exact oE hc hh hl t s k r km hk (by simpa using h)
   | false=>exact oE hc hh hl e s k r km hk (by simpa using h)
  | _=>rw [hv] at h; cases h
 | .block id b,s,k,r,km,hk,h=>by
  refine oE hc hh hl b s _ r (fun m e s'=>match e with | .exit j=>if j=id then km m .nrm s' else km m (.exit j) s' | e=>km m e s') (fun e s' r' h'=>?_) h;cases e with
  | nrm=>exact hk _ _ _ h'
  | ret=>exact hk _ _ _ h'
  | exit j =>
   simp only at h' ⊢;by_cases e:j=id
   ·rw [if_pos e] at h'; simp only [if_pos e]; exact hk _ _ _ h'
   ·rw [if_neg e] at h'; simp only [if_neg e]; exact hk _ _ _ h'
 | .loop b,s,k,r,km,hk,h=>hl b s k r km hk h
variable {T:Nat->Option qB} {ext:DB}
theorem N_mono {ext':DB} (hx:∀ f args S r,ext f args S=some r->ext' f args S=some r):∀ N,(∀ f args S r,gE T ext N f args S=some r->JB fun m=>gE T ext' m f args S=some r) ∧
  (∀ b s k r (km:Nat->Ex->aA->Option RV),(∀ e s' r',k e s'=some r'->JB fun m=>km m e s'=some r')->OL T ext N b s k=some r->JB fun m=>OL T ext' m b s (km m)=some r) ∧
  FV (pN T ext N) (pN T ext')
 | 0=>by
  refine ⟨fun f args S r h=>⟨0,fun m _=>?_⟩,fun b s k r km _ h=>(by cases h),fun f xs s k r km _ h=>(by cases h)⟩;unfold gE at h;cases hT:T f with
  | none=>rw [hT] at h; cases m <;> (unfold gE; rw [hT]; exact hx _ _ _ _ h)
  | some c=>rw [hT] at h; cases h
 | N + 1=>by
  obtain ⟨gr,io,fr⟩:=N_mono hx N;refine ⟨?_,?_,?_⟩
  ·intro f args S0 r h;unfold gE at h;cases hT:T f with
   | none=>rw [hT] at h; exact ⟨0,fun m _=>by cases m <;> (unfold gE; rw [hT]; exact hx _ _ _ _ h)⟩
   | some c =>
    rw [hT] at h;cases hm:cR args with
    | some rest =>
     cases S0 with
     | none=>rw [hm] at h; cases h
     | some S =>
      cases S with
      | agg cs =>
       rw [hm] at h;simp only at h;split at h
       ·rename_i hl;refine JB.pred ((oE (lpA:=⟨OL T ext N,pN T ext N⟩) (lpB:=fun m=>⟨OL T ext' m,pN T ext' m⟩) gr fr io c.code _ _ r (fun _=>gM c cs.length) (fun e s' r' h'=>JB.now h') h).imp fun m tb=>?_);unfold gE;rw [hT];simp only [hm];rw [if_pos hl];exact tb
       ·cases h
      | _=>rw [hm] at h; cases h
    | none =>
     rw [hm] at h;simp only at h;split at h
     ·rename_i hl;refine JB.pred ((oE (lpA:=⟨OL T ext N,pN T ext N⟩) (lpB:=fun m=>⟨OL T ext' m,pN T ext' m⟩) gr fr io c.code _ _ r (fun _=>fin c S0) (fun e s' r' h'=>JB.now h') h).imp fun m tb=>?_);unfold gE;rw [hT];simp only [hm];rw [if_pos hl];exact tb
     ·cases h
  ·intro b s k r km hk h;unfold OL at h;refine JB.pred ((oE (lpA:=⟨OL T ext N,pN T ext N⟩) (lpB:=fun m=>⟨OL T ext' m,pN T ext' m⟩) gr fr io b s _ r (fun m=>AM (OL T ext' m) b (km (m + 1))) (fun e s' r' h'=>?_) h).imp fun m hm=>?_)
   ·cases e with
    | nrm=>exact io b s' k r' (fun m=>km (m + 1)) (fun e s'' r'' h''=>(hk e s'' r'' h'').succ) h'
    | exit id=>exact (hk _ _ _ h').succ
    | ret=>exact (hk _ _ _ h').succ
   ·unfold OL;exact hm
  ·intro f xs s k r km hk h;unfold pN at h;cases hT:T f with
   | none=>rw [hT] at h; cases h
   | some c =>
    rw [hT] at h;simp only at h;split at h
    ·rename_i hl;refine JB.pred ((oE (lpA:=⟨OL T ext N,pN T ext N⟩) (lpB:=fun m=>⟨OL T ext' m,pN T ext' m⟩) gr fr io c.code _ _ r (fun m=>sN c (km (m + 1))) (fun e s' r' h'=>?_) h).imp fun m hm=>?_)
     ·cases e with
      | exit id=>cases h'
      | nrm =>
       simp only [sN] at h' ⊢;obtain ⟨y,hy,h'⟩:=yb.1 h';simp only [hy,V];exact (hk _ _ _ h').succ
      | ret =>
       simp only [sN] at h' ⊢;obtain ⟨y,hy,h'⟩:=yb.1 h';simp only [hy,V];exact (hk _ _ _ h').succ
     ·unfold pN;rw [hT];simp only;rw [if_pos hl];exact hm
    ·cases h
theorem UM:∀ N,(∀ f args S r,gE T ext N f args S=some r->JB fun m=>gE T ext m f args S=some r) ∧
  (∀ b s k r (km:Nat->Ex->aA->Option RV),(∀ e s' r',k e s'=some r'->JB fun m=>km m e s'=some r')->OL T ext N b s k=some r->JB fun m=>OL T ext m b s (km m)=some r)/\FV (pN T ext N) (pN T ext):=N_mono fun _ _ _ _ h=>h
open Classical in
noncomputable def BI (T:Nat->Option qB) (ext:DB) (f:Nat) (args:List AV) (S0:Option AV):Option RV:=if h:∃ r n,gE T ext n f args S0=some r then some h.choose else none
open Classical in
noncomputable def kI (T:Nat->Option qB) (ext:DB):LpT:=fun b s k=>if h:∃ r n,OL T ext n b s k=some r then some h.choose else none
open Classical in
noncomputable def evH (T:Nat->Option qB) (ext:DB):HpT:=fun f xs s k=>if h:∃ r n,pN T ext n f xs s k=some r then some h.choose else none
noncomputable def aN (T:Nat->Option qB) (ext:DB):LH:=⟨kI T ext,evH T ext⟩
theorem XM {f:Nat} {args:List AV} {S0:Option AV} {r:RV}:BI T ext f args S0=some r ↔ ∃ n,gE T ext n f args S0=some r:=by
 unfold BI;constructor
 ·intro h;split at h
  ·rename_i hh; injection h with h; exact h ▸ hh.choose_spec
  ·cases h
 ·rintro ⟨n,hn⟩;have hh:∃ r n,gE T ext n f args S0=some r:=⟨r,n,hn⟩;rw [dif_pos hh];obtain ⟨n',jl⟩:=hh.choose_spec;obtain ⟨m,h1,h2⟩:=(((UM n).1 f args S0 r hn).and ((UM n').1 f args S0 _ jl)).some;rw [h1] at h2;exact h2.symm
theorem LX {b:C} {s:aA} {k:Ex->aA->Option RV} {r:RV}:kI T ext b s k=some r ↔ ∃ n,OL T ext n b s k=some r:=by
 unfold kI;constructor
 ·intro h;split at h
  ·rename_i hh; injection h with h; exact h ▸ hh.choose_spec
  ·cases h
 ·rintro ⟨n,hn⟩;have hh:∃ r n,OL T ext n b s k=some r:=⟨r,n,hn⟩;rw [dif_pos hh];obtain ⟨n',jl⟩:=hh.choose_spec;obtain ⟨m,h1,h2⟩:=(((UM n).2.1 b s k r (fun _=>k) (fun e s' r' h=>JB.now h) hn).and ((UM n').2.1 b s k _ (fun _=>k) (fun e s' r' h=>JB.now h) jl)).some;rw [h1] at h2;exact h2.symm
theorem KX {f:Nat} {xs:List rA} {s:aA} {k:rA->aA->Option RV} {r:RV}:evH T ext f xs s k=some r ↔ ∃ n,pN T ext n f xs s k=some r:=by
 unfold evH;constructor
 ·intro h;split at h
  ·rename_i hh; injection h with h; exact h ▸ hh.choose_spec
  ·cases h
 ·rintro ⟨n,hn⟩;have hh:∃ r n,pN T ext n f xs s k=some r:=⟨r,n,hn⟩;rw [dif_pos hh];obtain ⟨n',jl⟩:=hh.choose_spec;obtain ⟨m,h1,h2⟩:=(((UM n).2.2 f xs s k r (fun _=>k) (fun e s' r' h=>JB.now h) hn).and ((UM n').2.2 f xs s k _ (fun _=>k) (fun e s' r' h=>JB.now h) jl)).some;rw [h1] at h2;exact h2.symm
theorem Q7 (f:Nat) (args:List AV) (S0:Option AV) (r:RV) (h:BI T ext f args S0=some r):JB fun m=>gE T ext m f args S0=some r:=by
 obtain ⟨n,hn⟩:=XM.1 h;exact (UM n).1 f args S0 r hn
theorem W7 (b:C) (s:aA) (k:Ex->aA->Option RV) (r:RV) (km:Nat->Ex->aA->Option RV) (hk:∀ e s' r',k e s'=some r'->JB fun m=>km m e s'=some r') (h:kI T ext b s k=some r):JB fun m=>OL T ext m b s (km m)=some r:=by
 obtain ⟨n,hn⟩:=LX.1 h;exact (UM n).2.1 b s k r km hk hn
theorem ev_late3:FV (evH T ext) (pN T ext):=fun f xs s k r km hk h=>by
 obtain ⟨n,hn⟩:=KX.1 h;exact (UM n).2.2 f xs s k r km hk hn
theorem FS (c:C) (s:aA) (k:Ex->aA->Option RV) (r:RV) (km:Nat->Ex->aA->Option RV) (hk:∀ e s' r',k e s'=some r'->JB fun m=>km m e s'=some r') (h:c.run (BI T ext) (aN T ext) s k=some r):JB fun m=>c.run (gE T ext m) ⟨OL T ext m,pN T ext m⟩ s (km m)=some r :=
 oE (lpA:=aN T ext) (lpB:=fun m=>⟨OL T ext m,pN T ext m⟩) Q7 ev_late3 W7 c s k r km hk h
theorem J2 {f:Nat} {args:List AV} {S0:Option AV} {r:RV} (c:qB) (hT:T f=some c) (hl:args.length=c.np) (h:c.code.run (BI T ext) (aN T ext) (aA.init args S0) (fin c S0)=some r) (hm:IK args=false:=by rfl) (hS:noItO S0=true:=by rfl):BI T ext f args S0=some r:=by
 obtain ⟨m,tb⟩:=(FS c.code _ _ r (fun _=>fin c S0) (fun e s' r' h'=>JB.now h') h).some;refine XM.2 ⟨m + 1,?_⟩;have hR:cR args=none:=by
  unfold cR;split
  ·cases hm
  ·rfl
 unfold gE;rw [hT];simp only [hR];rw [if_pos ⟨hl,hm,hS⟩];exact tb
theorem tF {f:Nat} {args cs:List AV} {r:RV} (c:qB) (hT:T f=some c) (hl:args.length=c.np) (h:c.code.run (BI T ext) (aN T ext) (aA.initR args cs) (gM c cs.length)=some r) (hm:IK args=false:=by rfl):BI T ext f (.undef :: .undef :: args) (some (.agg cs))=some r:=by
 obtain ⟨m,tb⟩:=(FS c.code _ _ r (fun _=>gM c cs.length) (fun e s' r' h'=>JB.now h') h).some;refine XM.2 ⟨m + 1,?_⟩;unfold gE;rw [hT];simp only [cR];rw [if_pos ⟨hl,hm⟩];exact tb
theorem tO {f:Nat} {xs:List rA} {s:aA} {k:rA->aA->Option RV} {r:RV} (c:qB) (hT:T f=some c) (hl:xs.length=c.np) (h:c.code.run (BI T ext) (aN T ext) (s.initH xs) (sN c k)=some r):evH T ext f xs s k=some r:=by
 obtain ⟨m,tb⟩:=(FS c.code _ _ r (fun _=>sN c k) (fun e s' r' h'=>JB.now h') h).some;refine KX.2 ⟨m + 1,?_⟩;unfold pN;rw [hT];simp only;rw [if_pos hl];exact tb
theorem evC_ext {f:Nat} {args:List AV} {S0:Option AV} {r:RV} (hT:T f=none) (h:ext f args S0=some r):BI T ext f args S0=some r:=by
 refine XM.2 ⟨0,?_⟩;unfold gE;rw [hT];exact h
theorem uA {b:C} {s:aA} {k:Ex->aA->Option RV} {r:RV} (h:b.run (BI T ext) (aN T ext) s (AM (kI T ext) b k)=some r):kI T ext b s k=some r:=by
 have:=FS b s _ r (fun m=>AM (OL T ext m) b k) (fun e s' r' h'=>by
  cases e with
  | nrm=>exact W7 b s' k r' (fun _=>k) (fun e s'' r'' h''=>JB.now h'') h'
  | exit id=>exact JB.now h'
  | ret=>exact JB.now h') h
 obtain ⟨m,hm⟩:=this.some;refine LX.2 ⟨m + 1,?_⟩;unfold OL;exact hm
theorem E7 {P:Program} {O:GI} (hm:P.follows .mixedOrders=true) (hT:∀ f c,T f=some c->QA P f c) (ku:∀ f args S r,ext f args S=some r->tD P O f args S r) {f:Nat} {args:List AV} {S0:Option AV} {r:RV} (h:BI T ext f args S0=some r):tD P O f args S0 r:=by
 obtain ⟨n,hn⟩:=XM.1 h;exact (EX hm hT ku n).1 f args S0 r hn
end
end
section
open Go Go.RowKit Go.ChangeShapes Go.WideShapes Go.Deep
inductive Cs where
 | int (k:IntKind)
 | bool
 | str
 | sl (l:List Cs)
def shArr (P:Program) (r:TypeId->Option (List Cs)) (t:TypeId) (n:Nat) (e:TypeId):Option (List Cs) :=
 (r e).bind fun l=>if l.length=P.cellsOf e/\n * l.length=P.cellsOf t then some (List.replicate n l).flatten else none
def shFs (P:Program) (r:TypeId->Option (List Cs)):Nat->List Field->Option (List Cs)
 | _,[]=>some []
 | off,f :: fs=>(r f.type).bind fun l=>if f.offset=off/\l.length=P.cellsOf f.type then (shFs P r (off + l.length) fs).map (l++·) else none
def UZ (P:Program):Nat->TypeId->Option (List Cs)
 | 0,_=>none
 | n + 1,t=>match P.underlying t with
  | some .bool=>some [.bool]
  | some (.int k)=>some [.int k]
  | some .string=>some [.str]
  | some (.slice e)=>(UZ P n e).bind fun l=>if l.length=P.cellsOf e/\0<l.length then some [.sl l] else none
  | some (.struct fs)=>(shFs P (UZ P n) 0 fs.toList).bind fun l=>if l.length=P.cellsOf t then some l else none
  | some (.array k e)=>shArr P (UZ P n) t k e
  | _=>none
mutual
def TyC:Cs->AV->Prop
 | .int k,x=>∃ n,x=.int k n/\(Lit.int k n).wf=true
 | .bool,x=>∃ b,x=.bool b
 | .str,x=>∃ s,x=.str s/\s.size<=maxLen
 | .sl l,x=>∃ nl els,x=.sl nl els/\els.length<=maxLen/\∀ fb∈els,bP l fb
def bP:List Cs->List AV->Prop
 | [],fb=>fb=[]
 | c :: cs,fb=>∃ a r,fb=a :: r/\TyC c a/\bP cs r
end
theorem kX:∀ {l:List Cs} {fb:List AV},bP l fb->fb.length=l.length
 | [],fb,h=>by simp only [bP] at h; subst h; rfl
 | c :: cs,fb,h=>by
  simp only [bP] at h;obtain ⟨a,r,rfl,_,h⟩:=h;simp [kX h]
theorem UR:∀ {l m:List Cs} {fb bs:List AV},bP l fb->bP m bs->bP (l++m) (fb++bs)
 | [],m,fb,bs,h,h'=>by simp only [bP] at h; subst h; exact h'
 | c :: cs,m,fb,bs,h,h'=>by
  simp only [bP] at h;obtain ⟨a,r,rfl,h0,h⟩:=h;exact ⟨a,r++bs,rfl,h0,UR h h'⟩
section
variable {H:Type} {enc:TypeId × Value->H} {P:Program} {w:World} {base:Nat} {spare:Nat->Bool} {held:Bool}
theorem S4 {av:Av} {b sz:Nat}:∀ {els:List (List AV)} {off:Nat},(∀ fb∈els,fb.length=sz)->(∀ (i:Nat) (fb:List AV),els[i]?=some fb->SE av w fb b (off + i * sz))->Rows av w els b off
 | [],_,_,_=>by simp [Rows]
 | fb :: r,off,hl,h=>by
  simp only [Rows];have h0:=h 0 fb rfl;rw [Nat.zero_mul,Nat.add_zero] at h0;refine ⟨h0,S4 (fun x hx=>hl x (yh _ hx)) fun i x hx=>?_⟩;have:=h (i + 1) x (by simpa using hx);rw [hl fb yk,show off + sz + i * sz=off + (i + 1) * sz from by rw [yt]; omega];exact this
abbrev tU:Av:=fun _ _=>False
theorem ZX {r:TypeId->Option (List Cs)} {cs:List Value}
  (ih:∀ (t:TypeId) (sh:List Cs) (n:Nat) (cs:List Value) (x:DataW H × List MemPlace),r t=some sh->DataW.trod enc P w base spare held n t cs=some x->∃ fb,DC tU w fb cs/\bP sh fb) {n:Nat} :
  ∀ (fs:List Field) (off:Nat) (sh:List Cs),shFs P r off fs=some sh->off + sh.length=cs.length->(∀ f∈fs,∃ x,DataW.trod enc P w base spare held n f.type ((cs.drop f.offset).take (P.cellsOf f.type))=some x)->∃ fb,DC tU w fb (cs.drop off)/\bP sh fb
 | [],off,sh,h,hl,_=>by
  injection h with h;subst h;refine ⟨[],?_,rfl⟩;rw [ye (by simp at hl; omega)];rfl
 | f :: fs,off,sh,h,hl,hx=>by
  unfold shFs at h;obtain ⟨l,hr,h⟩:=yb.1 h;split at h
  ·rename_i hc;obtain ⟨ho,jd⟩:=hc;obtain ⟨sh',hs,rfl⟩:=yg.1 h;obtain ⟨x,ZN⟩:=hx f yk;obtain ⟨fb,h1,h2⟩:=ih _ _ _ _ _ hr ZN;obtain ⟨bs,h3,h4⟩:=ZX ih fs (off + l.length) sh' hs (by simp at hl; omega) fun g hg=>hx g (yh _ hg)
   refine ⟨fb++bs,?_,UR h2 h4⟩;have:cs.drop off=(cs.drop off).take l.length++cs.drop (off + l.length):=by rw [<- List.drop_drop,yR]
   rw [this];rw [ho,<- jd] at h1;exact qJ h1 h3
  ·cases h
theorem C1 {sz:Nat} {l:List Cs} {cs:List Value} (hl:l.length=sz) (f:∀ i:Nat,i * sz<cs.length\/sz=0->∃ fb,DC tU w fb ((cs.drop (i * sz)).take sz)/\bP l fb) :
  ∀ (n i:Nat),(i + n) * sz=cs.length->∃ fb,DC tU w fb (cs.drop (i * sz))/\bP (yj n l).flatten fb
 | 0,i,h=>by
  refine ⟨[],?_,rfl⟩;rw [ye (by simp at h; omega)];rfl
 | n + 1,i,h=>by
  have h1:(i + 1 + n) * sz=cs.length:=by rw [<- h]; congr 1; omega
  have hs:(i + 1) * sz=i * sz + sz:=yt i sz;have fa:i * sz<cs.length\/sz=0:=by
   rcases yG sz with h0 | h0
   ·exact .inr h0
   ·have:(i + 1) * sz<=(i + (n + 1)) * sz:=yX _ (by omega);omega
  obtain ⟨fb,g1,g2⟩:=f i fa;obtain ⟨av2,g3,g4⟩:=C1 hl f n (i + 1) h1;refine ⟨fb++av2,?_,by rw [List.replicate_succ,yC]; exact UR g2 g4⟩;have:cs.drop (i * sz)=(cs.drop (i * sz)).take sz++cs.drop ((i + 1) * sz):=by rw [hs,<- List.drop_drop,yR]
  rw [this];exact qJ g1 g3
theorem XT:∀ (k:Nat) (t:TypeId) (sh:List Cs) (n:Nat) (cs:List Value) (x:DataW H × List MemPlace),UZ P k t=some sh->DataW.trod enc P w base spare held n t cs=some x->∃ fb,DC tU w fb cs/\bP sh fb
 | 0,_,_,_,_,_,h,_=>by cases h
 | k + 1,t,sh,n,cs,x,h,hx=>by
  unfold UZ at h;split at h
  ·rename_i ht;injection h with h;subst h;obtain ⟨b,rfl,_⟩:=DataW.trod_bool ht hx;exact ⟨[.bool b],⟨_,_,rfl,rfl,rfl,rfl⟩,_,_,rfl,⟨b,rfl⟩,rfl⟩
  ·rename_i kk ht;injection h with h;subst h;obtain ⟨b,rfl,_,hw⟩:=DataW.trod_int ht hx;exact ⟨[.int kk b],⟨_,_,rfl,rfl,rfl,rfl⟩,_,_,rfl,⟨b,rfl,hw⟩,rfl⟩
  ·rename_i ht;injection h with h;subst h;obtain ⟨b,rfl,_,hw⟩:=DataW.trod_string ht hx;exact ⟨[.str b],⟨_,_,rfl,rfl,rfl,rfl⟩,_,_,rfl,⟨b,rfl,hw⟩,rfl⟩
  ·rename_i e ht;obtain ⟨l,hl,h⟩:=yb.1 h;split at h
   ·rename_i hc;injection h with h;subst h;rcases open_slice ht hx with ⟨rfl,_⟩ | ⟨a,len,cap,m,n',D,Pl,rfl,_,ub,pr,hm,_,hi⟩
    ·refine ⟨[.sl true []],⟨_,_,rfl,⟨none,0,rfl,yf _,(fun _ h=>by cases h),fun _=>⟨rfl,rfl,rfl⟩,fun h=>by cases h⟩,rfl,rfl⟩,_,_,rfl,⟨true,[],rfl,Nat.zero_le _,(fun _ h=>by cases h)⟩,rfl⟩
    ·have hmle:len<=m:=by rw [hm]; split <;> omega
     have ka:∀ i:Nat,∃ fb:List AV,i<len->(bP l fb/\∃ us,DC tU w fb us/\us.length=P.cellsOf e/\∀ j,j<P.cellsOf e->w.cell? ((a.add (i * P.cellsOf e)).add j)=us[j]?):=fun i=>by
      by_cases fa:i<len
      ·obtain ⟨us,fl,au⟩:=hi i (by omega);obtain ⟨fb,h1,h2⟩:=XT k e l n' us _ hl au;obtain ⟨_,g1,g2⟩:=World.cells?_some fl;exact ⟨fb,fun _=>⟨h2,us,h1,g1,g2⟩⟩
      ·exact ⟨[],fun h=>absurd h fa⟩
     have ni:=Classical.axiomOfChoice ka;obtain ⟨f,hf⟩:=ni;have ed:∀ fb∈(List.range len).map f,bP l fb:=fun fb ha=>by
      obtain ⟨i,jc,rfl⟩:=yB.1 ha;exact (hf i (List.mem_range.1 jc)).1
     have xu:∀ fb∈(List.range len).map f,fb.length=P.cellsOf e:=fun fb ha=>(kX (ed fb ha)).trans hc.1
     refine ⟨[.sl false ((List.range len).map f)],⟨_,_,rfl,⟨some a,cap,by simp,by simpa using ub,fun x hx y hy=>(xu x hx).trans (xu y hy).symm,(fun h=>by cases h),fun _=>⟨fun h=>(by cases h),fun h0=>?_⟩⟩,rfl,rfl⟩,_,_,rfl,⟨false,_,rfl,by simp; omega,ed⟩,rfl⟩;have sf:0<len:=by simpa using h0
     have ab:0<P.cellsOf e:=by omega
     have aw:∃ b off,a=⟨b,off,none⟩:=by
      obtain ⟨_,us,_,g1,g2⟩:=hf 0 sf;have g3:=g2 0 ab;simp only [Nat.zero_mul,Addr.add,if_true] at g3;rw [y4 (by omega)] at g3;obtain ⟨b,off,sp⟩:=a;cases sp with
      | none=>exact ⟨b,off,rfl⟩
      | some q =>
       simp only [World.cell?] at g3;split at g3
       ·simp at g3
       ·cases g3
     obtain ⟨b,off,rfl⟩:=aw;refine ⟨b,off,rfl,S4 xu fun i fb xo=>?_⟩;rw [y8] at xo;obtain ⟨i',jc,rfl⟩:=yg.1 xo;rw [ym] at jc;obtain ⟨fa,he⟩:=jc;simp at fa he;subst he;obtain ⟨_,us,g0,g1,g2⟩:=hf i fa;refine cJ g0 fun j u hu=>⟨?_,fun h=>h⟩
     have hj:j<P.cellsOf e:=by rw [<- g1]; exact (ym.1 hu).1
     have:=g2 j hj;rw [Addr.add_lit,Addr.add_lit,hu] at this;exact this
   ·cases h
  ·rename_i fs ht;obtain ⟨l,hl,h⟩:=yb.1 h;split at h
   ·rename_i hc;injection h with h;subst h;obtain ⟨xs,n',rfl,_,ba,hxl,hf⟩:=DataW.trod_struct ht hx;have:=ZX (cs:=cs) (n:=n') (fun t sh n cs x=>XT k t sh n cs x) fs.toList 0 l hl (by omega) fun g hg=>by
     obtain ⟨i,hi,he⟩:=yy hg;have jc:i<fs.size:=by simpa using hi
     have h1:=hf i g (by rw [<- he]; simp [jc]);exact ⟨xs[i]'(by omega),by rw [h1]; exact y4 (by omega)⟩
    simpa using this
   ·cases h
  ·rename_i n' e ht;unfold shArr at h;obtain ⟨l,hl,h⟩:=yb.1 h;split at h
   ·rename_i hc;injection h with h;subst h;obtain ⟨xs,m,rfl,_,ba,hxl,hf⟩:=DataW.trod_array ht hx;have hz:∀ i,i<n'->∃ fb,DC tU w fb ((cs.drop (i * P.cellsOf e)).take (P.cellsOf e))/\bP l fb:=fun i hi=>by
     have h1:=hf i hi;rw [y4 (by omega)] at h1;exact XT k e l m _ _ hl h1
    rcases yG l.length with h0 | h0
    ·have xf:l=[]:=yF h0;subst xf;have di:cs=[]:=yF (by rw [ba,<- hc.2]; simp);subst di;exact ⟨[],rfl,by simp [bP]⟩
    ·have:=C1 (cs:=cs) hc.1 (fun i hi=>hz i (by
      rcases hi with hi | hi
      ·rw [ba,<- hc.2,hc.1] at hi;exact Nat.lt_of_mul_lt_mul_right hi
      ·omega)) n' 0 (by rw [yD,ba,<- hc.2,hc.1])
     simpa using this
   ·cases h
  ·cases h
end
end
section
open Go Go.RowKit Go.ChangeShapes Go.WideShapes Go.Deep
def xF (P:Program) (t:TypeId):Bool:=match P.underlying t with
 | some (.struct _) | some (.array ..)=>true
 | _=>false
def S6 (P:Program) (k:Nat) (t:TypeId) (a:AV):Prop:=∃ sh,UZ P k t=some sh/\((xF P t=true/\∃ cs,a=.agg cs/\bP sh cs)\/(xF P t=false/\bP sh [a]))
def X9 (P:Program) (k:Nat):List TypeId->List AV->Prop
 | [],xs=>xs=[]
 | t :: ts,xs=>∃ a r,xs=a :: r/\S6 P k t a/\X9 P k ts r
section
variable {H:Type} {enc:TypeId × Value->H} {P:Program} {w:World} {base:Nat} {spare:Nat->Bool} {held:Bool}
theorem par_rep {k:Nat} {t:TypeId} {r:Reach} {b0:Nat} {v:Value} {d:DataW H} {p:List MemPlace} (hs:(UZ P k t).isSome=true) (hv:Value.okWide P w r b0 t v) (h:DataW.Trod enc P w base spare held t v d p) :
  ∃ a,NA Ix.none tU tU w a v/\S6 P k t a:=by
 obtain ⟨sh,gn⟩:=Option.isSome_iff_exists.1 hs;obtain ⟨fuel,hf⟩:=h;obtain ⟨xs,h1,h2⟩:=XT k t sh fuel _ _ gn hf;have one:∀ (u:Value),v=u->v.cells.toList=[u]->(∃ c,sh=[c])->xF P t=false->(∀ a,bP sh [a]->a.leaf=true)->∃ a,NA Ix.none tU tU w a v/\S6 P k t a:=fun u hu hc ⟨c,lf⟩ hw jm=>by
  subst lf;have ci:=h2;simp only [bP] at h2;obtain ⟨a,_,rfl,_,rfl⟩:=h2;rw [hc] at h1;simp only [DC] at h1;obtain ⟨u',_,e,h0,_,_⟩:=h1;injection e with e;subst e;exact ⟨a,by rw [hu]; exact DP h0 (jm a ci),[c],gn,.inr ⟨hw,ci⟩⟩
 cases k with
 | zero=>cases gn
 | succ k =>
  have oi:=gn;unfold UZ at oi;split at oi
  ·rename_i ht;injection oi with e;obtain ⟨b,rfl⟩:=okWide_bool ht hv;refine one _ rfl rfl ⟨_,e.symm⟩ (by simp [xF,ht]) fun a ha=>?_
   subst e;simp only [bP] at ha;obtain ⟨_,_,e,hc,_⟩:=ha;simp only [TyC] at hc;obtain ⟨b',rfl⟩:=hc;injection e with e;subst e;rfl
  ·rename_i kk ht;injection oi with e;obtain ⟨b,rfl⟩:=okWide_int ht hv;refine one _ rfl rfl ⟨_,e.symm⟩ (by simp [xF,ht]) fun a ha=>?_
   subst e;simp only [bP] at ha;obtain ⟨_,_,e,hc,_⟩:=ha;simp only [TyC] at hc;obtain ⟨b',rfl,_⟩:=hc;injection e with e;subst e;rfl
  ·rename_i ht;injection oi with e;obtain ⟨b,rfl⟩:=okWide_string ht hv;refine one _ rfl rfl ⟨_,e.symm⟩ (by simp [xF,ht]) fun a ha=>?_
   subst e;simp only [bP] at ha;obtain ⟨_,_,e,hc,_⟩:=ha;simp only [TyC] at hc;obtain ⟨b',rfl,_⟩:=hc;injection e with e;subst e;rfl
  ·rename_i e' ht;obtain ⟨l,_,oi⟩:=yb.1 oi;split at oi
   ·injection oi with e;obtain ⟨A,n,c,rfl⟩:=okWide_slice ht hv;refine one _ rfl rfl ⟨_,e.symm⟩ (by simp [xF,ht]) fun a ha=>?_
    subst e;simp only [bP] at ha;obtain ⟨_,_,e,hc,_⟩:=ha;simp only [TyC] at hc;obtain ⟨nl,els,rfl,_⟩:=hc;injection e with e;subst e;rfl
   ·cases oi
  ·rename_i fs ht;have:∃ cs,v=.agg cs:=by
    simp only [Value.okWide,ht] at hv;obtain ⟨cs,hv,_⟩:=hv;exact ⟨cs,hv⟩
   obtain ⟨cs,rfl⟩:=this;exact ⟨.agg xs,⟨cs,rfl,mD h1⟩,sh,gn,.inl ⟨by simp [xF,ht],xs,rfl,h2⟩⟩
  ·rename_i n' e' ht;have:∃ cs,v=.agg cs:=by
    simp only [Value.okWide,ht] at hv;obtain ⟨cs,hv,_⟩:=hv;exact ⟨cs,hv⟩
   obtain ⟨cs,rfl⟩:=this;exact ⟨.agg xs,⟨cs,rfl,mD h1⟩,sh,gn,.inl ⟨by simp [xF,ht],xs,rfl,h2⟩⟩
  ·cases oi
theorem X6 {k:Nat} {r:Reach} {b0:Nat}:∀ {ts:List TypeId} {vs:List Value} {ds:List (DataW H)} {p:List MemPlace},DataW.TrodAll enc P w base spare held ts vs ds p->(∀ (j:Nat) t v,ts[j]?=some t->vs[j]?=some v->Value.okWide P w r b0 t v)->ts.all (fun t=>(UZ P k t).isSome)=true →
  ∃ xs,gL Ix.none tU tU w xs vs/\X9 P k ts xs
 | [],vs,ds,p,h,_,_=>by
  cases vs with
  | nil=>exact ⟨[],rfl,rfl⟩
  | cons=>cases ds <;> exact h.elim
 | t :: ts,vs,ds,p,h,hv,hs=>by
  obtain ⟨v,xt,d,ds',p',q',rfl,rfl,rfl,h0,h⟩:=trodAll_cons h;simp only [List.all_cons,y7] at hs;obtain ⟨a,h1,h2⟩:=par_rep hs.1 (hv 0 t v rfl rfl) h0;obtain ⟨xs,h3,h4⟩:=X6 h (fun j t' v' e e'=>hv (j + 1) t' v' (by simpa using e) (by simpa using e')) hs.2;exact ⟨a :: xs,⟨v,xt,rfl,h1,h3⟩,a,xs,rfl,h2,h4⟩
theorem sU (hl:laidOutB P=true) {W W':World} (hb:Below W.heap.size W W'):∀ {ts:List TypeId} {vs:List Value} {ds:List (DataW H)} {p:List MemPlace},DataW.TrodAll enc P W 0 (fun _=>true) true ts vs ds p->ts.all (fun t=>P.readableRec t&&decide (t<P.types.size))=true →
  DataW.TrodAll enc P W' 0 (fun b=>decide (b<W.heap.size)) true ts vs ds p
 | [],vs,ds,p,h,_=>by
  cases vs with
  | nil=>cases ds with
   | nil=>exact h
   | cons=>exact h.elim
  | cons=>cases ds <;> exact h.elim
 | t :: ts,vs,ds,p,h,hs=>by
  have fa:=DataW.TrodAll.lt h;obtain ⟨v,xt,d,ds',p',q',rfl,rfl,rfl,h0,h⟩:=trodAll_cons h;simp only [List.all_cons,y7,decide_eq_true_eq] at hs;exact trodAll_cons_mk (Below.trod hl hs.1.1 hs.1.2 h0 hb fun x hx=>fa x (List.mem_append_left _ hx)) (sU hl hb h hs.2)
end
end
section
open Go Go.RowKit
theorem uBp:Tryz.prog.underlying 273=some (.pointer 275):=by kernel_rfl
theorem uBs:Tryz.prog.underlying 28=some (.slice 5):=by kernel_rfl
theorem uBu:Tryz.prog.underlying 292=some (.pointer 5):=by kernel_rfl
theorem P9:Tryz.prog.underlying 9=some .string:=by kernel_rfl
theorem uBint:Tryz.prog.underlying 3=some (.int .i64):=by kernel_rfl
theorem xO:Tryz.prog.underlying 295=some .unsafePointer:=by kernel_rfl
theorem iB8:(Tryz.prog.info? 5).map (fun i=>(i.zero,i.size,i.bytes))=some (some (.int .u8 0),1,1):=by kernel_rfl
theorem iBb:(Tryz.prog.info? 275).map (fun i=>i.size)=some 2:=by kernel_rfl
theorem liesB:liesAt Tryz.prog Tryz.prog.depth 275 (2 / Tryz.prog.cellsOf 275) 0 275 1=true:=by kernel_rfl
theorem cB8:Tryz.prog.cellsOf 5=1:=by kernel_rfl
section
variable {P:Program}
theorem BZ (w:World) (t u ty e:TypeId) (i:TypeInfo) (ht:P.underlying t=some (.slice e)) (hu:P.underlying u=some .string) (hi:P.info? e=some i) (hz:i.zero=some (.int .u8 0)) (kh:i.size=1) (mr:i.bytes=1)
  (v:Value) (n:Nat) (xs:List Value) (sm:w.ownsRowF 0 e 1 v n xs) (s:ByteArray) (h63:n + s.size<=maxLen) (ge:n + s.size<=140737488355328) :
  ∃ v' w',(Builtin.append_ #[t,u] ty #[v,.string s]).run P w=.ok v' w'/\w'.ownsRowF 0 e 1 v' (n + s.size) (xs++Go.Lib.strCells s)/\w.grownBy w' v.ownBlock/\∀ k,v'.ownBlock=some k->v.ownBlock=some k\/w.heap.size<=k:=by
 rcases sm.2 with ⟨rfl,hn⟩ | ⟨g,cap,cur,fz,rfl,hbg,hg,hfz,hnc,pr,di,wz⟩
 ·obtain ⟨v',w',h1,h2,h3,_⟩:=Go.Lib.run_append_own_stringF (P:=P) w w.heap.size t u ty e i ht hu hi hz kh mr _ n xs ⟨sm.1,.inl ⟨rfl,hn⟩⟩ s h63 ge (yf _);refine ⟨v',w',h1,⟨h2.1,?_⟩,h3,fun k hk=>.inr ?_⟩
  ·rcases h2.2 with hn | ⟨g,cap,cur,fz,hv,hb,rest⟩
   ·exact .inl hn
   ·exact .inr ⟨g,cap,cur,fz,hv,Nat.zero_le _,rest⟩
  ·rcases h2.2 with ⟨hv,_⟩ | ⟨g,cap,cur,fz,hv,hb,rest⟩
   ·rw [hv] at hk; cases hk
   ·rw [hv] at hk; injection hk with hk; have hk:g=k:=hk; omega
 ·obtain ⟨v',w',h1,h2,h3,_⟩:=Go.Lib.run_append_own_stringF (P:=P) w 0 t u ty e i ht hu hi hz kh mr _ n xs sm s h63 ge (Nat.zero_le _);refine ⟨v',w',h1,h2,h3,fun k hk=>?_⟩;have hxl:xs.length=n:=by simpa using sm.1
  by_cases ja:n + s.size<=cap
  ·have hcs':cur.size=cap:=by simpa using di
   have hr:=Go.Lib.run_append_room_stringF (P:=P) w t u ty e i ht hu hi kh g n cap cur fz hg (by simpa using hfz) s ja (by omega);rw [h1] at hr;injection hr with hv _;rw [hv] at hk;exact .inl hk
  ·have holds:∀ j u,xs[j]?=some u->w.cell? ((⟨g,0,none⟩:Addr).add j)=some u:=sm.cells (g:=g) rfl;have hr:=Go.Lib.run_append_grow_string (P:=P) w t u ty e i (.int .u8 0) ht hu hi hz ⟨g,0,none⟩ n cap xs (by rw [kh]; simpa using hxl) holds s (by unfold maxLen at h63; omega) (by unfold maxLen at h63; omega) (by rw [mr]; exact growslice_fits (by omega) (by omega));rw [h1] at hr;injection hr with hv _;rw [hv] at hk;injection hk with hk;have hk:w.heap.size=k:=hk;exact .inr (by omega)
end
theorem D1 {P:Program} (w:World) {ops:Array Oper} {rest:List Oper} {o:Oper} {a:Act} {Q:Exit->Act->World->Prop} (hgd:o.guard=none) (s x:Operand) (t t':TypeId)
  (ho:o.op=.call { callee:=.builtin .append,args:=#[s,x],argTypes:=#[t,t'] }) (v u:Value) (hs:a.eval s=v) (hx:a.eval x=u) {v':Value} {w':World}
  (hr:(Builtin.append_ #[t,t'] o.type #[v,u]).run P w=.ok v' w') (h:wpList P ops Q rest (a.put o.dst v') w'):wpList P ops Q (o :: rest) a w:=by
 refine wpList_plain hgd fun K hK=>?_
 unfold Oper.wp execOp;simp only [ho,resolve,invoke,builtin,Sem.run_bind,Sem.run_pure,Result.andThen_ok,List.map_toArray,yl,yo,hs,hx,hr];exact hK _ _ h
set_option maxHeartbeats 1000000
theorem C6 (b:Nat) (w:World) (h0:w.cell? ⟨b,0,none⟩=some (.pointer (some ⟨b,0,none⟩))) :
  Calls Tryz.prog 253 #[.pointer (some ⟨b,0,none⟩)] w fun e w'=>e=.returned (.tuple #[])/\w'=w:=by
 obtain ⟨j,hj,_⟩:=yg.1 iBb;have u1:=run_underlying uBp; have u2:=run_underlying uBs; have u3:=run_underlying uBu; have u4:=run_underlying P9; have u5:=run_underlying uBint; have u6:=run_underlying xO
 go_enter Tryz.func253,Tryz.ntmps253
 go_wp2
 rw [Go.Lib.run_neq_ptr_same w _ uBp hj]
 go_wp2
 go_end0
 exact ⟨rfl,rfl⟩
theorem J4 (b:Nat) (w:World) (h0:w.cell? ⟨b,0,none⟩=some (.pointer none)) (gn:w.shape? b=some (275,2)) (hfz:w.frozen? ⟨b,0,none⟩=false) :
  Calls Tryz.prog 253 #[.pointer (some ⟨b,0,none⟩)] w fun e w'=>e=.returned (.tuple #[])/\w'=w.setCell ⟨b,0,none⟩ (.pointer (some ⟨b,0,none⟩)):=by
 obtain ⟨j,hj,hjs⟩:=yg.1 iBb;have u1:=run_underlying uBp; have u2:=run_underlying uBs; have u3:=run_underlying uBu; have u4:=run_underlying P9; have u5:=run_underlying uBint; have u6:=run_underlying xO
 go_enter Tryz.func253,Tryz.ntmps253
 go_wp2
 rw [Go.Lib.run_to_unsafe w ⟨b,0,none⟩ uBp xO hj (by rw [hjs]; decide) gn (Nat.zero_lt_succ 1)];simp only [Result.andThen];rw [Oper.upon_value]
 go_wp2
 rw [run_callFunc_extern Tryz.func255 (by kernel_rfl) (by kernel_rfl) (by kernel_rfl) (e:=Extern.AbiNoEscape.same) (by kernel_rfl)];rw [Go.Lib.run_noEscape];simp only [Result.andThen];rw [Oper.upon_value]
 go_wp2
 rw [Go.Lib.run_from_unsafe w ⟨b,0,none⟩ xO uBp hj gn liesB];simp only [Result.andThen];rw [Oper.upon_value]
 go_wp2
 go_end0
 exact ⟨rfl,rfl⟩
theorem bcheck (b:Nat) (q v:Value) (w:World) (kr:w.heap[b]?=some (.cells #[q,v] 275 (0,0))) (hq:q=.pointer none\/q=.pointer (some ⟨b,0,none⟩)) :
  Calls Tryz.prog 253 #[.pointer (some ⟨b,0,none⟩)] w fun e w'=>e=.returned (.tuple #[])/\w'.heap[b]?=some (.cells #[.pointer (some ⟨b,0,none⟩),v] 275 (0,0))/\QC (fun k=>k=b) w w':=by
 have fa:=TA kr;rcases hq with rfl | rfl
 ·refine (J4 b w (by rw [Go.Lib.cell_of_heap kr]; rfl) (by simp [World.shape?,kr]) (by simp [World.frozen?,kr])).mono ?_;rintro e w' ⟨rfl,rfl⟩;refine ⟨rfl,by simp [World.setCell,Array.getElem?_modify,kr],⟨rfl,rfl,rfl,by simp [World.setCell],fun k _ hk=>Below.heap_setCell _ _ _ _ (fun e=>hk (by simp [e]))⟩⟩
 ·refine (C6 b w (by rw [Go.Lib.cell_of_heap kr]; rfl)).mono ?_;rintro e w' ⟨rfl,rfl⟩;exact ⟨rfl,kr,QC.refl _ _⟩
theorem bwrite (b:Nat) (q v:Value) (bs:List Value) (s:ByteArray) (w:World) (kr:w.heap[b]?=some (.cells #[q,v] 275 (0,0))) (hq:q=.pointer none\/q=.pointer (some ⟨b,0,none⟩)) (sm:w.ownsRowF 0 5 1 v bs.length bs) (ta:v.ownBlock≠some b) (ba:bs.length + s.size<=140737488355328) :
  Calls Tryz.prog 238 #[.pointer (some ⟨b,0,none⟩),.string s] w fun e w'=>e=.returned (.tuple #[.int .i64 s.size,.nilIface])/\∃ v',w'.heap[b]?=some (.cells #[.pointer (some ⟨b,0,none⟩),v'] 275 (0,0))/\w'.ownsRowF 0 5 1 v' (bs.length + s.size) (bs++Go.Lib.strCells s)/\QC (fun k=>k=b\/v.ownBlock=some k) w w'/\(∀ k,v'.ownBlock=some k->v.ownBlock=some k\/w.heap.size<=k):=by
 obtain ⟨i0,hi,bc,tt,hz2⟩:=info_parts iB8;have u1:=run_underlying uBp; have u2:=run_underlying uBs; have u3:=run_underlying uBu; have u4:=run_underlying P9; have u5:=run_underlying uBint; have u6:=run_underlying xO;have fa:=TA kr
 go_enter Tryz.func238,Tryz.ntmps238
 go_wp2_with fail
 refine (bcheck b q v _ kr hq).mono ?_;rintro e w1 ⟨rfl,h1,wc⟩;have hown1:w1.ownsRowF 0 5 1 v bs.length bs:=by
  refine ⟨sm.1,?_⟩;rcases sm.2 with hn | ⟨g,cap,cur,fz,rfl,hb,dl,rest⟩
  ·exact .inl hn
  ·exact .inr ⟨g,cap,cur,fz,rfl,hb,(wc.block g (TA dl) (fun e=>ta (by rw [<- e]; rfl))).trans dl,rest⟩
 have c0:w1.cell? ⟨b,0,none⟩=some (.pointer (some ⟨b,0,none⟩)):=by rw [Go.Lib.cell_of_heap h1]; rfl
 have c1:w1.cell? ⟨b,1,none⟩=some v:=by rw [Go.Lib.cell_of_heap h1]; rfl
 obtain ⟨v',w2,ia,uq,tj,uf⟩:=BZ (P:=Tryz.prog) w1 28 9 28 5 i0 uBs P9 hi bc tt hz2 v _ bs hown1 s (by unfold maxLen; omega) ba;have hlt1:=TA h1;have jr:w2.heap[b]?=some (.cells #[.pointer (some ⟨b,0,none⟩),v] 275 (0,0)):=by
  rw [tj.block b hlt1 (fun e=>ta e.symm)];exact h1
 have d0:w2.cell? ⟨b,0,none⟩=some (.pointer (some ⟨b,0,none⟩)):=by rw [Go.Lib.cell_of_heap jr]; rfl
 have d1:w2.cell? ⟨b,1,none⟩=some v:=by rw [Go.Lib.cell_of_heap jr]; rfl
 have f1:w2.frozen? ⟨b,1,none⟩=false:=Go.Lib.frozen_of_heap jr 1;obtain ⟨ao,n',cap,rfl⟩:∃ ao n' cap,v'=.slice ao n' cap:=by
  rcases uq.2 with ⟨hv,_⟩ | ⟨g,cap,cur,fz,hv,_⟩
  ·exact ⟨_,_,_,hv⟩
  ·exact ⟨_,_,_,hv⟩
 go_wp2_with (at_builtin; refine D1 _ rfl _ _ 28 9 rfl v (.string s) rfl rfl ia ?_)
 go_ret2
 have hgb:∀ g,(Value.slice ao n' cap).ownBlock=some g->g≠b:=fun g hg e=>by
  subst e;rcases uq.2 with ⟨hv,_⟩ | ⟨g',cap',cur,fz,hv,_,dl,_⟩
  ·rw [hv] at hg; cases hg
  ·rw [hv] at hg;injection hg with hg;have hg:g'=g:=hg;rw [hg,jr] at dl;injection dl with dl;injection dl with _ dl;exact absurd dl (by decide)
 refine ⟨rfl,.slice ao n' cap,by simp [World.setCell,Array.getElem?_modify,jr],⟨uq.1,?_⟩,?_,fun k hk=>(uf k hk).imp id (fun h=>yw wc.size h)⟩
 ·rcases uq.2 with hn | ⟨g,cap',cur,fz,hv,hb,dl,rest⟩
  ·exact .inl hn
  ·exact .inr ⟨g,cap',cur,fz,hv,hb,(Below.heap_setCell _ _ _ _ (fun e=>hgb g (by rw [hv]; rfl) (by simpa using e))).trans dl,rest⟩
 ·refine ⟨tj.os.trans wc.os,tj.tape.trans wc.tape,tj.output.trans wc.output,?_,fun k hk hf=>?_⟩
  ·have:=wc.size; have:=tj.size; simp [World.setCell]; omega
  ·rw [Below.heap_setCell _ _ _ _ (fun e=>hf (.inl (by simpa using e)))];rw [tj.block k (yW hk wc.size) (fun e=>hf (.inr e.symm))];exact wc.block k hk (fun e=>hf (.inl e))
theorem u7 (b:Nat) (q:Value) (sl:Value) (A:Option Addr) (n c:Nat) (te:sl=.slice A n c) (p:Value) (s:ByteArray) (w w1 w2:World) (kr:w.heap[b]?=some (.cells #[q,sl] 275 (0,0)))
  (hSD:(Builtin.unsafeSliceData_ #[28] 292 #[.slice A n c]).run Tryz.prog w.drew=.ok p w1) (h1:w1.heap[b]?=w.heap[b]?) (hUS:(Builtin.unsafeString_ #[292,3] 9 #[p,.int .i64 n]).run Tryz.prog w1=.ok (.string s) w2) :
  Calls Tryz.prog 240 #[.pointer (some ⟨b,0,none⟩)] w fun e w'=>e=.returned (.string s)/\w'=w2:=by
 subst te;have hd:w.drew.heap[b]?=some (.cells #[q,.slice A n c] 275 (0,0)):=kr;have c1:w.drew.cell? ⟨b,1,none⟩=some (.slice A n c):=by rw [Go.Lib.cell_of_heap hd]; rfl
 have c2:w1.cell? ⟨b,1,none⟩=some (.slice A n c):=by rw [Go.Lib.cell_of_heap (h1.trans kr)]; rfl
 have u1:=run_underlying uBp; have u2:=run_underlying uBs; have u3:=run_underlying uBu; have u4:=run_underlying P9; have u5:=run_underlying uBint; have u6:=run_underlying xO;have mixed:Tryz.prog.follows .mixedOrders=true:=by kernel_rfl
 go_enter Tryz.func240,Tryz.ntmps240
 go_wp2
 go_region_o
 all_goals (go_wp2; go_ret; exact ⟨rfl,rfl⟩)
end
section
open Go Go.RowKit
variable {O:GI}
theorem L7 {w:World} (g o n:Nat):QC (fun k=>k=g) w (w.freeze ⟨g,o,none⟩ n):=by
 unfold World.freeze;split
 ·exact QC.refl _ _
 ·exact ⟨rfl,rfl,rfl,by simp,fun k _ hk=>by
   simp only [Array.getElem?_modify];rw [if_neg (fun e=>hk e.symm)]⟩
theorem XW (a s:ByteArray):Go.Lib.strCells (a++s)=Go.Lib.strCells a++Go.Lib.strCells s:=by
 simp [Go.Lib.strCells,ByteArray.data_append]
theorem bld_write (a s:ByteArray) (ba:a.size + s.size<=140737488355328) :
  tD Tryz.prog O 238 [.ptr 0 0 0,.str s] (some (iH 275 5 a)) (.tup [.int .i64 s.size,.undef],some (iH 275 5 (a++s))):=by
 refine (tD.of rfl).2 ⟨enters_of Tryz.func238 (by kernel_rfl) rfl,?_⟩;intro av w vs p H zd hH ic fc;rw [O.blds] at ic;obtain ⟨v,q,h1,h2,h3,h4,h5⟩:=ic;simp only [gL] at fc;obtain ⟨u,us,rfl,hu,u2,us2,rfl,hu2,rfl⟩:=fc;rw [AF] at hu;obtain ⟨b,hb,rfl⟩:=hu;have hbp:p=b:=by
  have:(if (0:Nat)=0/\(0:Nat)=0 then some p else none)=some b:=hb;simpa using this
 subst hbp;rw [GG] at hu2;subst hu2;have hl:(Go.Lib.strCells a).length=a.size:=Go.Lib.strCells_length a;refine (bwrite p q v (Go.Lib.strCells a) s w h1 h2 (by rw [hl]; exact h3) h4 (by rw [hl]; exact ba)).mono ?_;rintro e w' ⟨rfl,v',g1,g2,g3,g4⟩;have hne':v'.ownBlock≠some p:=fun e=>by
  rcases g2.2 with ⟨hv,_⟩ | ⟨g',cap',cur,fz,hv,_,dl,_⟩
  ·rw [hv] at e; cases e
  ·rw [hv] at e;injection e with e;have e:g'=p:=e;rw [e,g1] at dl;injection dl with dl;injection dl with _ dl;exact absurd dl (by decide)
 refine ⟨_,fun k=>k=p\/v'.ownBlock=some k,rfl,?_,?_,?_,?_⟩
 ·refine ⟨_,rfl,_,_,rfl,by simp [bE],_,_,rfl,trivial,rfl⟩
 ·rw [O.blds];refine ⟨v',_,g1,.inr rfl,?_,hne',fun b=>Iff.rfl⟩;rw [XW,show (a++s).size=a.size + s.size from by simp [ByteArray.size_append]];rw [hl] at g2;exact g2
 ·rintro k (rfl | hk)
  ·exact .inl ((h5 _).2 (.inl rfl))
  ·exact (g4 k hk).imp (fun h=>(h5 k).2 (.inr h)) id
 ·exact g3.mono fun k _ hk=>(h5 k).2 hk
theorem own_frz {w:World} {e:TypeId} {g n c:Nat} {xs:List Value} (h:w.ownsRowF 0 e 1 (.slice (some ⟨g,0,none⟩) n c) n xs):(w.freeze ⟨g,0,none⟩ n).ownsRowF 0 e 1 (.slice (some ⟨g,0,none⟩) n c) n xs:=by
 refine ⟨h.1,?_⟩;rcases h.2 with ⟨hv,_⟩ | ⟨g',cap,cur,⟨lo,hi⟩,hv,hb,hg,hf,rest⟩
 ·cases hv
 ·injection hv with h1 h2 h3;injection h1 with h1;injection h1 with h1;subst h1;subst h3;unfold World.freeze;split
  ·exact .inr ⟨_,_,cur,⟨lo,hi⟩,rfl,hb,hg,hf,rest⟩
  ·refine .inr ⟨g,c,cur,if lo == hi then (0,n) else (min lo 0,max hi n),rfl,hb,?_,?_,rest⟩
   ·simp only [Array.getElem?_modify,if_true,hg,yq,yD]
   ·simp only at hf;split
    ·simp
    ·simp only; omega
theorem bld_string (a:ByteArray) :
  tD Tryz.prog O 240 [.ptr 0 0 0] (some (iH 275 5 a)) (.str a,some (iH 275 5 a)):=by
 refine (tD.of rfl).2 ⟨enters_of Tryz.func240 (by kernel_rfl) rfl,?_⟩;intro av w vs p H zd hH ic fc;rw [O.blds] at ic;have hat0:=ic;obtain ⟨v,q,h1,h2,h3,h4,h5⟩:=ic;simp only [gL] at fc;obtain ⟨u,us,rfl,hu,rfl⟩:=fc;rw [AF] at hu;obtain ⟨b,hb,rfl⟩:=hu;have hbp:p=b:=by
  have:(if (0:Nat)=0/\(0:Nat)=0 then some p else none)=some b:=hb;simpa using this
 subst hbp;have fa:=TA h1;have hl:(Go.Lib.strCells a).length=a.size:=Go.Lib.strCells_length a;have fin:∀ (A:Option Addr) (n c:Nat) (pp:Value) (w1 w2:World),v=.slice A n c->(Builtin.unsafeSliceData_ #[28] 292 #[.slice A n c]).run Tryz.prog w.drew=.ok pp w1->w1.heap[p]?=w.heap[p]?->(Builtin.unsafeString_ #[292,3] 9 #[pp,.int .i64 n]).run Tryz.prog w1=.ok (.string a) w2->QC (fun k=>v.ownBlock=some k) w w2->w2.ownsRowF 0 5 1 v a.size (Go.Lib.strCells a) →
   Calls Tryz.prog 240 #[.pointer (some ⟨p,0,none⟩)] w fun e w'=>∃ v H',e=.returned v/\bE (fun b o=>av b o\/H' b) w' (.str a) v/\O.at_ (iH 275 5 a) H' p w'/\(∀ b,H' b->H b\/w.heap.size<=b)/\QC H w w':=fun A n c pp w1 w2 hv hSD ri hUS hk ho=>by
  refine (u7 p q v A n c hv pp a w w1 w2 h1 hSD ri hUS).mono ?_;rintro e w' ⟨rfl,rfl⟩;refine ⟨_,H,rfl,rfl,?_,fun b h=>.inl h,hk.mono fun k _ h=>(h5 k).2 (.inr h)⟩;rw [O.blds];exact ⟨v,q,(hk.block p fa h4).trans h1,h2,ho,h4,h5⟩
 have pe:a.size<=9223372036854775807\/True:=.inr trivial;have wo:a.size=0->a=ByteArray.empty:=fun h=>by
  obtain ⟨d⟩:=a;have h:d.size=0:=h;have:d=#[]:=Array.eq_empty_of_size_eq_zero h;subst this;rfl
 rcases h3.2 with ⟨hv,hn⟩ | ⟨g,cap,cur,fz,hv,hbg,hg,hfz,hnc,pr,di,wz⟩
 ·refine fin none 0 0 (.pointer none) w.drew w.drew hv rfl rfl ?_ (QC.refl _ w).drew h3;rw [wo hn];exact Go.Lib.run_unsafeString_none _ _ _ _ _
 ·have ac:w.drew.heap[g]?=some (.cells cur 5 fz):=hg;by_cases h0:a.size=0
  ·by_cases kq:cap=0
   ·subst kq;have hSD:=Go.Lib.run_unsafeSliceData_zero (P:=Tryz.prog) w.drew #[28] 292 5 uBu ⟨g,0,none⟩ a.size (5,cur.size) (by simp [World.shape?,ac]);refine fin _ _ _ _ _ (w.drew.alloc (.view ⟨g,0,none⟩ 5)) hv hSD (heap_alloc_old w.drew _ fa) ?_ ((QC.refl _ w).drew.alloc _) ?_
    ·rw [h0,wo h0];exact Go.Lib.run_unsafeString_none _ _ _ _ _
    ·refine ⟨h3.1,.inr ⟨g,0,cur,fz,hv,hbg,(heap_alloc_old w.drew _ (TA hg)).trans hg,hfz,hnc,pr,di,wz⟩⟩
   ·refine fin _ _ _ _ _ w.drew hv (Go.Lib.run_unsafeSliceData_row _ _ _ _ _ _ kq) rfl ?_ (QC.refl _ w).drew h3;rw [h0,wo h0];exact Go.Lib.run_unsafeString_none _ _ _ _ _
  ·have kq:cap≠0:=by omega
   have hal:a.data.toList.length=a.size:=by simp
   have hUS:(Builtin.unsafeString_ #[292,3] 9 #[.pointer (some ⟨g,0,none⟩),.int .i64 a.data.toList.length]).run Tryz.prog w.drew=.ok (.string ⟨a.data.toList.toArray⟩) (w.drew.freeze ⟨g,0,none⟩ a.data.toList.length):=by
    refine Go.Lib.run_unsafeString_row w.drew 292 3 9 5 uBu cB8 g cur.size (by simp [World.shape?,ac]) a.data.toList (fun e=>h0 (by rw [<- hal,e]; rfl)) (by rw [hal]; omega) (by rw [hal]; unfold maxLen at pr; omega) ?_;intro j x hx;have:=h3.cells (g:=g) (by rw [hv]; rfl) j (.int .u8 x.toNat) (by simp only [Go.Lib.strCells,y8,hx,yq]);exact this
   rw [hal] at hUS;refine fin _ _ _ _ _ (w.drew.freeze ⟨g,0,none⟩ a.size) hv (Go.Lib.run_unsafeSliceData_row _ _ _ _ _ _ kq) rfl hUS ?_ ?_
   ·exact ((QC.refl _ w).drew).trans (L7 g 0 a.size) (fun k _ hk=>by rw [hv,hk]; rfl)
   ·have h3':w.drew.ownsRowF 0 5 1 v a.size (Go.Lib.strCells a):=h3;rw [hv] at h3' ⊢;exact own_frz h3'
end
abbrev oM (d n:Nat):PA:=⟨some d,.mv (.t n),none⟩
abbrev oF (d a n:Nat):PA:=⟨some d,.faddr a (.t n),none⟩
abbrev oL (d n:Nat):PA:=⟨some d,.load .any false 1 (.t n),none⟩
abbrev oA (d z n:Nat):PA:=⟨some d,.load .any true z (.t n),none⟩
abbrev oB (d:Nat)(o:BinOp)(a b:Nat):PA:=⟨some d,.bin o false (.t a) (.t b),none⟩
abbrev oC (d:Nat)(o:BinOp)(a:Nat)(n:Int):PA:=⟨some d,.bin o false (.t a) (.c (.int .i64 n)),none⟩
abbrev oX (d n i:Nat):PA:=⟨some d,.ext (.t n) i,none⟩
abbrev oV (z a b:Nat):PA:=⟨none,.store .any true z (.t a) (.t b),none⟩
abbrev oW (a b:Nat):PA:=⟨none,.store .any false 1 (.t a) (.t b),none⟩
abbrev oI (d z a b:Nat):PA:=⟨some d,.iaddr z (.t a) (.t b),none⟩
abbrev oJ (d:Nat)(n:Int):PA:=⟨some d,.mv (.c (.int .i64 n)),none⟩
abbrev oH (d n:Nat):PA:=⟨some d,.len false (.t n),none⟩
abbrev oU (d n:Nat):PA:=⟨some d,.un .not (.t n),none⟩
abbrev oZ (d:Nat)(b:Bool):PA:=⟨some d,.mv (.c (.bool b)),none⟩
abbrev oK (d n:Nat):PA:=⟨some d,.nilchk (.t n),none⟩
abbrev oY (d:Nat)(l:List AV):PA:=⟨some d,.alloc l,none⟩
abbrev oQ (d z n:Nat):PA:=⟨some d,.box z (.t n),none⟩
abbrev oS (d:Nat)(k:K):PA:=⟨some d,k,none⟩
abbrev oN (k:K):PA:=⟨none,k,none⟩
abbrev oG (d:Nat)(k:K)(g:Nat)(b:Bool):PA:=⟨some d,k,some (g,b)⟩
abbrev oP (d n g:Nat)(b:Bool):PA:=⟨some d,.load .any false 1 (.t n),some (g,b)⟩
abbrev oR (l:List PA)(c:C):C:=.seq (.reg l) c
abbrev oD (n:Nat)(a b:C):C:=.cond (.t n) a b
abbrev oFg (d o n g:Nat)(b:Bool):PA:=⟨some d,.faddr o (.t n),some (g,b)⟩
abbrev oPa (d a b:Nat):PA:=⟨some d,.pick (.t a) (.t b) (.c (.bool false)),none⟩
abbrev oPo (d a b:Nat):PA:=⟨some d,.pick (.t a) (.c (.bool true)) (.t b),none⟩
abbrev oMg (d n g:Nat)(b:Bool):PA:=⟨some d,.mv (.t n),some (g,b)⟩
abbrev oC1 (d f a:Nat):PA:=⟨some d,.call .any f [.t a],none⟩
abbrev oC2 (d f a b:Nat):PA:=⟨some d,.call .any f [.t a,.t b],none⟩
abbrev oC4 (d f a b c e:Nat):PA:=⟨some d,.call .any f [.t a,.t b,.t c,.t e],none⟩
abbrev oLr (d r z n:Nat):PA:=⟨some d,.load (.root r) false z (.t n),none⟩
abbrev oLg (d z n g:Nat)(b:Bool):PA:=⟨some d,.load .any true z (.t n),some (g,b)⟩
abbrev oBg (d:Nat)(o:BinOp)(a b g:Nat)(w:Bool):PA:=⟨some d,.bin o false (.t a) (.t b),some (g,w)⟩
abbrev oCi (d:Nat)(o:BinOp)(a:Nat)(n:Int)(g:Nat)(w:Bool):PA:=⟨some d,.bin o false (.t a) (.c (.int .i64 n)),some (g,w)⟩
abbrev oHg (d n g:Nat)(b:Bool):PA:=⟨some d,.len false (.t n),some (g,b)⟩
abbrev oUg (d n g:Nat)(b:Bool):PA:=⟨some d,.un .not (.t n),some (g,b)⟩
abbrev oIg (d z a b g:Nat)(w:Bool):PA:=⟨some d,.iaddr z (.t a) (.t b),some (g,w)⟩
abbrev oAp (d e z y a b:Nat):PA:=⟨some d,.app .any e z y (.t a) (.t b),none⟩
abbrev oPb (d a b g:Nat)(w:Bool):PA:=⟨some d,.pick (.t a) (.t b) (.c (.bool false)),some (g,w)⟩
abbrev oCg (d f a b g:Nat)(w:Bool):PA:=⟨some d,.call .any f [.t a,.t b],some (g,w)⟩
abbrev zza:List AV:=[(.int .i64 0),(.bool false),(.int .i64 0),(.str (ByteArray.mk #[])),(.int .i64 0),(.sl true []),(.sl true []),(.sl true [])]
abbrev zzb:List AV:=[(.int .i64 0),(.str (ByteArray.mk #[])),(.int .i64 0),(.int .i64 0),(.int .i64 0),(.sl true []),(.sl true []),(.int .i64 0),(.int .i64 0),(.bool false)]
abbrev zzc:List AV:=[(.bool false),(.bool false),(.str (ByteArray.mk #[])),(.int .i64 0),(.bool false),(.int .i64 0),(.str (ByteArray.mk #[])),(.int .i64 0),(.sl true []),(.sl true []),(.sl true [])]
abbrev zzd:List AV:=[(.int .i64 0),(.str (ByteArray.mk #[]))]
abbrev zze:List AV:=[(.int .u8 0),(.int .u8 0),(.int .u8 0),(.int .u8 0),(.sl true [])]
abbrev zzf:List AV:=[(.int .i64 0),(.str (ByteArray.mk #[])),(.int .i64 0),(.bool false),(.bool false),(.int .i64 0),(.bool false),(.int .i64 0),(.str (ByteArray.mk #[])),(.int .i64 0),(.sl true []),(.sl true []),(.sl true [])]
abbrev zzg:List AV:=[(.int .u8 0),(.int .u8 0),(.int .u8 0)]
abbrev zzh:List AV:=[(.int .u8 0),(.int .u8 0),(.int .u8 0),(.int .u8 0),(.int .u8 0),(.int .u8 0),(.int .u8 0),(.int .u8 0)]
abbrev zzi:List AV:=[(.int .u8 0),(.int .u8 0),(.int .u8 0),(.int .u8 0),(.int .u8 0),(.int .u8 0),(.int .u8 0),(.int .u8 0),(.int .u8 0),(.int .u8 0)]
noncomputable def cF (l:List Nat) (f:Func):qB:=(BV Tryz.prog l f).getD ⟨.skip,[],0,[]⟩
def kC:qB:=⟨(oR [oQ 2 1 0,oZ 4 false] (.seq (oR [oS 23 (.call .any 21 []),oU 24 23,oM 25 24,oLg 26 1 2 25 false,oG 27 (.call .any 13 [(.t 26)]) 25 false,oUg 28 27 25 false,oPo 29 25 28,oM 30 29,oLg 31 1 2 30 false,oG 32 (.call .any 22 [(.t 31)]) 30 false,oUg 33 32 30 false,oPo 34 30 33] (oD 34 (oR [oS 35 (.call .any 21 []),oM 4 35] .ret) .skip)) (oR [oA 37 1 2,oC1 38 23 37,oM 36 38,oX 39 36 0,oX 40 36 1,oM 5 39,oM 6 40] (oR [oA 42 1 2,oC1 43 24 42,oM 41 43,oX 44 41 0,oX 45 41 1,oM 7 44,oM 8 45] (oR [oA 47 1 2,oM 48 1,oC2 49 25 47 48,oM 46 49,oX 50 46 0,oX 51 46 1,oM 9 50,oM 10 51] (oR [oA 53 1 2,oM 54 1,oC2 55 26 53 54,oM 52 55,oX 56 52 0,oX 57 52 1,oM 11 56,oM 12 57] (oR [oA 59 1 2,oM 60 1,oC2 61 27 59 60,oM 58 61,oX 62 58 0,oX 63 58 1,oM 13 62,oM 14 63] (oR [oA 65 1 2,oM 66 1,oC2 67 28 65 66,oM 64 67,oX 68 64 0,oX 69 64 1,oM 15 68,oM 16 69] (oR [oA 71 1 2,oC1 72 29 71,oM 70 72,oX 73 70 0,oX 74 70 1,oM 17 73,oM 18 74] (oR [oA 76 1 2,oM 77 1,oC2 78 30 76 77,oM 75 78,oX 79 75 0,oX 80 75 1,oY 19 zza,oV 8 19 79,oM 20 80] (oR [oA 82 1 2,oM 83 1,oC2 84 31 82 83,oM 81 84,oX 85 81 0,oX 86 81 1,oY 21 zza,oV 8 21 85,oM 22 86] (oR [oM 87 6,oM 88 8,oB 89 .eql 87 88,oM 90 89,oMg 91 5 90 true,oMg 92 7 90 true,oCg 93 32 91 92 90 true,oPa 94 90 93,oM 95 94,oMg 96 9 95 true,oMg 97 11 95 true,oBg 98 .eql 96 97 95 true,oPa 99 95 98,oM 100 99,oMg 101 10 100 true,oMg 102 12 100 true,oBg 103 .eql 101 102 100 true,oPa 104 100 103,oM 105 104,oMg 106 13 105 true,oMg 107 15 105 true,oG 108 (.bin .eql true (.t 106) (.t 107)) 105 true,oPa 109 105 108,oM 110 109,oMg 111 14 110 true,oMg 112 16 110 true,oBg 113 .eql 111 112 110 true,oPa 114 110 113,oM 115 114,oMg 116 18 115 true,oMg 117 8 115 true,oBg 118 .eql 116 117 115 true,oPa 119 115 118,oM 120 119,oMg 121 20 120 true,oMg 122 22 120 true,oBg 123 .eql 121 122 120 true,oPa 124 120 123,oM 125 124,oLg 126 1 2 125 true,oG 127 (.call .any 33 [(.t 126)]) 125 true,oLg 128 1 2 125 true,oG 129 (.call .any 34 [(.t 128)]) 125 true,oBg 130 .eql 127 129 125 true,oPa 131 125 130,oM 4 131] .ret)))))))))))),[(.tmp 4)],2,[]⟩
theorem okF {n:Nat} {f:Func} {c:qB} (h:Tryz.prog.funcs[n]?=some f) (a:∀ xs w,(callFunc n xs).run Tryz.prog w=.ok (.enter n xs) w:=by intro _ _;kernel_rfl) (b:BV Tryz.prog c.mu f=some c:=by kernel_rfl):QA Tryz.prog n c:=⟨a,f,h,b⟩
theorem XO:QA Tryz.prog 5 kC:=okF Tryz.func5
def MB:qB:=⟨(oR [oQ 2 2 0,oZ 4 false] (oR [oA 17 2 2,oC1 18 35 17,oM 16 18,oX 19 16 0,oX 20 16 1,oS 5 (.alloc [(.sl true [])]),oV 1 5 19,oM 6 20] (.seq (oR [oS 21 (.call .any 21 []),oU 22 21,oM 23 22,oMg 24 6 23 false,oUg 25 24 23 false,oPo 26 23 25] (oD 26 (oR [oS 27 (.call .any 21 []),oM 4 27] .ret) .skip)) (oR [oM 28 1,oS 29 (.conv (.some .i64) (.t 28)),oF 30 0 5,oL 31 30,oH 32 31,oB 33 .rem 29 32,oM 7 33] (oR [oA 35 1 5,oM 36 7,oC2 37 30 35 36,oM 34 37,oX 38 34 0,oX 39 34 1,oY 8 zza,oV 8 8 38,oM 9 39] (oR [oA 41 1 5,oM 42 7,oC2 43 31 41 42,oM 40 43,oX 44 40 0,oX 45 40 1,oY 10 zza,oV 8 10 44,oM 11 45] (oR [oA 47 1 5,oM 48 7,oC2 49 25 47 48,oM 46 49,oX 50 46 0,oX 51 46 1,oM 12 50,oM 13 51] (oR [oA 53 1 5,oM 54 7,oC2 55 26 53 54,oM 52 55,oX 56 52 0,oX 57 52 1,oM 14 56,oM 15 57] (oR [oM 58 9,oM 59 11,oB 60 .eql 58 59,oM 61 60,oLg 62 8 8 61 true,oLg 63 8 10 61 true,oCg 64 36 62 63 61 true,oPa 65 61 64,oM 66 65,oMg 67 13 66 true,oMg 68 15 66 true,oBg 69 .eql 67 68 66 true,oPa 70 66 69,oM 71 70,oMg 72 12 71 true,oMg 73 14 71 true,oBg 74 .eql 72 73 71 true,oPa 75 71 74,oM 4 75] .ret))))))))),[(.tmp 4)],2,[]⟩
theorem TP:QA Tryz.prog 6 MB:=okF Tryz.func6
noncomputable def jP:qB:=cF [] Tryz.f12
theorem jV:QA Tryz.prog 12 jP:=okF Tryz.func12
def dH:C:=.seq (oR [oM 36 6,oF 37 6 5,oL 38 37,oH 39 38,oB 40 .lss 36 39,oM 41 40,oMg 42 6 41 true,oCi 43 .lss 42 100 41 true,oPa 44 41 43] (oD 44 .skip (.exit 2))) (.seq (.block 3 (.reg [oM 47 3,oF 48 6 5,oL 49 48,oM 50 6,oI 51 13 49 50,oF 52 5 51,oA 53 8 52,oC1 54 46 53,oB 55 .add 47 54,oF 56 6 5,oL 57 56,oM 58 6,oI 59 13 57 58,oF 60 1 59,oL 61 60,oS 62 (.len true (.t 61)),oB 63 .add 55 62,oM 3 63])) (.reg [oM 45 6,oC 46 .add 45 1,oM 6 46]))
def GM:C:=.seq (oR [oM 11 4,oF 12 0 1,oL 13 12,oH 14 13,oB 15 .lss 11 14] (oD 15 .skip (.exit 0))) (.seq (.block 1 (oR [oF 18 0 1,oL 19 18,oM 20 4,oI 21 10 19 20,oA 22 10 21,oY 5 zzb,oV 10 5 22] (oR [oM 23 3,oF 24 6 5,oL 25 24,oH 26 25,oB 27 .add 23 26,oF 28 5 5,oL 29 28,oH 30 29,oB 31 .add 27 30,oF 32 1 5,oL 33 32,oS 34 (.len true (.t 33)),oB 35 .add 31 34,oM 3 35] (oR [oJ 6 0] (.block 2 (.loop dH)))))) (.reg [oM 16 4,oC 17 .add 16 1,oM 4 17]))
def cL:qB:=⟨(oR [oQ 1 1 0,oZ 2 false] (.seq (oR [oF 7 0 1,oL 8 7,oH 9 8,oC 10 .gtr 9 40] (oD 10 (oR [oZ 2 false] .ret) .skip)) (oR [oJ 3 0] (.seq (oR [oJ 4 0] (.block 0 (.loop GM))) (oR [oM 64 3,oC 65 .leq 64 400,oM 2 65] .ret))))),[(.tmp 2)],1,[]⟩
theorem R5:QA Tryz.prog 13 cL:=okF Tryz.func13
noncomputable def dR:qB:=cF [] Tryz.f21
theorem WY:QA Tryz.prog 21 dR:=okF Tryz.func21
def zK:C:=oR [oB 10 .lss 9 8] (.seq (oD 10 .skip (.exit 0)) (.seq (.block 1 (oR [oI 11 10 7 9,oA 12 10 11,oY 5 zzb,oV 10 5 12] (.reg [oM 13 3,oF 14 6 5,oL 15 14,oH 16 15,oB 17 .add 13 16,oM 3 17]))) (.reg [oC 18 .add 9 1,oM 9 18])))
def CK:qB:=⟨(oR [oQ 1 1 0,oZ 2 false] (oR [oJ 3 0] (.seq (oR [oF 6 0 1,oL 7 6,oH 8 7,oJ 9 0] (.block 0 (.loop zK))) (oR [oF 19 0 1,oL 20 19,oH 21 20,oC 22 .leq 21 6,oM 23 22,oMg 24 3 23 true,oCi 25 .leq 24 12 23 true,oPa 26 23 25,oM 27 26,oLg 28 1 1 27 false,oG 29 (.call .any 61 [(.t 28)]) 27 false,oCi 30 .neq 29 0 27 false,oPo 31 27 30,oM 2 31] .ret)))),[(.tmp 2)],1,[]⟩
theorem EY:QA Tryz.prog 22 CK:=okF Tryz.func22
def LF:C:=oR [oB 17 .lss 16 15] (.seq (oD 17 .skip (.exit 0)) (.seq (.block 1 (oR [oI 18 1 14 16,oL 19 18,oM 7 19] (.reg [oM 20 5,oM 21 7,oC 22 .gtr 21 0,oS 23 (.bsl [(.bool false)] 1 [(0,(.t 22))]),oAp 24 4 1 1 20 23,oM 5 24]))) (.reg [oC 25 .add 16 1,oM 16 25])))
def wG:qB:=⟨(oR [oQ 1 1 0,oS 2 (.mv (.c (.sl true []))),oJ 3 0] (.seq (oR [oA 8 1 1,oC1 9 62 8,oM 4 9] (oR [oM 10 4,oC 11 .neq 10 0] (oD 11 (oR [oM 12 4,oS 2 (.mv (.c (.sl true []))),oM 3 12] .ret) .skip))) (oR [oS 5 (.mv (.c (.sl true [])))] (.seq (oR [oA 13 1 1,oC1 14 63 13,oH 15 14,oJ 16 0] (.block 0 (.loop LF))) (oR [oM 26 5,oM 2 26,oJ 3 0] .ret))))),[(.tmp 2),(.tmp 3)],1,[]⟩
theorem gT:QA Tryz.prog 23 wG:=okF Tryz.func23
def wH:C:=.seq (oR [oM 15 7,oM 16 5,oH 17 16,oB 18 .lss 15 17] (oD 18 .skip (.exit 0))) (.seq (.block 1 (.reg [oM 21 6,oM 22 5,oM 23 7,oI 24 1 22 23,oL 25 24,oC 26 .gtr 25 0,oS 27 (.bsl [(.bool false)] 1 [(0,(.t 26))]),oAp 28 4 1 1 21 27,oM 6 28])) (.reg [oM 19 7,oC 20 .add 19 1,oM 7 20]))
def gH:qB:=⟨(oR [oQ 1 1 0,oS 2 (.mv (.c (.sl true []))),oJ 3 0] (.seq (oR [oA 8 1 1,oC1 9 61 8,oM 4 9] (oR [oM 10 4,oC 11 .neq 10 0] (oD 11 (oR [oM 12 4,oS 2 (.mv (.c (.sl true []))),oM 3 12] .ret) .skip))) (oR [oA 13 1 1,oC1 14 64 13,oM 5 14] (oR [oS 6 (.mv (.c (.sl true [])))] (.seq (oR [oJ 7 0] (.block 0 (.loop wH))) (oR [oM 29 6,oM 2 29,oJ 3 0] .ret)))))),[(.tmp 2),(.tmp 3)],1,[]⟩
theorem OW:QA Tryz.prog 24 gH:=okF Tryz.func24
def fE:qB:=⟨(oR [oQ 2 1 0,oJ 4 0,oJ 5 0] (.seq (oR [oA 8 1 2,oM 9 1,oC2 10 65 8 9,oM 6 10] (oR [oM 11 6,oC 12 .neq 11 0] (oD 12 (oR [oM 13 6,oJ 4 0,oM 5 13] .ret) .skip))) (oR [oA 14 1 2,oC1 15 66 14,oM 16 1,oI 17 11 15 16,oA 18 11 17,oY 7 zzc,oV 11 7 18] (.seq (.block 0 (oR [oF 20 0 7,oL 21 20,oU 22 21,oM 19 22] (oD 19 (oR [oJ 4 0,oJ 5 10] .ret) (oR [oF 24 1 7,oL 25 24,oM 23 25] (oD 23 (oR [oJ 4 4097,oJ 5 0] .ret) .skip))))) (oR [oF 26 2 7,oL 27 26,oS 28 (.len true (.t 27)),oM 4 28,oJ 5 0] .ret))))),[(.tmp 4),(.tmp 5)],2,[]⟩
theorem bW:QA Tryz.prog 25 fE:=okF Tryz.func25
def IF:qB:=⟨(oR [oQ 2 1 0,oJ 4 0,oJ 5 0] (oR [oA 9 1 2,oM 10 1,oC2 11 67 9 10,oM 8 11,oX 12 8 0,oX 13 8 1,oY 6 zzc,oV 11 6 12,oM 7 13] (.seq (oR [oM 14 7,oC 15 .neq 14 0] (oD 15 (oR [oM 16 7,oJ 4 0,oM 5 16] .ret) .skip)) (.seq (oR [oF 17 1 6,oL 18 17] (oD 18 (oR [oJ 4 4097,oJ 5 0] .ret) .skip)) (oR [oF 19 2 6,oL 20 19,oS 21 (.len true (.t 20)),oM 4 21,oJ 5 0] .ret))))),[(.tmp 4),(.tmp 5)],2,[]⟩
theorem G0:QA Tryz.prog 26 IF:=okF Tryz.func26
def FE:qB:=⟨(oR [oQ 2 1 0,oZ 4 false,oJ 5 0] (.seq (oR [oA 7 1 2,oM 8 1,oC2 9 65 7 8,oM 6 9] (oR [oM 10 6,oC 11 .neq 10 0] (oD 11 (oR [oM 12 6,oZ 4 false,oM 5 12] .ret) .skip))) (oR [oA 13 1 2,oC1 14 63 13,oM 15 1,oI 16 1 14 15,oL 17 16,oC 18 .eql 17 1,oM 4 18,oJ 5 0] .ret))),[(.tmp 4),(.tmp 5)],2,[]⟩
theorem lT:QA Tryz.prog 27 FE:=okF Tryz.func27
def rG:qB:=⟨(oR [oQ 2 1 0,oZ 4 false,oJ 5 0] (.seq (oR [oA 7 1 2,oM 8 1,oC2 9 68 7 8,oM 6 9] (oR [oM 10 6,oC 11 .neq 10 0] (oD 11 (oR [oM 12 6,oZ 4 false,oM 5 12] .ret) .skip))) (oR [oA 13 1 2,oC1 14 64 13,oM 15 1,oI 16 1 14 15,oL 17 16,oC 18 .eql 17 1,oM 4 18,oJ 5 0] .ret))),[(.tmp 4),(.tmp 5)],2,[]⟩
theorem PW:QA Tryz.prog 28 rG:=okF Tryz.func28
def ZF:C:=oR [oB 56 .lss 55 54] (.seq (oD 56 .skip (.exit 6)) (.seq (.block 7 (oR [oM 57 55,oM 11 57] (oR [oM 58 5,oM 59 11,oI 60 1 58 59,oL 61 60,oC 62 .eql 61 1073741824] (oD 62 (.reg [oM 63 5,oM 64 11,oI 65 1 63 64,oN (.store .any false 1 (.t 65) (.c (.int .i64 (-1))))]) .skip)))) (.reg [oC 66 .add 55 1,oM 55 66])))
def EE:C:=oR [oB 35 .lss 34 33] (.seq (oD 35 .skip (.exit 4)) (.seq (.block 5 (oR [oM 36 34,oI 37 10 32 34,oA 38 10 37,oY 9 zzb,oM 8 36,oV 10 9 38] (oR [oA 39 10 9,oM 40 5,oC2 41 69 39 40,oM 10 41] (oR [oM 42 10,oM 43 5,oM 44 8,oI 45 1 43 44,oL 46 45,oB 47 .lss 42 46] (oD 47 (.reg [oM 48 5,oM 49 8,oM 50 10,oI 51 1 48 49,oW 51 50,oZ 7 true]) .skip))))) (.reg [oC 52 .add 34 1,oM 34 52])))
def NH:C:=.seq (oR [oM 30 7] (oD 30 .skip (.exit 2))) (.block 3 (oR [oZ 7 false] (oR [oF 31 0 1,oL 32 31,oH 33 32,oJ 34 0] (.block 4 (.loop EE)))))
def MH:C:=oR [oB 24 .lss 23 22] (.seq (oD 24 .skip (.exit 0)) (.seq (.block 1 (oR [oM 25 23,oM 6 25] (.reg [oM 26 5,oM 27 6,oI 28 1 26 27,oN (.store .any false 1 (.t 28) (.c (.int .i64 1073741824)))]))) (.reg [oC 29 .add 23 1,oM 23 29])))
def WD:qB:=⟨(oR [oQ 1 1 0,oS 2 (.mv (.c (.sl true []))),oJ 3 0] (.seq (oR [oA 12 1 1,oC1 13 62 12,oM 4 13] (oR [oM 14 4,oC 15 .neq 14 0] (oD 15 (oR [oM 16 4,oS 2 (.mv (.c (.sl true []))),oM 3 16] .ret) .skip))) (oR [oF 17 0 1,oL 18 17,oH 19 18,oS 20 (.mks 1 8 [(.int .i64 0)] (.t 19) (.t 19)),oM 5 20] (.seq (oR [oM 21 5,oH 22 21,oJ 23 0] (.block 0 (.loop MH))) (.seq (oR [oZ 7 true] (.block 2 (.loop NH))) (.seq (oR [oM 53 5,oH 54 53,oJ 55 0] (.block 6 (.loop ZF))) (oR [oM 67 5,oM 2 67,oJ 3 0] .ret))))))),[(.tmp 2),(.tmp 3)],1,[]⟩
theorem jT:QA Tryz.prog 29 WD:=okF Tryz.func29
def HD:qB:=⟨(oR [oQ 2 1 0,oY 4 zza,oJ 5 0] (.seq (oR [oA 8 1 2,oM 9 1,oC2 10 65 8 9,oM 6 10] (oR [oM 11 6,oC 12 .neq 11 0] (oD 12 (oR [oS 13 (.build zza []),oM 14 6,oV 8 4 13,oM 5 14] .ret) .skip))) (oR [oA 15 1 2,oC1 16 66 15,oM 17 1,oI 18 11 16 17,oA 19 11 18,oY 7 zzc,oV 11 7 19] (.seq (.block 0 (oR [oF 21 0 7,oL 22 21,oU 23 22,oM 20 23] (oD 20 (oR [oS 24 (.build zza []),oV 8 4 24,oJ 5 10] .ret) (oR [oF 26 1 7,oL 27 26,oM 25 27] (oD 25 (oR [oS 28 (.build zza []),oV 8 4 28,oJ 5 3] .ret) .skip))))) (oR [oF 29 3 7,oA 30 8 29,oC1 31 70 30,oV 8 4 31,oJ 5 0] .ret))))),[(.cell 4 true 8),(.tmp 5)],2,[]⟩
theorem HU:QA Tryz.prog 30 HD:=okF Tryz.func30
def DE:qB:=⟨(oR [oQ 2 1 0,oY 4 zza,oJ 5 0] (oR [oA 9 1 2,oM 10 1,oC2 11 67 9 10,oM 8 11,oX 12 8 0,oX 13 8 1,oY 6 zzc,oV 11 6 12,oM 7 13] (.seq (oR [oM 14 7,oC 15 .neq 14 0] (oD 15 (oR [oS 16 (.build zza []),oM 17 7,oV 8 4 16,oM 5 17] .ret) .skip)) (.seq (oR [oF 18 1 6,oL 19 18] (oD 19 (oR [oS 20 (.build zza []),oV 8 4 20,oJ 5 3] .ret) .skip)) (oR [oF 21 3 6,oA 22 8 21,oV 8 4 22,oJ 5 0] .ret))))),[(.cell 4 true 8),(.tmp 5)],2,[]⟩
theorem KY:QA Tryz.prog 31 DE:=okF Tryz.func31
def cK:C:=.seq (oR [oM 11 5,oM 12 0,oH 13 12,oB 14 .lss 11 13] (oD 14 .skip (.exit 0))) (.seq (.block 1 (oR [oM 17 0,oM 18 5,oI 19 1 17 18,oL 20 19,oM 21 1,oM 22 5,oI 23 1 21 22,oL 24 23,oS 25 (.bin .neq true (.t 20) (.t 24))] (oD 25 (oR [oZ 4 false] .ret) .skip))) (.reg [oM 15 5,oC 16 .add 15 1,oM 5 16]))
def rL:qB:=⟨(oR [oZ 4 false] (.seq (oR [oM 6 0,oH 7 6,oM 8 1,oH 9 8,oB 10 .neq 7 9] (oD 10 (oR [oZ 4 false] .ret) .skip)) (.seq (oR [oJ 5 0] (.block 0 (.loop cK))) (oR [oZ 4 true] .ret)))),[(.tmp 4)],2,[]⟩
theorem HY:QA Tryz.prog 32 rL:=okF Tryz.func32
def xG:C:=oR [oB 18 .lss 17 16] (.seq (oD 18 .skip (.exit 0)) (.seq (.block 1 (oR [oI 19 1 15 17,oL 20 19,oM 6 20] (oR [oM 21 6,oU 22 21] (oD 22 (oR [oJ 2 10] .ret) .skip)))) (.reg [oC 23 .add 17 1,oM 17 23])))
def IG:qB:=⟨(oR [oQ 1 1 0,oJ 2 0] (oR [oA 8 1 1,oC1 9 23 8,oM 7 9,oX 10 7 0,oX 11 7 1,oM 3 10,oM 4 11] (.seq (oR [oM 12 4,oC 13 .neq 12 0] (oD 13 (oR [oM 14 4,oM 2 14] .ret) .skip)) (.seq (oR [oM 15 3,oH 16 15,oJ 17 0] (.block 0 (.loop xG))) (oR [oJ 2 0] .ret))))),[(.tmp 2)],1,[]⟩
theorem JU:QA Tryz.prog 33 IG:=okF Tryz.func33
def PH:C:=.seq (oR [oM 14 5,oM 15 3,oH 16 15,oB 17 .lss 14 16] (oD 17 .skip (.exit 0))) (.seq (.block 1 (oR [oM 20 3,oM 21 5,oI 22 1 20 21,oL 23 22,oU 24 23] (oD 24 (oR [oJ 2 10] .ret) .skip))) (.reg [oM 18 5,oC 19 .add 18 1,oM 5 19]))
def fI:qB:=⟨(oR [oQ 1 1 0,oJ 2 0] (oR [oA 7 1 1,oC1 8 24 7,oM 6 8,oX 9 6 0,oX 10 6 1,oM 3 9,oM 4 10] (.seq (oR [oM 11 4,oC 12 .neq 11 0] (oD 12 (oR [oM 13 4,oM 2 13] .ret) .skip)) (.seq (oR [oJ 5 0] (.block 0 (.loop PH))) (oR [oJ 2 0] .ret))))),[(.tmp 2)],1,[]⟩
theorem LY:QA Tryz.prog 34 fI:=okF Tryz.func34
def dI:C:=.seq (oR [oM 24 6,oF 25 1 1,oL 26 25,oH 27 26,oB 28 .lss 24 27] (oD 28 .skip (.exit 0))) (.seq (.block 1 (oR [oF 31 0 4,oLr 32 4 1 31,oF 33 1 1,oLr 34 1 1 33,oM 35 6,oI 36 3 34 35,oF 37 0 36,oL 38 37,oS 39 (.conv (.some .i64) (.t 38)),oF 40 0 4,oLr 41 4 1 40,oH 42 41,oB 43 .rem 39 42,oI 44 10 32 43,oF 45 6 44,oL 46 45,oM 7 46] (.seq (oR [oM 47 7,oH 48 47,oC 49 .eql 48 0] (oD 49 (.exit 1) .skip)) (oR [oM 50 7,oF 51 1 1,oL 52 51,oM 53 6,oI 54 3 52 53,oF 55 1 54,oL 56 55,oS 57 (.conv (.some .i64) (.t 56)),oM 58 7,oH 59 58,oB 60 .rem 57 59,oI 61 13 50 60,oM 8 61] (oR [oM 62 8,oF 63 1 1,oLr 64 1 1 63,oM 65 6,oI 66 3 64 65,oF 67 2 66,oL 68 67,oS 69 (.conv (.some .i64) (.t 68)),oF 70 0 4,oLr 71 4 1 70,oH 72 71,oB 73 .rem 69 72,oK 74 62,oF 75 2 74,oW 75 73] (.reg [oM 76 8,oM 77 8,oS 78 (.build zza []),oK 79 76,oF 80 4 79,oN (.store .any false 1 (.t 80) (.c (.bool false))),oK 81 77,oF 82 5 81,oV 8 82 78])))))) (.reg [oM 29 6,oC 30 .add 29 1,oM 6 30]))
def bK:qB:=⟨(oR [oQ 1 2 0,oS 2 (.alloc [(.sl true [])]),oZ 3 false] (oR [oF 10 0 1,oA 11 1 10,oS 12 (.callh 84 (.c (.fn 37 [])) [(.t 11)]),oM 9 12,oX 13 9 0,oX 14 9 1,oS 4 (.alloc [(.sl true [])]),oV 1 4 13,oM 5 14] (.seq (oR [oM 15 5,oU 16 15,oM 17 16,oFg 18 1 1 17 false,oP 19 18 17 false,oHg 20 19 17 false,oCi 21 .gtr 20 8 17 false,oPo 22 17 21] (oD 22 (oR [oS 23 (.build [(.sl true [])] []),oV 1 2 23,oZ 3 false] .ret) .skip)) (.seq (oR [oJ 6 0] (.block 0 (.loop dI))) (oR [oA 83 1 4,oV 1 2 83,oZ 3 true] .ret))))),[(.cell 2 true 1),(.tmp 3)],1,[1000000 + 37]⟩
theorem P8:QA Tryz.prog 35 bK:=okF Tryz.func35
def qL:qB:=⟨(oR [oQ 2 8 0,oQ 3 8 1,oZ 4 false] (oR [oA 5 8 2,oA 6 8 3,oC2 7 71 5 6,oM 4 7] .ret)),[(.tmp 4)],2,[]⟩
theorem PY:QA Tryz.prog 36 qL:=okF Tryz.func36
def HG:C:=.seq (oR [oM 69 10,oM 70 9,oH 71 70,oB 72 .lss 69 71] (oD 72 .skip (.exit 3))) (.seq (.block 4 (.reg [oF 75 5 8,oLr 76 8 1 75,oM 77 9,oM 78 10,oI 79 1 77 78,oL 80 79,oM 81 9,oM 82 10,oI 83 1 81 82,oL 84 83,oS 85 (.bin .add false (.c (.int .i64 97)) (.t 84)),oS 86 (.conv (.some .i32) (.t 85)),oS 87 (.rstr (.t 86)),oS 88 (.bin .add false (.c (.str (ByteArray.mk #[115]))) (.t 87)),oS 89 (.build zzd [(0,(1,(.t 80))),(1,(1,(.t 88)))]),oS 90 (.bsl zzd 1 [(0,(.t 89))]),oAp 91 144 2 24 76 90,oF 92 5 8,oN (.store (.root 8) false 1 (.t 92) (.t 91))])) (.reg [oM 73 10,oC 74 .add 73 1,oM 10 74]))
def fR:C:=.seq (oR [oM 21 6,oM 22 4,oB 23 .lss 21 22] (oD 23 .skip (.exit 0))) (.seq (.block 1 (oR [oF 26 0 1,oL 27 26,oM 28 6,oI 29 5 27 28,oA 30 5 29,oY 7 zze,oV 5 7 30] (oR [oA 31 1 1,oM 32 6,oC2 33 72 31 32,oS 34 (.build zzb [(0,(1,(.t 33)))]),oY 8 zzb,oV 10 8 34] (.seq (oR [oF 35 0 8,oL 36 35,oC1 37 73 36] (oD 37 (.reg [oM 38 6,oS 39 (.bin .add false (.c (.int .i64 65)) (.t 38)),oS 40 (.conv (.some .i32) (.t 39)),oS 41 (.rstr (.t 40)),oF 42 1 8,oW 42 41]) .skip)) (.seq (oR [oF 43 0 8,oL 44 43] (.block 2 (oR [oC 46 .eql 44 2,oM 45 46] (oD 45 (.reg [oS 47 (.load (.root 7) true 5 (.t 7)),oC1 48 74 47,oS 49 (.load (.root 7) true 5 (.t 7)),oC1 50 75 49,oF 51 2 8,oN (.store (.root 8) false 1 (.t 51) (.t 48)),oF 52 3 8,oN (.store (.root 8) false 1 (.t 52) (.t 50))]) (oR [oC 54 .eql 44 3,oM 53 54] (oD 53 (.reg [oF 55 1 7,oL 56 55,oS 57 (.bin .rem false (.t 56) (.c (.int .u8 4))),oS 58 (.conv (.some .i64) (.t 57)),oF 59 4 8,oW 59 58]) (oR [oC 61 .eql 44 4,oM 60 61] (oD 60 (oR [oF 62 2 7,oL 63 62,oS 64 (.bin .rem false (.t 63) (.c (.int .u8 2))),oS 65 (.bin .eql false (.t 64) (.c (.int .u8 1))),oF 66 9 8,oW 66 65] (oR [oA 67 5 7,oC1 68 76 67,oM 9 68] (oR [oJ 10 0] (.block 3 (.loop HG))))) (oR [oC 94 .eql 44 5,oM 93 94] (oD 93 (.reg [oA 95 1 1,oM 96 6,oS 97 (.callh 171 (.c (.fn 77 [])) [(.t 95),(.t 96),(.c (.bool true))]),oF 98 6 8,oW 98 97]) (oR [oC 100 .eql 44 6,oM 99 100] (oD 99 (oR [oF 101 2 7,oL 102 101,oS 103 (.bin .rem false (.t 102) (.c (.int .u8 2))),oS 104 (.bin .eql false (.t 103) (.c (.int .u8 1))),oF 105 9 8,oW 105 104] (oR [oA 106 1 1,oM 107 6,oS 108 (.callh 171 (.c (.fn 77 [])) [(.t 106),(.t 107),(.c (.bool false))]),oF 109 6 8,oW 109 108] (oR [oF 110 6 8,oL 111 110,oH 112 111,oC 113 .eql 112 0] (oD 113 (.reg [oF 114 1 8,oL 115 114,oS 116 (.build zzb [(0,(1,(.c (.int .i64 5)))),(1,(1,(.t 115)))]),oV 10 8 116]) .skip)))) (oR [oC 118 .eql 44 7,oM 117 118] (oD 117 (.reg [oF 119 1 7,oLr 120 7 1 119,oS 121 (.bin .rem false (.t 120) (.c (.int .u8 4))),oS 122 (.conv (.some .i64) (.t 121)),oF 123 3 7,oLr 124 7 1 123,oS 125 (.conv (.some .i64) (.t 124)),oM 126 4,oB 127 .rem 125 126,oF 128 4 8,oN (.store (.root 8) false 1 (.t 128) (.t 122)),oF 129 8 8,oN (.store (.root 8) false 1 (.t 129) (.t 127))]) (oR [oC 131 .eql 44 8,oM 130 131] (oD 130 (oR [oF 132 1 7,oLr 133 7 1 132,oS 134 (.bin .rem false (.t 133) (.c (.int .u8 4))),oS 135 (.conv (.some .i64) (.t 134)),oS 136 (.load (.root 1) true 1 (.t 1)),oF 137 2 7,oLr 138 7 1 137,oC2 139 78 136 138,oF 140 3 7,oLr 141 7 1 140,oS 142 (.conv (.some .i64) (.t 141)),oM 143 4,oB 144 .rem 142 143,oF 145 4 8,oN (.store (.root 8) false 1 (.t 145) (.t 135)),oF 146 7 8,oN (.store (.root 8) false 1 (.t 146) (.t 139)),oF 147 8 8,oN (.store (.root 8) false 1 (.t 147) (.t 144))] (oR [oF 148 7 8,oL 149 148,oC 150 .lss 149 0] (oD 150 (.reg [oF 151 4 8,oL 152 151,oF 153 8 8,oL 154 153,oS 155 (.build zzb [(0,(1,(.c (.int .i64 7)))),(4,(1,(.t 152))),(8,(1,(.t 154)))]),oV 10 8 155]) .skip))) (oR [oC 157 .eql 44 9,oM 156 157] (oD 156 (.reg [oF 158 3 7,oL 159 158,oS 160 (.conv (.some .i64) (.t 159)),oM 161 4,oB 162 .rem 160 161,oF 163 8 8,oW 163 162]) .skip)))))))))))))))))) (.reg [oF 164 0 5,oL 165 164,oA 166 10 8,oS 167 (.bslr 10 zzb 1 [(0,(.t 166))]),oS 168 (.appn .any 102 10 120 (.t 165) (.t 167)),oF 169 0 5,oW 169 168])))))) (.reg [oM 24 6,oC 25 .add 24 1,oM 6 25]))
def bG:qB:=⟨(oR [oQ 1 1 0,oS 2 (.alloc [(.sl true [])]),oZ 3 false] (oR [oF 11 0 1,oL 12 11,oH 13 12,oM 4 13] (.seq (oR [oM 14 4,oC 15 .lss 14 1,oM 16 15,oMg 17 4 16 false,oCi 18 .gtr 17 5 16 false,oPo 19 16 18] (oD 19 (oR [oS 20 (.build [(.sl true [])] []),oV 1 2 20,oZ 3 false] .ret) .skip)) (oR [oS 5 (.alloc [(.sl true [])])] (.seq (oR [oJ 6 0] (.block 0 (.loop fR))) (oR [oA 170 1 5,oV 1 2 170,oZ 3 true] .ret)))))),[(.cell 2 true 1),(.tmp 3)],1,[5000000,337,334,1000000 + 77]⟩
theorem U8:QA Tryz.prog 37 bG:=okF Tryz.func37
noncomputable def jR:qB:=cF [] Tryz.f44
theorem CY:QA Tryz.prog 44 jR:=okF Tryz.func44
noncomputable def nS:qB:=cF [] Tryz.f45
theorem J0:QA Tryz.prog 45 nS:=okF Tryz.func45
def EI:C:=.seq (oR [oM 41 6,oF 42 7 1,oL 43 42,oH 44 43,oB 45 .lss 41 44] (oD 45 .skip (.exit 4))) (.seq (.block 5 (.reg [oM 48 3,oC 49 .add 48 1,oF 50 7 1,oL 51 50,oM 52 6,oI 53 2 51 52,oF 54 1 53,oL 55 54,oS 56 (.len true (.t 55)),oB 57 .add 49 56,oM 3 57])) (.reg [oM 46 6,oC 47 .add 46 1,oM 6 47]))
def RI:C:=.seq (oR [oM 26 5,oF 27 6 1,oL 28 27,oH 29 28,oB 30 .lss 26 29] (oD 30 .skip (.exit 2))) (.seq (.block 3 (.reg [oM 33 3,oF 34 6 1,oL 35 34,oM 36 5,oI 37 8 35 36,oA 38 8 37,oC1 39 46 38,oB 40 .add 33 39,oM 3 40])) (.reg [oM 31 5,oC 32 .add 31 1,oM 5 32]))
def TI:C:=.seq (oR [oM 11 4,oF 12 5 1,oL 13 12,oH 14 13,oB 15 .lss 11 14] (oD 15 .skip (.exit 0))) (.seq (.block 1 (.reg [oM 18 3,oF 19 5 1,oL 20 19,oM 21 4,oI 22 8 20 21,oA 23 8 22,oC1 24 46 23,oB 25 .add 18 24,oM 3 25])) (.reg [oM 16 4,oC 17 .add 16 1,oM 4 17]))
def eM:qB:=⟨(oR [oQ 1 8 0,oJ 2 0] (oR [oF 7 3 1,oL 8 7,oS 9 (.len true (.t 8)),oS 10 (.bin .add false (.c (.int .i64 1)) (.t 9)),oM 3 10] (.seq (oR [oJ 4 0] (.block 0 (.loop TI))) (.seq (oR [oJ 5 0] (.block 2 (.loop RI))) (.seq (oR [oJ 6 0] (.block 4 (.loop EI))) (oR [oM 58 3,oM 2 58] .ret)))))),[(.tmp 2)],1,[]⟩
theorem U0:QA Tryz.prog 46 eM:=okF Tryz.func46
noncomputable def aP:qB:=cF [] Tryz.f59
theorem NU:QA Tryz.prog 59 aP:=okF Tryz.func59
noncomputable def bS:qB:=cF [] Tryz.f60
theorem E0:QA Tryz.prog 60 bS:=okF Tryz.func60
def sI:qB:=⟨(oR [oQ 1 1 0,oJ 2 0] (.seq (oR [oA 7 1 1,oC1 8 106 7,oM 3 8] (oR [oM 9 3,oC 10 .neq 9 0] (oD 10 (oR [oM 11 3,oM 2 11] .ret) .skip))) (oR [oA 13 1 1,oC1 14 107 13,oM 12 14,oX 15 12 0,oX 16 12 1,oX 17 12 2,oM 4 15,oM 5 16,oM 6 17] (oR [oM 18 6,oM 2 18] .ret)))),[(.tmp 2)],1,[]⟩
theorem JY:QA Tryz.prog 61 sI:=okF Tryz.func61
def OG:qB:=⟨(oR [oQ 1 1 0,oJ 2 0] (.seq (oR [oA 7 1 1,oC1 8 108 7,oM 3 8] (oR [oM 9 3,oC 10 .neq 9 0] (oD 10 (oR [oM 11 3,oM 2 11] .ret) .skip))) (oR [oA 13 1 1,oC1 14 109 13,oM 12 14,oX 15 12 0,oX 16 12 1,oX 17 12 2,oM 4 15,oM 5 16,oM 6 17] (oR [oM 18 6,oM 2 18] .ret)))),[(.tmp 2)],1,[]⟩
theorem CU:QA Tryz.prog 62 OG:=okF Tryz.func62
def RE:C:=oR [oB 17 .lss 16 15] (.seq (oD 17 .skip (.exit 2)) (.seq (.block 3 (oR [oM 18 16,oI 19 10 14 16,oA 20 10 19,oY 6 zzb,oM 5 18,oV 10 6 20] (oR [oA 21 10 6,oM 22 3,oC2 23 110 21 22,oS 24 (.mm false (.c (.int .i64 2)) (.t 23)),oM 7 24] (oR [oM 25 7,oM 26 3,oM 27 5,oI 28 1 26 27,oL 29 28,oB 30 .neq 25 29] (oD 30 (.reg [oM 31 3,oM 32 5,oM 33 7,oI 34 1 31 32,oW 34 33,oZ 4 true]) .skip))))) (.reg [oC 35 .add 16 1,oM 16 35])))
def qI:C:=.seq (oR [oM 12 4] (oD 12 .skip (.exit 0))) (.block 1 (oR [oZ 4 false] (oR [oF 13 0 1,oL 14 13,oH 15 14,oJ 16 0] (.block 2 (.loop RE)))))
def UH:qB:=⟨(oR [oQ 1 1 0,oS 2 (.mv (.c (.sl true [])))] (oR [oF 8 0 1,oL 9 8,oH 10 9,oS 11 (.mks 1 8 [(.int .i64 0)] (.t 10) (.t 10)),oM 3 11] (.seq (oR [oZ 4 true] (.block 0 (.loop qI))) (oR [oM 36 3,oM 2 36] .ret)))),[(.tmp 2)],1,[]⟩
theorem xT:QA Tryz.prog 63 UH:=okF Tryz.func63
def GJ:C:=.seq (oR [oM 18 5,oF 19 0 1,oL 20 19,oH 21 20,oB 22 .lss 18 21] (oD 22 .skip (.exit 2))) (.seq (.block 3 (.reg [oM 25 3,oM 26 5,oF 27 0 1,oL 28 27,oM 29 5,oI 30 10 28 29,oA 31 10 30,oM 32 3,oC2 33 111 31 32,oI 34 1 25 26,oW 34 33])) (.reg [oM 23 5,oC 24 .add 23 1,oM 5 24]))
def HJ:C:=.seq (oR [oM 10 4,oF 11 0 1,oL 12 11,oH 13 12,oS 14 (.bin .mul false (.c (.int .i64 2)) (.t 13)),oB 15 .leq 10 14] (oD 15 .skip (.exit 0))) (.seq (.block 1 (oR [oJ 5 0] (.block 2 (.loop GJ)))) (.reg [oM 16 4,oC 17 .add 16 1,oM 4 17]))
def FJ:qB:=⟨(oR [oQ 1 1 0,oS 2 (.mv (.c (.sl true [])))] (oR [oF 6 0 1,oL 7 6,oH 8 7,oS 9 (.mks 1 8 [(.int .i64 0)] (.t 8) (.t 8)),oM 3 9] (.seq (oR [oJ 4 0] (.block 0 (.loop HJ))) (oR [oM 35 3,oM 2 35] .ret)))),[(.tmp 2)],1,[]⟩
theorem IW:QA Tryz.prog 64 FJ:=okF Tryz.func64
def nF:qB:=⟨(oR [oQ 2 1 0,oJ 4 0] (.seq (oR [oA 6 1 2,oC1 7 62 6,oM 5 7] (oR [oM 8 5,oC 9 .neq 8 0] (oD 9 (oR [oM 10 5,oM 4 10] .ret) .skip))) (.seq (oR [oM 11 1,oC 12 .lss 11 0,oM 13 12,oMg 14 1 13 false,oFg 15 0 2 13 false,oP 16 15 13 false,oHg 17 16 13 false,oBg 18 .geq 14 17 13 false,oPo 19 13 18] (oD 19 (oR [oJ 4 4] .ret) .skip)) (oR [oJ 4 0] .ret)))),[(.tmp 4)],2,[]⟩
theorem ZU:QA Tryz.prog 65 nF:=okF Tryz.func65
def XE:C:=oR [oB 21 .lss 20 19] (.seq (oD 21 .skip (.exit 2)) (.seq (.block 3 (oR [oM 22 20,oI 23 10 18 20,oA 24 10 23,oY 5 zzb,oM 4 22,oV 10 5 24] (oR [oA 25 1 1,oM 26 4,oA 27 10 5,oM 28 3,oC4 29 112 25 26 27 28,oY 6 zzc,oV 11 6 29] (oR [oA 30 11 6,oM 31 3,oM 32 4,oI 33 11 31 32,oA 34 11 33,oC2 35 113 30 34] (oD 35 (.reg [oM 36 3,oM 37 4,oA 38 11 6,oI 39 11 36 37,oV 11 39 38]) .skip))))) (.reg [oC 40 .add 20 1,oM 20 40])))
def KI:C:=oR [oB 16 .lss 15 14] (.seq (oD 16 .skip (.exit 0)) (.seq (.block 1 (oR [oF 17 0 1,oL 18 17,oH 19 18,oJ 20 0] (.block 2 (.loop XE)))) (.reg [oC 41 .add 15 1,oM 15 41])))
def nI:qB:=⟨(oR [oQ 1 1 0,oS 2 (.mv (.c (.sl true [])))] (oR [oF 7 0 1,oL 8 7,oH 9 8,oS 10 (.mks 11 144 zzc (.t 9) (.t 9)),oM 3 10] (.seq (oR [oF 11 0 1,oL 12 11,oH 13 12,oC 14 .add 13 2,oJ 15 0] (.block 0 (.loop KI))) (oR [oM 42 3,oM 2 42] .ret)))),[(.tmp 2)],1,[]⟩
theorem XU:QA Tryz.prog 66 nI:=okF Tryz.func66
def QG:qB:=⟨(oR [oQ 2 1 0,oY 4 zzc,oJ 5 0] (.seq (oR [oA 8 1 2,oM 9 1,oC2 10 68 8 9,oM 6 10] (oR [oM 11 6,oC 12 .neq 11 0] (oD 12 (oR [oS 13 (.build zzc []),oM 14 6,oV 11 4 13,oM 5 14] .ret) .skip))) (oR [oA 15 1 2,oC1 16 114 15,oM 17 1,oI 18 11 16 17,oA 19 11 18,oY 7 zzc,oV 11 7 19] (.seq (oR [oF 20 0 7,oL 21 20,oU 22 21] (oD 22 (oR [oS 23 (.build zzc []),oV 11 4 23,oJ 5 10] .ret) .skip)) (oR [oA 24 11 7,oV 11 4 24,oJ 5 0] .ret))))),[(.cell 4 true 11),(.tmp 5)],2,[]⟩
theorem H0:QA Tryz.prog 67 QG:=okF Tryz.func67
def nK:qB:=⟨(oR [oQ 2 1 0,oJ 4 0] (.seq (oR [oA 6 1 2,oC1 7 61 6,oM 5 7] (oR [oM 8 5,oC 9 .neq 8 0] (oD 9 (oR [oM 10 5,oM 4 10] .ret) .skip))) (.seq (oR [oM 11 1,oC 12 .lss 11 0,oM 13 12,oMg 14 1 13 false,oFg 15 0 2 13 false,oP 16 15 13 false,oHg 17 16 13 false,oBg 18 .geq 14 17 13 false,oPo 19 13 18] (oD 19 (oR [oJ 4 4] .ret) .skip)) (oR [oJ 4 0] .ret)))),[(.tmp 4)],2,[]⟩
theorem A8:QA Tryz.prog 68 nK:=okF Tryz.func68
def LI:C:=oR [oB 39 .lss 38 37] (.seq (oD 39 .skip (.exit 3)) (.seq (.block 4 (oR [oI 40 13 36 38,oA 41 13 40,oY 9 zzf,oV 13 9 41] (.reg [oM 42 5,oM 43 1,oF 44 2 9,oL 45 44,oI 46 1 43 45,oL 47 46,oC 48 .add 47 1,oS 49 (.mm false (.t 42) (.t 48)),oM 5 49]))) (.reg [oC 50 .add 38 1,oM 38 50])))
def cG:C:=oR [oB 18 .lss 17 16] (.seq (oD 18 .skip (.exit 1)) (.seq (.block 2 (oR [oI 19 13 15 17,oA 20 13 19,oY 7 zzf,oV 13 7 20] (oR [oF 21 4 7,oL 22 21,oU 23 22] (oD 23 (.reg [oM 24 5,oM 25 1,oF 26 2 7,oL 27 26,oI 28 1 25 27,oL 29 28,oC 30 .add 29 1,oS 31 (.mm true (.t 24) (.t 30)),oM 5 31]) .skip)))) (.reg [oC 32 .add 17 1,oM 17 32])))
def mF:qB:=⟨(oR [oQ 2 10 0,oJ 4 0] (oR [oJ 5 0] (.seq (oR [oF 10 0 2,oL 11 10] (.block 0 (oR [oC 13 .eql 11 5,oM 12 13] (oD 12 (oR [oF 14 6 2,oL 15 14,oH 16 15,oJ 17 0] (.block 1 (.loop cG))) (oR [oC 34 .eql 11 6,oM 33 34] (oD 33 (oR [oJ 5 1073741824] (oR [oF 35 6 2,oL 36 35,oH 37 36,oJ 38 0] (.block 3 (.loop LI)))) .skip)))))) (oR [oM 51 5,oS 52 (.mm false (.t 51) (.c (.int .i64 1073741824))),oM 4 52] .ret)))),[(.tmp 4)],2,[]⟩
theorem BU:QA Tryz.prog 69 mF:=okF Tryz.func69
def rE:C:=oR [oB 38 .lss 37 36] (.seq (oD 38 .skip (.exit 2)) (.seq (.block 3 (oR [oM 39 37,oM 4 39] (.reg [oF 40 6 1,oLr 41 1 1 40,oM 42 4,oF 43 6 1,oLr 44 1 1 43,oM 45 4,oI 46 8 44 45,oA 47 8 46,oC1 48 70 47,oI 49 8 41 42,oV 8 49 48]))) (.reg [oC 50 .add 37 1,oM 37 50])))
def ZE:C:=oR [oB 21 .lss 20 19] (.seq (oD 21 .skip (.exit 0)) (.seq (.block 1 (oR [oM 22 20,oM 3 22] (.reg [oF 23 5 1,oLr 24 1 1 23,oM 25 3,oF 26 5 1,oLr 27 1 1 26,oM 28 3,oI 29 8 27 28,oA 30 8 29,oC1 31 70 30,oI 32 8 24 25,oV 8 32 31]))) (.reg [oC 33 .add 20 1,oM 20 33])))
def jD:qB:=⟨(oR [oQ 1 8 0,oY 2 zza] (oR [oF 5 5 1,oLr 6 1 1 5,oS 7 (.appf .any 40 8 120 (.c (.sl true [])) (.t 6)),oF 8 6 1,oLr 9 1 1 8,oS 10 (.appf .any 40 8 120 (.c (.sl true [])) (.t 9)),oF 11 7 1,oLr 12 1 1 11,oS 13 (.app .any 156 2 24 (.c (.sl true [])) (.t 12)),oF 14 5 1,oN (.store (.root 1) false 1 (.t 14) (.t 7)),oF 15 6 1,oN (.store (.root 1) false 1 (.t 15) (.t 10)),oF 16 7 1,oN (.store (.root 1) false 1 (.t 16) (.t 13))] (.seq (oR [oF 17 5 1,oL 18 17,oH 19 18,oJ 20 0] (.block 0 (.loop ZE))) (.seq (oR [oF 34 6 1,oL 35 34,oH 36 35,oJ 37 0] (.block 2 (.loop rE))) (oR [oA 51 8 1,oV 8 2 51] .ret))))),[(.cell 2 true 8)],1,[14,20]⟩
theorem KU:QA Tryz.prog 70 jD:=okF Tryz.func70
def ED:C:=.seq (oR [oM 48 5,oF 49 7 2,oL 50 49,oH 51 50,oB 52 .lss 48 51] (oD 52 .skip (.exit 0))) (.seq (.block 1 (oR [oF 55 7 2,oL 56 55,oM 57 5,oI 58 2 56 57,oA 59 2 58,oF 60 7 3,oL 61 60,oM 62 5,oI 63 2 61 62,oA 64 2 63,oS 65 (.eqa true [0,1] (.t 59) (.t 64))] (oD 65 (oR [oZ 4 false] .ret) .skip))) (.reg [oM 53 5,oC 54 .add 53 1,oM 5 54]))
def BB:qB:=⟨(oR [oQ 2 8 0,oQ 3 8 1,oZ 4 false] (.seq (oR [oF 6 0 2,oL 7 6,oF 8 0 3,oL 9 8,oB 10 .neq 7 9,oM 11 10,oFg 12 1 2 11 false,oP 13 12 11 false,oFg 14 1 3 11 false,oP 15 14 11 false,oG 16 (.bin .neq true (.t 13) (.t 15)) 11 false,oPo 17 11 16,oM 18 17,oFg 19 2 2 18 false,oP 20 19 18 false,oFg 21 2 3 18 false,oP 22 21 18 false,oBg 23 .neq 20 22 18 false,oPo 24 18 23,oM 25 24,oFg 26 3 2 25 false,oP 27 26 25 false,oFg 28 3 3 25 false,oP 29 28 25 false,oBg 30 .neq 27 29 25 false,oPo 31 25 30,oM 32 31,oFg 33 4 2 32 false,oP 34 33 32 false,oFg 35 4 3 32 false,oP 36 35 32 false,oBg 37 .neq 34 36 32 false,oPo 38 32 37,oM 39 38,oFg 40 7 2 39 false,oP 41 40 39 false,oHg 42 41 39 false,oFg 43 7 3 39 false,oP 44 43 39 false,oHg 45 44 39 false,oBg 46 .neq 42 45 39 false,oPo 47 39 46] (oD 47 (oR [oZ 4 false] .ret) .skip)) (.seq (oR [oJ 5 0] (.block 0 (.loop ED))) (oR [oF 66 5 2,oL 67 66,oF 68 5 3,oL 69 68,oC2 70 115 67 69,oM 71 70,oFg 72 6 2 71 true,oP 73 72 71 true,oFg 74 6 3 71 true,oP 75 74 71 true,oCg 76 115 73 75 71 true,oPa 77 71 76,oM 4 77] .ret)))),[(.tmp 4)],2,[]⟩
theorem wS:QA Tryz.prog 71 BB:=okF Tryz.func71
def wM:qB:=⟨(oR [oQ 2 1 0,oJ 4 0] (oR [oF 5 0 2,oL 6 5,oM 7 1,oI 8 5 6 7,oF 9 0 8,oL 10 9,oS 11 (.bin .rem false (.t 10) (.c (.int .u8 9))),oS 12 (.conv (.some .i64) (.t 11)),oS 13 (.bin .add false (.c (.int .i64 1)) (.t 12)),oM 4 13] .ret)),[(.tmp 4)],2,[]⟩
theorem T0:QA Tryz.prog 72 wM:=okF Tryz.func72
def NK:qB:=⟨(oR [oZ 2 false] (oR [oM 3 0,oC 4 .eql 3 4,oM 5 4,oMg 6 0 5 false,oCi 7 .eql 6 5 5 false,oPo 8 5 7,oM 9 8,oMg 10 0 9 false,oCi 11 .eql 10 6 9 false,oPo 12 9 11,oM 2 12] .ret)),[(.tmp 2)],1,[]⟩
theorem TY:QA Tryz.prog 73 NK:=okF Tryz.func73
def RN:qB:=⟨(oR [oQ 1 5 0,oJ 2 0] (oR [oF 3 1 1,oL 4 3,oS 5 (.bin .rem false (.t 4) (.c (.int .u8 7))),oS 6 (.conv (.some .i64) (.t 5)),oC 7 .sub 6 3,oM 2 7] .ret)),[(.tmp 2)],1,[]⟩
theorem I5:QA Tryz.prog 74 RN:=okF Tryz.func74
def qM:qB:=⟨(oR [oQ 1 5 0,oJ 2 0] (oR [oA 3 5 1,oC1 4 74 3,oF 5 2 1,oL 6 5,oS 7 (.bin .rem false (.t 6) (.c (.int .u8 6))),oS 8 (.conv (.some .i64) (.t 7)),oB 9 .add 4 8,oM 2 9] .ret)),[(.tmp 2)],1,[]⟩
theorem R0:QA Tryz.prog 75 qM:=okF Tryz.func75
def fH:C:=.seq (oR [oM 5 4,oC 6 .lss 5 6] (oD 6 .skip (.exit 0))) (.seq (.block 1 (oR [oF 9 1 1,oL 10 9,oM 11 4,oB 12 .shr 10 11,oS 13 (.bin .rem false (.t 12) (.c (.int .u8 2))),oS 14 (.bin .eql false (.t 13) (.c (.int .u8 1)))] (oD 14 (.reg [oM 15 3,oM 16 4,oC 17 .add 16 1,oS 18 (.bsl [(.int .i64 0)] 1 [(0,(.t 17))]),oAp 19 3 1 8 15 18,oM 3 19]) .skip))) (.reg [oM 7 4,oC 8 .add 7 1,oM 4 8]))
def WN:qB:=⟨(oR [oQ 1 5 0,oS 2 (.mv (.c (.sl true [])))] (oR [oS 3 (.mv (.c (.sl true [])))] (.seq (oR [oJ 4 0] (.block 0 (.loop fH))) (.seq (oR [oM 20 3,oH 21 20,oC 22 .eql 21 0] (oD 22 (.reg [oM 23 3,oS 24 (.bsl [(.int .i64 0)] 1 [(0,(.c (.int .i64 1)))]),oAp 25 3 1 8 23 24,oM 3 25]) .skip)) (oR [oM 26 3,oM 2 26] .ret))))),[(.tmp 2)],1,[]⟩
theorem T5:QA Tryz.prog 76 WN:=okF Tryz.func76
def fB:C:=.seq (oR [oM 23 10,oF 24 4 7,oL 25 24,oH 26 25,oB 27 .lss 23 26] (oD 27 .skip (.exit 2))) (.seq (.block 3 (oR [oF 30 4 7,oL 31 30,oM 32 10,oI 33 3 31 32,oA 34 3 33,oY 11 zzg,oV 3 11 34] (oR [oA 35 1 3,oM 36 1,oF 37 1 11,oL 38 37,oS 39 (.call .any 116 [(.t 35),(.t 36),(.t 38)]),oM 12 39] (.seq (oR [oF 40 0 11,oL 41 40,oS 42 (.bin .rem false (.t 41) (.c (.int .u8 12))),oS 43 (.conv (.some .i64) (.t 42)),oS 44 (.bin .add false (.c (.int .i64 1)) (.t 43)),oM 45 9,oB 46 .neq 44 45,oM 47 46,oMg 48 12 47 false,oCi 49 .lss 48 0 47 false,oPo 50 47 49] (oD 50 (.exit 3) .skip)) (oR [oM 51 9,oM 52 9,oS 53 (.bin .add false (.c (.int .i64 97)) (.t 52)),oS 54 (.conv (.some .i32) (.t 53)),oS 55 (.rstr (.t 54)),oS 56 (.bin .add false (.c (.str (ByteArray.mk #[109]))) (.t 55)),oM 57 12,oS 58 (.build zzf [(0,(1,(.t 51))),(1,(1,(.t 56))),(2,(1,(.t 57)))]),oY 13 zzf,oV 13 13 58] (.seq (oR [oM 59 2,oM 60 59,oFg 61 2 11 60 true,oP 62 61 60 true,oG 63 (.bin .rem false (.t 62) (.c (.int .u8 4))) 60 true,oG 64 (.bin .eql false (.t 63) (.c (.int .u8 1))) 60 true,oPa 65 60 64] (oD 65 (.reg [oF 66 3 13,oN (.store .any false 1 (.t 66) (.c (.bool true)))]) .skip)) (.seq (oR [oM 67 2,oM 68 67,oFg 69 2 11 68 true,oP 70 69 68 true,oG 71 (.bin .rem false (.t 70) (.c (.int .u8 4))) 68 true,oG 72 (.bin .geq false (.t 71) (.c (.int .u8 2))) 68 true,oPa 73 68 72] (oD 73 (.reg [oA 75 1 3,oM 76 12,oF 77 2 11,oL 78 77,oS 79 (.bin .quo false (.t 78) (.c (.int .u8 4))),oS 80 (.call .any 117 [(.t 75),(.t 76),(.t 79)]),oM 74 80,oX 81 74 0,oX 82 74 1,oF 83 5 13,oV 8 83 81,oF 84 4 13,oW 84 82]) .skip)) (oR [oM 85 8,oA 86 13 13,oS 87 (.bsl zzf 1 [(0,(.t 86))]),oS 88 (.appm .any 105 13 160 (.t 85) (.t 87)),oM 8 88] (.exit 2))))))))) (.reg [oM 28 10,oC 29 .add 28 1,oM 10 29]))
def xK:C:=.seq (oR [oM 19 9,oC 20 .leq 19 12] (oD 20 .skip (.exit 0))) (.seq (.block 1 (oR [oJ 10 0] (.block 2 (.loop fB)))) (.reg [oM 21 9,oC 22 .add 21 1,oM 9 22]))
def MK:qB:=⟨(oR [oQ 3 1 0,oS 6 (.mv (.c (.sl true [])))] (oR [oF 14 0 3,oL 15 14,oM 16 1,oI 17 5 15 16,oA 18 5 17,oY 7 zze,oV 5 7 18] (oR [oS 8 (.mv (.c (.sl true [])))] (.seq (oR [oJ 9 1] (.block 0 (.loop xK))) (oR [oM 89 8,oM 6 89] .ret))))),[(.tmp 6)],3,[177]⟩
theorem IY:QA Tryz.prog 77 MK:=okF Tryz.func77
def PJ:C:=.seq (oR [oM 11 6,oM 12 5,oB 13 .lss 11 12] (oD 13 .skip (.exit 0))) (.seq (.block 1 (oR [oM 16 1,oS 17 (.conv (.some .i64) (.t 16)),oM 18 6,oB 19 .add 17 18,oM 20 5,oB 21 .rem 19 20,oM 7 21] (oR [oA 22 1 2,oM 23 7,oC2 24 72 22 23,oC1 25 118 24] (oD 25 (oR [oM 26 7,oM 4 26] .ret) .skip)))) (.reg [oM 14 6,oC 15 .add 14 1,oM 6 15]))
def EN:qB:=⟨(oR [oQ 2 1 0,oJ 4 0] (oR [oF 8 0 2,oL 9 8,oH 10 9,oM 5 10] (.seq (oR [oJ 6 0] (.block 0 (.loop PJ))) (oR [oJ 4 (-1)] .ret)))),[(.tmp 4)],2,[]⟩
theorem U5:QA Tryz.prog 78 EN:=okF Tryz.func78
noncomputable def gR:qB:=cF [] Tryz.f85
theorem GY:QA Tryz.prog 85 gR:=okF Tryz.func85
def wL:qB:=⟨(oR [oQ 3 1 0,oQ 5 8 2,oZ 6 false] (oR [oA 7 1 3,oM 8 1,oA 9 8 5,oS 10 (.call .any 121 [(.t 7),(.t 8),(.t 9),(.c (.bool true))]),oM 6 10] .ret)),[(.tmp 6)],3,[]⟩
theorem AY:QA Tryz.prog 86 wL:=okF Tryz.func86
noncomputable def kP:qB:=cF [] Tryz.f87
theorem kV:QA Tryz.prog 87 kP:=okF Tryz.func87
def MG:C:=.seq (oR [oM 7 6,oF 8 5 2,oL 9 8,oH 10 9,oB 11 .lss 7 10] (oD 11 .skip (.exit 0))) (.seq (.block 1 (oR [oF 14 5 2,oL 15 14,oM 16 6,oI 17 2 15 16,oF 18 0 17,oL 19 18,oM 20 1,oB 21 .eql 19 20] (oD 21 (oR [oM 22 6,oM 4 22,oZ 5 true] .ret) .skip))) (.reg [oM 12 6,oC 13 .add 12 1,oM 6 13]))
def IJ:qB:=⟨(oR [oQ 2 10 0,oJ 4 0,oZ 5 false] (.seq (oR [oJ 6 0] (.block 0 (.loop MG))) (oR [oJ 4 0,oZ 5 false] .ret))),[(.tmp 4),(.tmp 5)],2,[]⟩
theorem RW:QA Tryz.prog 88 IJ:=okF Tryz.func88
noncomputable def lR:qB:=cF [] Tryz.f89
theorem NY:QA Tryz.prog 89 lR:=okF Tryz.func89
noncomputable def LP:qB:=cF [] Tryz.f90
theorem SW:QA Tryz.prog 90 LP:=okF Tryz.func90
noncomputable def mX:qB:=cF [] Tryz.f91
theorem S8:QA Tryz.prog 91 mX:=okF Tryz.func91
noncomputable def mS:qB:=cF [] Tryz.f92
theorem K0:QA Tryz.prog 92 mS:=okF Tryz.func92
def lP:qB:=⟨(oR [oQ 1 10 0,oJ 2 0] (.seq (oR [oF 4 0 1,oL 5 4] (.block 0 (oR [oC 7 .eql 5 1,oM 6 7] (oD 6 (oR [oJ 2 2] .ret) (oR [oC 9 .eql 5 2,oM 8 9] (oD 8 (oR [oF 10 3 1,oL 11 10,oS 12 (.conv (.some .u64) (.t 11)),oF 13 2 1,oL 14 13,oS 15 (.conv (.some .u64) (.t 14)),oB 16 .sub 12 15,oM 3 16] (oR [oM 17 3,oS 18 (.bin .lss false (.t 17) (.c (.int .u64 2147483647)))] (oD 18 (oR [oM 19 3,oS 20 (.conv (.some .i64) (.t 19)),oC 21 .add 20 1,oM 2 21] .ret) .skip))) (oR [oC 23 .eql 5 4,oM 22 23] (oD 22 (oR [oF 24 5 1,oL 25 24,oH 26 25,oM 2 26] .ret) (oR [oC 28 .eql 5 3,oM 27 28] (oD 27 (oR [oF 29 4 1,oL 30 29,oC 31 .eql 30 0] (oD 31 (oR [oJ 2 1] .ret) .skip)) .skip)))))))))) (oR [oJ 2 2147483647] .ret))),[(.tmp 2)],1,[]⟩
theorem xV:QA Tryz.prog 94 lP:=okF Tryz.func94
def nP:C:=oR [oB 36 .lss 35 34] (.seq (oD 36 .skip (.exit 2)) (.seq (.block 3 (oR [oI 37 13 33 35,oA 38 13 37,oY 10 zzf,oV 13 10 38] (oR [oA 40 10 3,oF 41 0 10,oL 42 41,oC2 43 99 40 42,oM 39 43,oX 44 39 0,oX 45 39 1,oM 11 44,oM 12 45] (oR [oM 46 12,oU 47 46] (oD 47 (oR [oZ 4 false] .ret) .skip))))) (.reg [oC 48 .add 35 1,oM 35 48])))
def mP:C:=oR [oB 19 .lss 18 17] (.seq (oD 19 .skip (.exit 0)) (.seq (.block 1 (oR [oI 20 2 16 18,oA 21 2 20,oY 6 zzd,oV 2 6 21] (oR [oA 23 10 3,oF 24 0 6,oL 25 24,oC2 26 125 23 25,oM 22 26,oX 27 22 0,oX 28 22 1,oM 7 27,oM 8 28] (oR [oM 29 8,oU 30 29] (oD 30 (oR [oZ 4 false] .ret) .skip))))) (.reg [oC 31 .add 18 1,oM 18 31])))
def HM:qB:=⟨(oR [oQ 2 10 0,oQ 3 10 1,oZ 4 false] (.seq (oR [oF 13 9 3,oL 14 13] (oD 14 (oR [oZ 4 true] .ret) .skip)) (.seq (oR [oF 15 5 2,oL 16 15,oH 17 16,oJ 18 0] (.block 0 (.loop mP))) (.seq (oR [oF 32 6 2,oL 33 32,oH 34 33,oJ 35 0] (.block 2 (.loop nP))) (oR [oZ 4 true] .ret))))),[(.tmp 4)],2,[]⟩
theorem wR:QA Tryz.prog 95 HM:=okF Tryz.func95
def QP:C:=oR [oB 76 .lss 75 74] (.seq (oD 76 .skip (.exit 2)) (.seq (.block 3 (oR [oI 77 13 73 75,oA 78 13 77,oY 17 zzf,oV 13 17 78] (oR [oA 80 10 7,oF 81 0 17,oL 82 81,oC2 83 99 80 82,oM 79 83,oX 84 79 0,oX 85 79 1,oM 18 84,oM 19 85] (oR [oM 86 19,oU 87 86,oM 88 87,oFg 89 3 17 88 true,oP 90 89 88 true,oPa 91 88 90] (oD 91 (oR [oJ 8 6] .ret) .skip))))) (.reg [oC 92 .add 75 1,oM 75 92])))
def WP:C:=oR [oB 24 .lss 23 22] (.seq (oD 24 .skip (.exit 0)) (.seq (.block 1 (oR [oI 25 13 21 23,oA 26 13 25,oY 10 zzf,oV 13 10 26] (oR [oA 28 10 5,oF 29 0 10,oL 30 29,oC2 31 99 28 30,oM 27 31,oX 32 27 0,oX 33 27 1,oM 11 32,oM 12 33] (.seq (oR [oM 34 12,oU 35 34] (oD 35 (.seq (oR [oF 36 4 10,oL 37 36,oU 38 37] (oD 38 (oR [oJ 8 7] .ret) .skip)) (.exit 1)) .skip)) (oR [oF 39 6 5,oL 40 39,oM 41 11,oI 42 13 40 41,oA 43 13 42,oY 13 zzf,oV 13 13 43] (.seq (oR [oF 44 4 13,oL 45 44,oU 46 45] (oD 46 (.exit 1) .skip)) (.seq (oR [oF 47 4 10,oL 48 47,oU 49 48] (oD 49 (oR [oJ 8 7] .ret) .skip)) (oR [oA 51 1 4,oF 52 2 13,oL 53 52,oF 54 5 13,oA 55 8 54,oA 56 1 6,oF 57 2 10,oL 58 57,oS 59 (.call .any 126 [(.t 51),(.t 53),(.t 55),(.t 56),(.t 58)]),oM 50 59,oX 60 50 0,oX 61 50 1,oY 14 zza,oV 8 14 60,oM 15 61] (oR [oM 62 15,oC 63 .neq 62 0,oM 64 63,oLg 65 8 14 64 false,oFg 66 5 10 64 false,oLg 67 8 66 64 false,oCg 68 127 65 67 64 false,oUg 69 68 64 false,oPo 70 64 69] (oD 70 (oR [oJ 8 10] .ret) .skip)))))))))) (.reg [oC 71 .add 23 1,oM 23 71])))
def JM:qB:=⟨(oR [oQ 4 1 0,oQ 5 10 1,oQ 6 1 2,oQ 7 10 3,oJ 8 0] (.seq (oR [oF 20 6 7,oL 21 20,oH 22 21,oJ 23 0] (.block 0 (.loop WP))) (.seq (oR [oF 72 6 5,oL 73 72,oH 74 73,oJ 75 0] (.block 2 (.loop QP))) (oR [oJ 8 0] .ret)))),[(.tmp 8)],4,[]⟩
theorem eR:QA Tryz.prog 96 JM:=okF Tryz.func96
def PI:qB:=⟨(oR [oQ 2 10 0,oQ 3 1 1,oJ 4 0,oZ 5 false] (oR [oF 7 6 2,oL 8 7,oS 9 (.mkf 130 [(.t 3)]),oC2 10 129 8 9,oM 6 10] (oR [oM 11 6,oS 12 (.mm true (.t 11) (.c (.int .i64 0))),oM 13 6,oC 14 .geq 13 0,oM 4 12,oM 5 14] .ret))),[(.tmp 4),(.tmp 5)],2,[]⟩
theorem lV:QA Tryz.prog 99 PI:=okF Tryz.func99
noncomputable def sP:qB:=cF [] Tryz.f101
theorem qV:QA Tryz.prog 101 sP:=okF Tryz.func101
def TF:qB:=⟨(oR [oJ 4 0] (oR [oM 7 0,oC1 8 141 7,oM 5 8] (oR [oM 9 1,oC1 10 141 9,oM 6 10] (.seq (oR [oM 11 5] (oD 11 (.seq (oR [oM 12 6] (oD 12 (oR [oJ 4 0] .ret) .skip)) (oR [oJ 4 (-1)] .ret)) .skip)) (.seq (oR [oM 13 6] (oD 13 (oR [oJ 4 1] .ret) .skip)) (.seq (oR [oM 14 0,oM 15 1,oB 16 .lss 14 15] (oD 16 (oR [oJ 4 (-1)] .ret) .skip)) (.seq (oR [oM 17 0,oM 18 1,oB 19 .gtr 17 18] (oD 19 (oR [oJ 4 1] .ret) .skip)) (oR [oJ 4 0] .ret)))))))),[(.tmp 4)],2,[]⟩
theorem LR:QA Tryz.prog 102 TF:=okF Tryz.func102
def HE:C:=.seq (oR [oM 48 7,oM 49 6,oH 50 49,oB 51 .lss 48 50] (oD 51 .skip (.exit 4))) (.seq (.block 5 (oR [oM 54 6,oM 55 7,oI 56 1 54 55,oL 57 56,oC 58 .lss 57 0,oM 59 58,oMg 60 6 59 false,oMg 61 7 59 false,oIg 62 1 60 61 59 false,oP 63 62 59 false,oFg 64 0 1 59 false,oP 65 64 59 false,oHg 66 65 59 false,oBg 67 .geq 63 66 59 false,oPo 68 59 67] (oD 68 (oR [oJ 2 4] .ret) .skip))) (.reg [oM 52 7,oC 53 .add 52 1,oM 7 53]))
def uE:C:=.seq (oR [oM 27 5,oM 28 3,oB 29 .lss 27 28] (oD 29 .skip (.exit 2))) (.seq (.block 3 (oR [oF 32 0 4,oL 33 32,oC1 34 73 33,oM 35 34,oFg 36 0 1 35 true,oP 37 36 35 true,oMg 38 5 35 true,oIg 39 10 37 38 35 true,oFg 40 1 39 35 true,oP 41 40 35 true,oFg 42 1 4 35 true,oP 43 42 35 true,oBg 44 .eql 41 43 35 true,oPa 45 35 44] (oD 45 (oR [oJ 2 1] .ret) .skip))) (.reg [oM 30 5,oC 31 .add 30 1,oM 5 31]))
def OH:C:=.seq (oR [oM 12 3,oF 13 0 1,oL 14 13,oH 15 14,oB 16 .lss 12 15] (oD 16 .skip (.exit 0))) (.seq (.block 1 (oR [oF 19 0 1,oL 20 19,oM 21 3,oI 22 10 20 21,oA 23 10 22,oY 4 zzb,oV 10 4 23] (.seq (oR [oA 24 10 4,oC1 25 147 24,oU 26 25] (oD 26 (oR [oJ 2 1] .ret) .skip)) (.seq (oR [oJ 5 0] (.block 2 (.loop uE))) (oR [oA 46 10 4,oC1 47 148 46,oM 6 47] (.seq (oR [oJ 7 0] (.block 4 (.loop HE))) (oR [oF 69 0 4,oL 70 69,oC 71 .eql 70 8,oM 72 71,oFg 73 0 1 72 true,oP 74 73 72 true,oFg 75 7 4 72 true,oP 76 75 72 true,oIg 77 10 74 76 72 true,oFg 78 0 77 72 true,oP 79 78 72 true,oG 80 (.call .any 118 [(.t 79)]) 72 true,oUg 81 80 72 true,oPa 82 72 81] (oD 82 (oR [oJ 2 1] .ret) .skip)))))))) (.reg [oM 17 3,oC 18 .add 17 1,oM 3 18]))
def iI:qB:=⟨(oR [oQ 1 1 0,oJ 2 0] (.seq (oR [oF 8 0 1,oL 9 8,oH 10 9,oC 11 .gtr 10 32] (oD 11 (oR [oJ 2 3] .ret) .skip)) (.seq (oR [oJ 3 0] (.block 0 (.loop OH))) (oR [oJ 2 0] .ret)))),[(.tmp 2)],1,[]⟩
theorem UY:QA Tryz.prog 106 iI:=okF Tryz.func106
def ZC:C:=.seq (oR [oM 27 8,oM 28 7,oH 29 28,oB 30 .lss 27 29] (oD 30 .skip (.exit 2))) (.seq (.block 3 (oR [oM 33 7,oM 34 8,oI 35 13 33 34,oF 36 4 35,oL 37 36,oM 38 37,oLg 39 1 1 38 true,oMg 40 7 38 true,oMg 41 8 38 true,oIg 42 13 40 41 38 true,oFg 43 2 42 38 true,oP 44 43 38 true,oMg 45 7 38 true,oMg 46 8 38 true,oIg 47 13 45 46 38 true,oFg 48 5 47 38 true,oLg 49 8 48 38 true,oG 50 (.call .any 86 [(.t 39),(.t 44),(.t 49)]) 38 true,oUg 51 50 38 true,oPa 52 38 51] (oD 52 (oR [oM 53 6,oM 54 7,oM 55 8,oI 56 13 54 55,oF 57 0 56,oL 58 57,oM 2 53,oM 3 58,oJ 4 1] .ret) .skip))) (.reg [oM 31 8,oC 32 .add 31 1,oM 8 32]))
def wI:C:=.seq (oR [oM 14 6,oF 15 0 1,oL 16 15,oH 17 16,oB 18 .lss 14 17] (oD 18 .skip (.exit 0))) (.seq (.block 1 (oR [oF 21 0 1,oL 22 21,oM 23 6,oI 24 10 22 23,oF 25 6 24,oL 26 25,oM 7 26] (oR [oJ 8 0] (.block 2 (.loop ZC))))) (.reg [oM 19 6,oC 20 .add 19 1,oM 6 20]))
def eG:qB:=⟨(oR [oQ 1 1 0,oJ 2 0,oJ 3 0,oJ 4 0] (.seq (oR [oA 9 1 1,oC1 10 106 9,oM 5 10] (oR [oM 11 5,oC 12 .neq 11 0] (oD 12 (oR [oM 13 5,oJ 2 0,oJ 3 0,oM 4 13] .ret) .skip))) (.seq (oR [oJ 6 0] (.block 0 (.loop wI))) (oR [oJ 2 0,oJ 3 0,oJ 4 0] .ret)))),[(.tmp 2),(.tmp 3),(.tmp 4)],1,[]⟩
theorem ET:QA Tryz.prog 107 eG:=okF Tryz.func107
def SD:C:=oR [oB 41 .lss 40 39] (.seq (oD 41 .skip (.exit 2)) (.seq (.block 3 (oR [oI 42 1 38 40,oL 43 42,oM 7 43] (oR [oM 44 7,oC 45 .lss 44 0,oM 46 45,oMg 47 7 46 false,oFg 48 0 1 46 false,oP 49 48 46 false,oHg 50 49 46 false,oBg 51 .geq 47 50 46 false,oPo 52 46 51] (oD 52 (oR [oJ 2 4] .ret) .skip)))) (.reg [oC 53 .add 40 1,oM 40 53])))
def TB:C:=oR [oB 17 .lss 16 15] (.seq (oD 17 .skip (.exit 0)) (.seq (.block 1 (oR [oI 18 10 14 16,oA 19 10 18,oY 5 zzb,oV 10 5 19] (.seq (oR [oA 20 10 5,oC1 21 149 20,oU 22 21,oM 23 22,oFg 24 1 5 23 false,oP 25 24 23 false,oG 26 (.bin .neq false (.t 25) (.c (.str (ByteArray.mk #[])))) 23 false,oMg 27 26 23 false,oMg 28 3 27 true,oFg 29 1 5 27 true,oP 30 29 27 true,oG 31 (.mget false .none (.bool false) (.t 28) (.t 30)) 27 true,oPb 32 27 31 23 false,oPo 33 23 32] (oD 33 (oR [oJ 2 1] .ret) .skip)) (oR [oM 34 3,oF 35 1 5,oL 36 35,oN (.mset .none (.t 34) (.t 36) (.c (.bool true)))] (.seq (oR [oA 37 10 5,oC1 38 150 37,oH 39 38,oJ 40 0] (.block 2 (.loop SD))) (oR [oF 54 0 5,oL 55 54,oC 56 .eql 55 8,oM 57 56,oFg 58 0 1 57 true,oP 59 58 57 true,oFg 60 7 5 57 true,oP 61 60 57 true,oIg 62 10 59 61 57 true,oFg 63 0 62 57 true,oP 64 63 57 true,oCi 65 .lss 64 1 57 true,oMg 66 65 57 true,oFg 67 0 1 66 false,oP 68 67 66 false,oFg 69 7 5 66 false,oP 70 69 66 false,oIg 71 10 68 70 66 false,oFg 72 0 71 66 false,oP 73 72 66 false,oCi 74 .gtr 73 4 66 false,oG 75 (.pick (.t 66) (.c (.bool true)) (.t 74)) 57 true,oPa 76 57 75] (oD 76 (oR [oJ 2 1] .ret) .skip))))))) (.reg [oC 77 .add 16 1,oM 16 77])))
def jH:qB:=⟨(oR [oQ 1 1 0,oJ 2 0] (.seq (oR [oF 8 0 1,oL 9 8,oH 10 9,oC 11 .gtr 10 32] (oD 11 (oR [oJ 2 3] .ret) .skip)) (oR [oS 12 (.mkm),oM 3 12] (.seq (oR [oF 13 0 1,oL 14 13,oH 15 14,oJ 16 0] (.block 0 (.loop TB))) (oR [oJ 2 0] .ret))))),[(.tmp 2)],1,[]⟩
theorem FW:QA Tryz.prog 108 jH:=okF Tryz.func108
def CC:C:=oR [oB 27 .lss 26 25] (.seq (oD 27 .skip (.exit 2)) (.seq (.block 3 (oR [oI 28 13 24 26,oA 29 13 28,oY 9 zzf,oV 13 9 29] (oR [oF 30 4 9,oL 31 30,oM 32 31,oLg 33 1 1 32 true,oFg 34 2 9 32 true,oP 35 34 32 true,oFg 36 5 9 32 true,oLg 37 8 36 32 true,oG 38 (.call .any 151 [(.t 33),(.t 35),(.t 37)]) 32 true,oUg 39 38 32 true,oPa 40 32 39] (oD 40 (oR [oM 41 6,oF 42 0 9,oL 43 42,oM 2 41,oM 3 43,oJ 4 1] .ret) .skip)))) (.reg [oC 44 .add 26 1,oM 26 44])))
def eI:C:=oR [oB 19 .lss 18 17] (.seq (oD 19 .skip (.exit 0)) (.seq (.block 1 (oR [oM 20 18,oI 21 10 16 18,oA 22 10 21,oY 7 zzb,oM 6 20,oV 10 7 22] (oR [oF 23 6 7,oL 24 23,oH 25 24,oJ 26 0] (.block 2 (.loop CC))))) (.reg [oC 45 .add 18 1,oM 18 45])))
def uG:qB:=⟨(oR [oQ 1 1 0,oJ 2 0,oJ 3 0,oJ 4 0] (.seq (oR [oA 10 1 1,oC1 11 108 10,oM 5 11] (oR [oM 12 5,oC 13 .neq 12 0] (oD 13 (oR [oM 14 5,oJ 2 0,oJ 3 0,oM 4 14] .ret) .skip))) (.seq (oR [oF 15 0 1,oL 16 15,oH 17 16,oJ 18 0] (.block 0 (.loop eI))) (oR [oJ 2 0,oJ 3 0,oJ 4 0] .ret)))),[(.tmp 2),(.tmp 3),(.tmp 4)],1,[]⟩
theorem UT:QA Tryz.prog 109 uG:=okF Tryz.func109
def HI:C:=oR [oB 55 .lss 54 53] (.seq (oD 55 .skip (.exit 3)) (.seq (.block 4 (oR [oI 56 13 52 54,oA 57 13 56,oY 10 zzf,oV 13 10 57] (.reg [oM 58 8,oM 59 1,oF 60 2 10,oL 61 60,oI 62 1 59 61,oL 63 62,oB 64 .add 58 63,oM 8 64]))) (.reg [oC 65 .add 54 1,oM 54 65])))
def JI:C:=oR [oB 36 .lss 35 34] (.seq (oD 36 .skip (.exit 1)) (.seq (.block 2 (oR [oI 37 13 33 35,oA 38 13 37,oY 7 zzf,oV 13 7 38] (.reg [oM 39 5,oM 40 1,oF 41 2 7,oL 42 41,oI 43 1 40 42,oL 44 43,oB 45 .mul 39 44,oS 46 (.mm false (.c (.int .i64 2)) (.t 45)),oM 5 46]))) (.reg [oC 47 .add 35 1,oM 35 47])))
def EA:qB:=⟨(oR [oQ 2 10 0,oJ 4 0] (.seq (oR [oF 11 0 2,oL 12 11] (.block 0 (oR [oC 14 .eql 12 2,oM 13 14] (oD 13 (oR [oF 15 2 2,oL 16 15,oF 17 3 2,oL 18 17,oB 19 .eql 16 18] (oD 19 (oR [oJ 4 1] .ret) .skip)) (oR [oC 21 .eql 12 3,oM 20 21] (oD 20 (oR [oF 22 4 2,oL 23 22,oC 24 .eql 23 0] (oD 24 (oR [oJ 4 1] .ret) .skip)) (oR [oC 26 .eql 12 4,oM 25 26] (oD 25 (oR [oF 27 5 2,oL 28 27,oH 29 28,oM 4 29] .ret) (oR [oC 31 .eql 12 5,oM 30 31] (oD 30 (oR [oJ 5 1] (.seq (oR [oF 32 6 2,oL 33 32,oH 34 33,oJ 35 0] (.block 1 (.loop JI))) (oR [oM 48 5,oM 4 48] .ret))) (oR [oC 50 .eql 12 6,oM 49 50] (oD 49 (oR [oJ 8 0] (.seq (oR [oF 51 6 2,oL 52 51,oH 53 52,oJ 54 0] (.block 3 (.loop HI))) (oR [oM 66 8,oM 4 66] .ret))) (oR [oC 68 .eql 12 7,oM 67 68] (oD 67 (oR [oF 69 4 2,oL 70 69,oC 71 .eql 70 0,oM 72 71,oMg 73 1 72 false,oFg 74 8 2 72 false,oP 75 74 72 false,oIg 76 1 73 75 72 false,oP 77 76 72 false,oCi 78 .eql 77 0 72 false,oPo 79 72 78] (oD 79 (oR [oJ 4 1] .ret) .skip)) (oR [oC 81 .eql 12 8,oM 80 81] (oD 80 (oR [oF 82 4 2,oL 83 82,oC 84 .eql 83 0,oM 85 84,oMg 86 1 85 false,oFg 87 8 2 85 false,oP 88 87 85 false,oIg 89 1 86 88 85 false,oP 90 89 85 false,oCi 91 .eql 90 0 85 false,oPo 92 85 91,oM 93 92,oMg 94 1 93 false,oFg 95 7 2 93 false,oP 96 95 93 false,oIg 97 1 94 96 93 false,oP 98 97 93 false,oCi 99 .eql 98 0 93 false,oPo 100 93 99] (oD 100 (oR [oJ 4 1] .ret) .skip)) (oR [oC 102 .eql 12 9,oM 101 102] (oD 101 (oR [oM 103 1,oF 104 8 2,oL 105 104,oI 106 1 103 105,oL 107 106,oS 108 (.bin .add false (.c (.int .i64 1)) (.t 107)),oM 4 108] .ret) .skip)))))))))))))))))) (oR [oJ 4 2] .ret))),[(.tmp 4)],2,[]⟩
theorem LU:QA Tryz.prog 110 EA:=okF Tryz.func110
def mK:C:=.seq (oR [oM 53 8,oF 54 6 2,oL 55 54,oH 56 55,oB 57 .lss 53 56] (oD 57 .skip (.exit 3))) (.seq (.block 4 (.reg [oM 60 7,oM 61 1,oF 62 6 2,oL 63 62,oM 64 8,oI 65 13 63 64,oF 66 2 65,oL 67 66,oI 68 1 61 67,oL 69 68,oB 70 .add 60 69,oS 71 (.mm false (.c (.int .i64 2)) (.t 70)),oM 7 71])) (.reg [oM 58 8,oC 59 .add 58 1,oM 8 59]))
def QK:C:=.seq (oR [oM 31 6,oF 32 6 2,oL 33 32,oH 34 33,oB 35 .lss 31 34] (oD 35 .skip (.exit 1))) (.seq (.block 2 (.reg [oM 38 5,oM 39 1,oF 40 6 2,oL 41 40,oM 42 6,oI 43 13 41 42,oF 44 2 43,oL 45 44,oI 46 1 39 45,oL 47 46,oB 48 .mul 38 47,oS 49 (.mm false (.c (.int .i64 2)) (.t 48)),oM 5 49])) (.reg [oM 36 6,oC 37 .add 36 1,oM 6 37]))
def GA:qB:=⟨(oR [oQ 2 10 0,oJ 4 0] (.seq (oR [oF 9 0 2,oL 10 9] (.block 0 (oR [oC 12 .eql 10 2,oM 11 12] (oD 11 (oR [oF 13 2 2,oL 14 13,oF 15 3 2,oL 16 15,oB 17 .eql 14 16] (oD 17 (oR [oJ 4 1] .ret) .skip)) (oR [oC 19 .eql 10 3,oM 18 19] (oD 18 (oR [oF 20 4 2,oL 21 20,oC 22 .eql 21 0] (oD 22 (oR [oJ 4 1] .ret) .skip)) (oR [oC 24 .eql 10 4,oM 23 24] (oD 23 (oR [oF 25 5 2,oL 26 25,oH 27 26,oS 28 (.mm false (.c (.int .i64 2)) (.t 27)),oM 4 28] .ret) (oR [oC 30 .eql 10 5,oM 29 30] (oD 29 (oR [oJ 5 1] (.seq (oR [oJ 6 0] (.block 1 (.loop QK))) (oR [oM 50 5,oM 4 50] .ret))) (oR [oC 52 .eql 10 6,oM 51 52] (oD 51 (oR [oJ 7 0] (.seq (oR [oJ 8 0] (.block 3 (.loop mK))) (oR [oM 72 7,oM 4 72] .ret))) (.seq (oR [oC 74 .eql 10 7,oM 73 74] (oD 73 .skip (.reg [oC 75 .eql 10 8,oM 73 75]))) (oD 73 (oR [oF 76 4 2,oL 77 76,oC 78 .eql 77 0,oM 79 78,oMg 80 1 79 false,oFg 81 8 2 79 false,oP 82 81 79 false,oIg 83 1 80 82 79 false,oP 84 83 79 false,oCi 85 .eql 84 0 79 false,oPo 86 79 85] (oD 86 (oR [oJ 4 1] .ret) .skip)) (oR [oC 88 .eql 10 9,oM 87 88] (oD 87 (oR [oM 89 1,oF 90 8 2,oL 91 90,oI 92 1 89 91,oL 93 92,oS 94 (.bin .add false (.c (.int .i64 1)) (.t 93)),oS 95 (.mm false (.c (.int .i64 2)) (.t 94)),oM 4 95] .ret) .skip)))))))))))))))) (oR [oJ 4 2] .ret))),[(.tmp 4)],2,[]⟩
theorem ZY:QA Tryz.prog 111 GA:=okF Tryz.func111
def cB:C:=oR [oB 83 .lss 82 81] (.seq (oD 83 .skip (.exit 3)) (.seq (.block 4 (oR [oI 84 13 80 82,oA 85 13 84,oY 16 zzf,oV 13 16 85] (oR [oM 86 3,oF 87 2 16,oL 88 87,oI 89 11 86 88,oA 90 11 89,oY 17 zzc,oV 11 17 90] (.seq (oR [oF 91 0 17,oL 92 91,oM 93 92,oFg 94 1 17 93 true,oP 95 94 93 true,oUg 96 95 93 true,oPa 97 93 96] (oD 97 (.reg [oA 98 1 4,oM 99 1,oF 100 0 6,oL 101 100,oF 102 0 16,oL 103 102,oF 104 3 17,oA 105 8 104,oS 106 (.bsl zza 1 [(0,(.t 105))]),oS 107 (.build zza [(0,(1,(.t 101))),(4,(1,(.t 103))),(6,(1,(.t 106)))]),oS 108 (.call .any 153 [(.t 98),(.t 99),(.t 107)]),oV 11 17 108]) .skip)) (oR [oA 109 11 17,oA 110 11 14,oC2 111 113 109 110] (oD 111 (.reg [oA 112 11 17,oV 11 14 112]) .skip)))))) (.reg [oC 113 .add 82 1,oM 82 113])))
def AA:C:=oR [oB 45 .lss 44 43] (.seq (oD 45 .skip (.exit 1)) (.seq (.block 2 (oR [oI 46 13 42 44,oA 47 13 46,oY 12 zzf,oV 13 12 47] (oR [oM 48 3,oF 49 2 12,oL 50 49,oI 51 11 48 50,oA 52 11 51,oY 13 zzc,oV 11 13 52] (.seq (oR [oF 53 4 12,oL 54 53] (oD 54 (.reg [oF 55 5 12,oA 56 8 55,oS 57 (.build zzc [(0,(1,(.c (.bool true)))),(3,(8,(.t 56)))]),oV 11 13 57]) .skip)) (.seq (oR [oF 58 0 13,oL 59 58,oU 60 59] (oD 60 (oR [oS 61 (.build zzc []),oV 11 8 61] .ret) .skip)) (oR [oM 62 10,oM 63 62,oFg 64 1 13 63 false,oP 65 64 63 false,oPo 66 63 65,oM 10 66] (.reg [oF 67 6 9,oL 68 67,oF 69 3 13,oA 70 8 69,oS 71 (.bsl zza 1 [(0,(.t 70))]),oAp 72 40 8 120 68 71,oF 73 6 9,oW 73 72]))))))) (.reg [oC 74 .add 44 1,oM 44 74])))
def NC:qB:=⟨(oR [oQ 4 1 0,oQ 6 10 2,oY 8 zzc] (oR [oF 18 0 6,oL 19 18,oS 20 (.build zza [(0,(1,(.t 19)))]),oY 9 zza,oV 8 9 20] (.seq (oR [oF 21 0 6,oL 22 21] (.block 0 (oR [oC 24 .eql 22 2,oM 23 24] (oD 23 (.reg [oF 25 2 6,oL 26 25,oF 27 3 6,oL 28 27,oC2 29 152 26 28,oF 30 2 9,oW 30 29]) (oR [oC 32 .eql 22 4,oM 31 32] (oD 31 (.reg [oF 33 5 6,oL 34 33,oS 35 (.iaddr 2 (.t 34) (.c (.int .i64 0))),oF 36 0 35,oL 37 36,oF 38 4 9,oW 38 37]) (oR [oC 40 .eql 22 5,oM 39 40] (oD 39 (oR [oZ 10 false] (.seq (oR [oF 41 6 6,oL 42 41,oH 43 42,oJ 44 0] (.block 1 (.loop AA))) (oR [oM 75 10] (oD 75 (oR [oS 76 (.build zzc [(0,(1,(.c (.bool true)))),(1,(1,(.c (.bool true))))]),oV 11 8 76] .ret) .skip)))) (oR [oC 78 .eql 22 6,oM 77 78] (oD 77 (oR [oY 14 zzc] (.seq (oR [oF 79 6 6,oL 80 79,oH 81 80,oJ 82 0] (.block 3 (.loop cB))) (oR [oA 114 11 14,oV 11 8 114] .ret))) .skip)))))))))) (oR [oA 115 1 4,oM 116 1,oA 117 8 9,oS 118 (.call .any 153 [(.t 115),(.t 116),(.t 117)]),oV 11 8 118] .ret)))),[(.cell 8 true 11)],4,[]⟩
theorem ZR:QA Tryz.prog 112 NC:=okF Tryz.func112
def jC:qB:=⟨(oR [oQ 2 11 0,oQ 3 11 1,oZ 4 false] (.seq (.block 0 (oR [oF 6 0 2,oL 7 6,oU 8 7,oM 9 8,oFg 10 0 3 9 false,oP 11 10 9 false,oUg 12 11 9 false,oPo 13 9 12,oM 5 13] (oD 5 (oR [oF 14 0 2,oL 15 14,oM 4 15] .ret) (oR [oF 17 1 2,oL 18 17,oM 19 18,oFg 20 1 3 19 false,oP 21 20 19 false,oPo 22 19 21,oM 16 22] (oD 16 (oR [oF 23 1 2,oL 24 23,oU 25 24,oM 26 25,oFg 27 1 3 26 true,oP 28 27 26 true,oPa 29 26 28,oM 4 29] .ret) .skip))))) (oR [oF 30 2 2,oL 31 30,oS 32 (.len true (.t 31)),oF 33 2 3,oL 34 33,oS 35 (.len true (.t 34)),oB 36 .lss 32 35,oM 37 36,oFg 38 2 2 37 false,oP 39 38 37 false,oG 40 (.len true (.t 39)) 37 false,oFg 41 2 3 37 false,oP 42 41 37 false,oG 43 (.len true (.t 42)) 37 false,oBg 44 .eql 40 43 37 false,oMg 45 44 37 false,oFg 46 2 2 45 true,oP 47 46 45 true,oFg 48 2 3 45 true,oP 49 48 45 true,oBg 50 .lss 47 49 45 true,oPb 51 45 50 37 false,oPo 52 37 51,oM 4 52] .ret))),[(.tmp 4)],2,[]⟩
theorem zT:QA Tryz.prog 113 jC:=okF Tryz.func113
def mG:C:=.seq (oR [oM 17 5,oF 18 0 1,oL 19 18,oH 20 19,oB 21 .lss 17 20] (oD 21 .skip (.exit 2))) (.seq (.block 3 (.reg [oM 24 3,oM 25 5,oM 26 3,oM 27 5,oI 28 11 26 27,oA 29 11 28,oS 30 (.load (.root 1) true 1 (.t 1)),oM 31 5,oM 32 3,oS 33 (.call .any 155 [(.t 30),(.t 31),(.t 32)]),oC2 34 154 29 33,oI 35 11 24 25,oV 11 35 34])) (.reg [oM 22 5,oC 23 .add 22 1,oM 5 23]))
def CI:C:=.seq (oR [oM 10 4,oF 11 0 1,oL 12 11,oH 13 12,oB 14 .leq 10 13] (oD 14 .skip (.exit 0))) (.seq (.block 1 (oR [oJ 5 0] (.block 2 (.loop mG)))) (.reg [oM 15 4,oC 16 .add 15 1,oM 4 16]))
def II:qB:=⟨(oR [oQ 1 1 0,oS 2 (.mv (.c (.sl true [])))] (oR [oF 6 0 1,oL 7 6,oH 8 7,oS 9 (.mks 11 144 zzc (.t 8) (.t 8)),oM 3 9] (.seq (oR [oJ 4 0] (.block 0 (.loop CI))) (oR [oM 36 3,oM 2 36] .ret)))),[(.tmp 2)],1,[8000000]⟩
theorem sV:QA Tryz.prog 114 II:=okF Tryz.func114
def ND:C:=.seq (oR [oM 11 5,oM 12 0,oH 13 12,oB 14 .lss 11 13] (oD 14 .skip (.exit 0))) (.seq (.block 1 (oR [oM 17 0,oM 18 5,oI 19 8 17 18,oA 20 8 19,oM 21 1,oM 22 5,oI 23 8 21 22,oA 24 8 23,oC2 25 71 20 24,oU 26 25] (oD 26 (oR [oZ 4 false] .ret) .skip))) (.reg [oM 15 5,oC 16 .add 15 1,oM 5 16]))
def NE:qB:=⟨(oR [oZ 4 false] (.seq (oR [oM 6 0,oH 7 6,oM 8 1,oH 9 8,oB 10 .neq 7 9] (oD 10 (oR [oZ 4 false] .ret) .skip)) (.seq (oR [oJ 5 0] (.block 0 (.loop ND))) (oR [oZ 4 true] .ret)))),[(.tmp 4)],2,[]⟩
theorem BQ:QA Tryz.prog 115 NE:=okF Tryz.func115
def qH:C:=.seq (oR [oM 32 9,oM 33 7,oB 34 .lss 32 33] (oD 34 .skip (.exit 0))) (.seq (.block 1 (oR [oA 37 1 3,oM 38 9,oC2 39 72 37 38,oC1 40 156 39] (oD 40 (oR [oM 41 9,oM 6 41] .ret) .skip))) (.reg [oM 35 9,oC 36 .add 35 1,oM 9 36]))
def eF:qB:=⟨(oR [oQ 3 1 0,oJ 6 0] (oR [oF 10 0 3,oL 11 10,oH 12 11,oM 7 12] (oR [oM 13 2,oS 14 (.conv (.some .i64) (.t 13)),oM 15 7,oB 16 .rem 14 15,oM 8 16] (.seq (oR [oA 17 1 3,oM 18 8,oC2 19 72 17 18,oC1 20 156 19,oM 21 20,oMg 22 8 21 false,oMg 23 1 21 false,oBg 24 .lss 22 23 21 false,oPo 25 21 24] (oD 25 (oR [oM 26 8,oM 6 26] .ret) .skip)) (.seq (oR [oM 27 1,oC 28 .gtr 27 0] (oD 28 (oR [oM 29 8,oM 30 1,oB 31 .rem 29 30,oM 6 31] .ret) .skip)) (.seq (oR [oJ 9 0] (.block 0 (.loop qH))) (oR [oJ 6 (-1)] .ret))))))),[(.tmp 6)],3,[]⟩
theorem UW:QA Tryz.prog 116 eF:=okF Tryz.func116
def LB:qB:=⟨(oR [oQ 3 1 0,oY 6 zza,oZ 7 false] (oR [oF 10 0 3,oL 11 10,oM 12 1,oI 13 5 11 12,oA 14 5 13,oY 8 zze,oV 5 8 14] (oR [oA 15 1 3,oM 16 1,oC2 17 72 15 16,oS 18 (.build zza [(0,(1,(.t 17)))]),oY 9 zza,oV 8 9 18] (.seq (oR [oF 19 0 9,oL 20 19,oC 21 .eql 20 8,oM 22 21,oLg 23 1 3 22 true,oG 24 (.call .any 78 [(.t 23),(.c (.int .u8 0))]) 22 true,oCi 25 .lss 24 0 22 true,oPa 26 22 25] (oD 26 (.reg [oF 27 0 9,oN (.store .any false 1 (.t 27) (.c (.int .i64 7)))]) .skip)) (.seq (oR [oF 28 0 9,oL 29 28] (.block 0 (oR [oC 31 .eql 29 1,oM 30 31] (oD 30 (.reg [oM 32 2,oS 33 (.bin .rem false (.t 32) (.c (.int .u8 2))),oS 34 (.bin .eql false (.t 33) (.c (.int .u8 1))),oF 35 1 9,oW 35 34]) (oR [oC 37 .eql 29 2,oM 36 37] (oD 36 (.reg [oS 38 (.load (.root 8) true 5 (.t 8)),oS 39 (.call .imm 74 [(.t 38)]),oM 40 2,oS 41 (.conv (.some .i64) (.t 40)),oS 42 (.load (.root 8) true 5 (.t 8)),oS 43 (.call .imm 75 [(.t 42)]),oS 44 (.load (.root 8) true 5 (.t 8)),oS 45 (.call .imm 74 [(.t 44)]),oB 46 .sub 43 45,oC 47 .add 46 1,oB 48 .rem 41 47,oB 49 .add 39 48,oF 50 2 9,oN (.store (.root 9) false 1 (.t 50) (.t 49))]) (oR [oC 52 .eql 29 3,oM 51 52] (oD 51 (oR [oF 53 1 8,oL 54 53,oS 55 (.bin .rem false (.t 54) (.c (.int .u8 4))),oS 56 (.bin .gtr false (.t 55) (.c (.int .u8 0))),oM 57 56,oMg 58 2 57 true,oG 59 (.bin .rem false (.t 58) (.c (.int .u8 2))) 57 true,oG 60 (.bin .eql false (.t 59) (.c (.int .u8 1))) 57 true,oPa 61 57 60] (oD 61 (.reg [oF 62 3 9,oN (.store .any false 1 (.t 62) (.c (.str (ByteArray.mk #[97]))))]) .skip)) (oR [oC 64 .eql 29 4,oM 63 64] (oD 63 (.reg [oS 65 (.load (.root 8) true 5 (.t 8)),oS 66 (.call .imm 76 [(.t 65)]),oM 67 2,oS 68 (.conv (.some .i64) (.t 67)),oS 69 (.load (.root 8) true 5 (.t 8)),oS 70 (.call .imm 76 [(.t 69)]),oH 71 70,oB 72 .rem 68 71,oI 73 1 66 72,oS 74 (.load .imm false 1 (.t 73)),oF 75 4 9,oN (.store (.root 9) false 1 (.t 75) (.t 74))]) (.seq (oR [oC 77 .eql 29 5,oM 76 77] (oD 76 .skip (.reg [oC 78 .eql 29 6,oM 76 78]))) (oD 76 (oR [oS 79 (.build zza []),oV 8 6 79,oZ 7 false] .ret) .skip)))))))))))) (oR [oA 80 8 9,oV 8 6 80,oZ 7 true] .ret)))))),[(.cell 6 true 8),(.tmp 7)],3,[]⟩
theorem tV:QA Tryz.prog 117 LB:=okF Tryz.func117
def QI:qB:=⟨(oR [oZ 2 false] (oR [oM 3 0,oC 4 .geq 3 1,oM 5 4,oMg 6 0 5 true,oCi 7 .leq 6 4 5 true,oPa 8 5 7,oM 2 8] .ret)),[(.tmp 2)],1,[]⟩
theorem rV:QA Tryz.prog 118 QI:=okF Tryz.func118
def ZA:qB:=⟨(oR [oQ 2 8 0,oQ 3 8 1,oJ 4 0] (.seq (oR [oF 5 0 2,oL 6 5,oF 7 0 3,oL 8 7,oB 9 .neq 6 8] (oD 9 (oR [oJ 4 0] .ret) .skip)) (.seq (oR [oF 10 0 2,oL 11 10] (.block 0 (oR [oC 13 .eql 11 1,oM 12 13] (oD 12 (oR [oF 14 1 3,oL 15 14,oF 16 1 2,oL 17 16,oF 18 1 3,oL 19 18,oS 20 (.bin .eql true (.t 17) (.t 19)),oC2 21 157 15 20,oM 4 21] .ret) (oR [oC 23 .eql 11 2,oM 22 23] (oD 22 (oR [oF 24 2 2,oL 25 24,oC1 26 158 25,oF 27 2 3,oL 28 27,oC1 29 158 28,oB 30 .lss 26 29,oF 31 2 2,oL 32 31,oF 33 2 3,oL 34 33,oB 35 .eql 32 34,oC2 36 157 30 35,oM 4 36] .ret) (oR [oC 38 .eql 11 3,oM 37 38] (oD 37 (.seq (oR [oF 39 3 2,oL 40 39,oS 41 (.len true (.t 40)),oF 42 3 3,oL 43 42,oS 44 (.len true (.t 43)),oB 45 .neq 41 44] (oD 45 (oR [oF 46 3 2,oL 47 46,oS 48 (.len true (.t 47)),oF 49 3 3,oL 50 49,oS 51 (.len true (.t 50)),oB 52 .lss 48 51,oS 53 (.call .any 157 [(.t 52),(.c (.bool false))]),oM 4 53] .ret) .skip)) (oR [oF 54 3 2,oL 55 54,oF 56 3 3,oL 57 56,oB 58 .lss 55 57,oF 59 3 2,oL 60 59,oF 61 3 3,oL 62 61,oB 63 .eql 60 62,oC2 64 157 58 63,oM 4 64] .ret)) (oR [oC 66 .eql 11 4,oM 65 66] (oD 65 (oR [oF 67 4 2,oL 68 67,oF 69 4 3,oL 70 69,oB 71 .lss 68 70,oF 72 4 2,oL 73 72,oF 74 4 3,oL 75 74,oB 76 .eql 73 75,oC2 77 157 71 76,oM 4 77] .ret) .skip)))))))))) (oR [oJ 4 0] .ret)))),[(.tmp 4)],2,[]⟩
theorem pV:QA Tryz.prog 120 ZA:=okF Tryz.func120
def SJ:C:=.seq (oR [oM 260 15,oF 261 5 6,oL 262 261,oH 263 262,oB 264 .lss 260 263] (oD 264 .skip (.exit 3))) (.seq (.block 4 (oR [oF 267 5 6,oL 268 267,oM 269 15,oC 270 .sub 269 1,oI 271 8 268 270,oA 272 8 271,oF 273 5 6,oL 274 273,oM 275 15,oI 276 8 274 275,oA 277 8 276,oC2 278 120 272 277,oC 279 .geq 278 0] (oD 279 (oR [oZ 8 false] .ret) .skip))) (.reg [oM 265 15,oC 266 .add 265 1,oM 15 266]))
def DJ:C:=.seq (oR [oM 115 12,oF 116 6 6,oL 117 116,oH 118 117,oB 119 .lss 115 118] (oD 119 .skip (.exit 1))) (.seq (.block 2 (oR [oA 122 1 4,oF 123 6 9,oL 124 123,oM 125 12,oI 126 13 124 125,oF 127 2 126,oL 128 127,oF 129 6 6,oL 130 129,oM 131 12,oI 132 8 130 131,oA 133 8 132,oM 134 3,oC4 135 121 122 128 133 134,oU 136 135] (oD 136 (oR [oZ 8 false] .ret) .skip))) (.reg [oM 120 12,oC 121 .add 120 1,oM 12 121]))
def WA:qB:=⟨(oR [oQ 4 1 0,oQ 6 8 2,oZ 8 false] (.seq (oR [oM 16 1,oC 17 .lss 16 0,oM 18 17,oMg 19 1 18 false,oFg 20 0 4 18 false,oP 21 20 18 false,oHg 22 21 18 false,oBg 23 .geq 19 22 18 false,oPo 24 18 23] (oD 24 (oR [oZ 8 false] .ret) .skip)) (oR [oF 25 0 4,oL 26 25,oM 27 1,oI 28 10 26 27,oA 29 10 28,oY 9 zzb,oV 10 9 29] (.seq (oR [oF 30 0 6,oL 31 30,oF 32 0 9,oL 33 32,oB 34 .neq 31 33,oM 35 34,oLg 36 8 6 35 false,oG 37 (.call .any 159 [(.t 36)]) 35 false,oUg 38 37 35 false,oPo 39 35 38,oM 40 39,oMg 41 3 40 false,oMg 42 41 40 false,oFg 43 7 6 42 true,oP 44 43 42 true,oHg 45 44 42 true,oCi 46 .gtr 45 0 42 true,oPb 47 42 46 40 false,oPo 48 40 47] (oD 48 (oR [oZ 8 false] .ret) .skip)) (.seq (oR [oF 49 0 9,oL 50 49] (.block 0 (oR [oC 52 .eql 50 1,oM 51 52] (oD 51 (oR [oZ 8 true] .ret) (oR [oC 54 .eql 50 2,oM 53 54] (oD 53 (oR [oF 55 2 6,oL 56 55,oF 57 2 9,oL 58 57,oB 59 .geq 56 58,oM 60 59,oFg 61 2 6 60 true,oP 62 61 60 true,oFg 63 3 9 60 true,oP 64 63 60 true,oBg 65 .leq 62 64 60 true,oPa 66 60 65,oM 8 66] .ret) (oR [oC 68 .eql 50 3,oM 67 68] (oD 67 (oR [oF 69 3 6,oL 70 69,oS 71 (.len true (.t 70)),oF 72 4 9,oL 73 72,oB 74 .leq 71 73,oM 8 74] .ret) (oR [oC 76 .eql 50 4,oM 75 76] (oD 75 (oR [oA 78 10 9,oF 79 4 6,oL 80 79,oC2 81 88 78 80,oM 77 81,oX 82 77 0,oX 83 77 1,oM 10 82,oM 11 83] (oR [oM 84 11,oM 85 84,oFg 86 9 9 85 false,oP 87 86 85 false,oMg 88 87 85 false,oMg 89 3 88 true,oUg 90 89 88 true,oPb 91 88 90 85 false,oMg 92 91 85 false,oFg 93 4 6 92 true,oP 94 93 92 true,oMg 95 11 92 true,oCg 96 160 94 95 92 true,oPb 97 92 96 85 false,oPo 98 85 97,oM 8 98] .ret)) (oR [oC 100 .eql 50 5,oM 99 100] (oD 99 (.seq (oR [oF 101 6 6,oL 102 101,oH 103 102,oF 104 6 9,oL 105 104,oH 106 105,oB 107 .neq 103 106,oM 108 107,oLg 109 10 9 108 false,oFg 110 7 6 108 false,oP 111 110 108 false,oCg 112 161 109 111 108 false,oUg 113 112 108 false,oPo 114 108 113] (oD 114 (oR [oZ 8 false] .ret) .skip)) (.seq (oR [oJ 12 0] (.block 1 (.loop DJ))) (oR [oZ 8 true] .ret))) (oR [oC 138 .eql 50 6,oM 137 138] (oD 137 (oR [oA 140 10 9,oF 141 4 6,oL 142 141,oC2 143 122 140 142,oM 139 143,oX 144 139 0,oX 145 139 1,oM 13 144,oM 14 145] (.seq (oR [oM 146 14] (oD 146 (oR [oF 147 6 6,oL 148 147,oH 149 148,oC 150 .eql 149 1,oM 151 150,oFg 152 7 6 151 true,oP 153 152 151 true,oHg 154 153 151 true,oCi 155 .eql 154 0 151 true,oPa 156 151 155,oM 157 156,oLg 158 1 4 157 true,oFg 159 6 9 157 true,oP 160 159 157 true,oMg 161 13 157 true,oIg 162 13 160 161 157 true,oFg 163 2 162 157 true,oP 164 163 157 true,oFg 165 6 6 157 true,oP 166 165 157 true,oG 167 (.iaddr 8 (.t 166) (.c (.int .i64 0))) 157 true,oLg 168 8 167 157 true,oMg 169 3 157 true,oG 170 (.call .any 121 [(.t 158),(.t 164),(.t 168),(.t 169)]) 157 true,oPa 171 157 170,oM 8 171] .ret) .skip)) (oR [oF 172 9 9,oL 173 172,oM 174 173,oMg 175 3 174 true,oUg 176 175 174 true,oPa 177 174 176,oM 178 177,oFg 179 4 6 178 true,oP 180 179 178 true,oMg 181 14 178 true,oCg 182 160 180 181 178 true,oPa 183 178 182,oM 184 183,oFg 185 6 6 184 true,oP 186 185 184 true,oHg 187 186 184 true,oCi 188 .eql 187 0 184 true,oPa 189 184 188,oM 190 189,oFg 191 7 6 190 true,oP 192 191 190 true,oHg 193 192 190 true,oCi 194 .eql 193 1 190 true,oPa 195 190 194,oM 196 195,oFg 197 7 6 196 true,oP 198 197 196 true,oG 199 (.iaddr 2 (.t 198) (.c (.int .i64 0))) 196 true,oFg 200 0 199 196 true,oP 201 200 196 true,oFg 202 4 6 196 true,oP 203 202 196 true,oBg 204 .eql 201 203 196 true,oPa 205 196 204,oM 8 205] .ret))) (oR [oC 207 .eql 50 7,oM 206 207] (oD 206 (oR [oF 208 6 6,oL 209 208,oH 210 209,oF 211 4 9,oL 212 211,oB 213 .leq 210 212,oM 214 213,oLg 215 1 4 214 true,oFg 216 8 9 214 true,oP 217 216 214 true,oFg 218 6 6 214 true,oP 219 218 214 true,oMg 220 3 214 true,oG 221 (.call .any 162 [(.t 215),(.t 217),(.t 219),(.t 220)]) 214 true,oPa 222 214 221,oM 8 222] .ret) (oR [oC 224 .eql 50 8,oM 223 224] (oD 223 (.seq (oR [oF 225 5 6,oL 226 225,oH 227 226,oF 228 4 9,oL 229 228,oB 230 .gtr 227 229,oM 231 230,oFg 232 6 6 231 false,oP 233 232 231 false,oHg 234 233 231 false,oFg 235 5 6 231 false,oP 236 235 231 false,oHg 237 236 231 false,oBg 238 .neq 234 237 231 false,oPo 239 231 238,oM 240 239,oLg 241 1 4 240 false,oFg 242 7 9 240 false,oP 243 242 240 false,oFg 244 5 6 240 false,oP 245 244 240 false,oMg 246 3 240 false,oG 247 (.call .any 162 [(.t 241),(.t 243),(.t 245),(.t 246)]) 240 false,oUg 248 247 240 false,oPo 249 240 248,oM 250 249,oLg 251 1 4 250 false,oFg 252 8 9 250 false,oP 253 252 250 false,oFg 254 6 6 250 false,oP 255 254 250 false,oMg 256 3 250 false,oG 257 (.call .any 162 [(.t 251),(.t 253),(.t 255),(.t 256)]) 250 false,oUg 258 257 250 false,oPo 259 250 258] (oD 259 (oR [oZ 8 false] .ret) .skip)) (.seq (oR [oJ 15 1] (.block 3 (.loop SJ))) (oR [oZ 8 true] .ret))) .skip)))))))))))))))))) (oR [oF 280 6 6,oL 281 280,oH 282 281,oC 283 .leq 282 1,oM 284 283,oLg 285 1 4 284 true,oFg 286 8 9 284 true,oP 287 286 284 true,oFg 288 6 6 284 true,oP 289 288 284 true,oMg 290 3 284 true,oG 291 (.call .any 162 [(.t 285),(.t 287),(.t 289),(.t 290)]) 284 true,oPa 292 284 291,oM 8 292] .ret)))))),[(.tmp 8)],4,[]⟩
theorem A5:QA Tryz.prog 121 WA:=okF Tryz.func121
def NG:C:=.seq (oR [oM 7 6,oF 8 6 2,oL 9 8,oH 10 9,oB 11 .lss 7 10] (oD 11 .skip (.exit 0))) (.seq (.block 1 (oR [oF 14 6 2,oL 15 14,oM 16 6,oI 17 13 15 16,oF 18 0 17,oL 19 18,oM 20 1,oB 21 .eql 19 20] (oD 21 (oR [oM 22 6,oM 4 22,oZ 5 true] .ret) .skip))) (.reg [oM 12 6,oC 13 .add 12 1,oM 6 13]))
def UJ:qB:=⟨(oR [oQ 2 10 0,oJ 4 0,oZ 5 false] (.seq (oR [oJ 6 0] (.block 0 (.loop NG))) (oR [oJ 4 0,oZ 5 false] .ret))),[(.tmp 4),(.tmp 5)],2,[]⟩
theorem EW:QA Tryz.prog 122 UJ:=okF Tryz.func122
def rF:C:=.seq (oR [oM 202 19,oF 203 7 5,oL 204 203,oH 205 204,oB 206 .lss 202 205] (oD 206 .skip (.exit 7))) (.seq (.block 8 (oR [oF 209 7 5,oL 210 209,oM 211 19,oI 212 2 210 211,oF 213 0 212,oL 214 213,oM 215 15,oB 216 .eql 214 215] (oD 216 (.reg [oM 217 14,oM 218 15,oF 219 7 5,oL 220 219,oM 221 19,oI 222 2 220 221,oF 223 1 222,oL 224 223,oS 225 (.call .any 166 [(.t 218),(.c (.bool false)),(.t 224)]),oB 226 .add 217 225,oM 14 226]) .skip))) (.reg [oM 207 19,oC 208 .add 207 1,oM 19 208]))
def zD:C:=.seq (oR [oM 157 15,oC 158 .leq 157 1000] (oD 158 .skip (.exit 5))) (.seq (.block 6 (.seq (oR [oA 162 10 7,oM 163 15,oC2 164 122 162 163,oM 161 164,oX 165 161 0,oX 166 161 1,oM 16 165,oM 17 166] (oR [oM 167 17] (oD 167 (oR [oF 168 6 7,oL 169 168,oM 170 16,oI 171 13 169 170,oA 172 13 171,oY 18 zzf,oV 13 18 172] (oR [oF 173 4 18,oL 174 173,oU 175 174,oM 176 175,oFg 177 6 5 176 false,oP 178 177 176 false,oMg 179 16 176 false,oIg 180 8 178 179 176 false,oLg 181 8 180 176 false,oFg 182 5 18 176 false,oLg 183 8 182 176 false,oCg 184 71 181 183 176 false,oUg 185 184 176 false,oPo 186 176 185] (oD 186 (.reg [oM 187 14,oM 188 15,oF 189 3 18,oL 190 189,oA 191 1 3,oF 192 2 18,oL 193 192,oF 194 6 5,oL 195 194,oM 196 16,oI 197 8 195 196,oA 198 8 197,oS 199 (.call .any 123 [(.t 191),(.t 193),(.t 198)]),oS 200 (.call .any 166 [(.t 188),(.t 190),(.t 199)]),oB 201 .add 187 200,oM 14 201]) .skip))) .skip))) (oR [oJ 19 0] (.block 7 (.loop rF))))) (.reg [oM 159 15,oC 160 .add 159 1,oM 15 160]))
def ZI:C:=.seq (oR [oM 126 13,oF 127 6 5,oL 128 127,oH 129 128,oB 130 .lss 126 129] (oD 130 .skip (.exit 3))) (.seq (.block 4 (.reg [oM 133 12,oA 134 1 3,oF 135 7 7,oL 136 135,oF 137 5 5,oL 138 137,oM 139 13,oI 140 8 138 139,oA 141 8 140,oS 142 (.call .any 123 [(.t 134),(.t 136),(.t 141)]),oC1 143 165 142,oB 144 .add 133 143,oA 145 1 3,oF 146 8 7,oL 147 146,oF 148 6 5,oL 149 148,oM 150 13,oI 151 8 149 150,oA 152 8 151,oS 153 (.call .any 123 [(.t 145),(.t 147),(.t 152)]),oC1 154 165 153,oB 155 .add 144 154,oM 12 155])) (.reg [oM 131 13,oC 132 .add 131 1,oM 13 132]))
def XI:C:=.seq (oR [oM 104 11,oF 105 6 5,oL 106 105,oH 107 106,oB 108 .lss 104 107] (oD 108 .skip (.exit 1))) (.seq (.block 2 (.reg [oM 111 10,oA 112 1 3,oF 113 8 7,oL 114 113,oF 115 6 5,oL 116 115,oM 117 11,oI 118 8 116 117,oA 119 8 118,oS 120 (.call .any 123 [(.t 112),(.t 114),(.t 119)]),oC1 121 165 120,oB 122 .add 111 121,oM 10 122])) (.reg [oM 109 11,oC 110 .add 109 1,oM 11 110]))
def FA:qB:=⟨(oR [oQ 3 1 0,oQ 5 8 2,oS 6 (.mv (.c (.str (ByteArray.mk #[]))))] (oR [oF 20 0 3,oL 21 20,oM 22 1,oI 23 10 21 22,oA 24 10 23,oY 7 zzb,oV 10 7 24] (.seq (oR [oF 25 0 7,oL 26 25] (.block 0 (oR [oC 28 .eql 26 1,oM 27 28] (oD 27 (.seq (oR [oF 29 1 5,oL 30 29] (oD 30 (oR [oS 6 (.mv (.c (.str (ByteArray.mk #[1]))))] .ret) .skip)) (oR [oS 6 (.mv (.c (.str (ByteArray.mk #[]))))] .ret)) (oR [oC 32 .eql 26 2,oM 31 32] (oD 31 (oR [oF 33 2 5,oL 34 33,oC1 35 158 34,oC1 36 163 35,oM 6 36] .ret) (oR [oC 38 .eql 26 3,oM 37 38] (oD 37 (oR [oF 39 3 5,oL 40 39,oM 6 40] .ret) (oR [oC 42 .eql 26 4,oM 41 42] (oD 41 (oR [oF 43 4 5,oL 44 43,oS 45 (.conv (.some .u64) (.t 44)),oC1 46 163 45,oM 6 46] .ret) (oR [oC 48 .eql 26 9,oM 47 48] (oD 47 (.seq (oR [oF 49 6 5,oL 50 49,oH 51 50,oC 52 .eql 51 0] (oD 52 (oR [oS 6 (.mv (.c (.str (ByteArray.mk #[]))))] .ret) .skip)) (oR [oA 53 1 3,oF 54 8 7,oL 55 54,oF 56 6 5,oL 57 56,oS 58 (.iaddr 8 (.t 57) (.c (.int .i64 0))),oA 59 8 58,oS 60 (.call .any 123 [(.t 53),(.t 55),(.t 59)]),oS 61 (.bin .add false (.c (.str (ByteArray.mk #[1]))) (.t 60)),oM 6 61] .ret)) (oR [oC 63 .eql 26 6,oM 62 63] (oD 62 (.seq (oR [oF 64 7 5,oL 65 64,oH 66 65,oC 67 .gtr 66 0] (oD 67 (oR [oF 68 4 5,oL 69 68,oS 70 (.conv (.some .u64) (.t 69)),oC1 71 164 70,oF 72 7 5,oL 73 72,oS 74 (.iaddr 2 (.t 73) (.c (.int .i64 0))),oF 75 1 74,oL 76 75,oB 77 .add 71 76,oM 6 77] .ret) .skip)) (oR [oA 79 10 7,oF 80 4 5,oL 81 80,oC2 82 122 79 81,oM 78 82,oX 83 78 0,oX 84 78 1,oM 8 83,oM 9 84] (oR [oF 85 4 5,oL 86 85,oS 87 (.conv (.some .u64) (.t 86)),oC1 88 164 87,oA 89 1 3,oF 90 6 7,oL 91 90,oM 92 8,oI 93 13 91 92,oF 94 2 93,oL 95 94,oF 96 6 5,oL 97 96,oS 98 (.iaddr 8 (.t 97) (.c (.int .i64 0))),oA 99 8 98,oS 100 (.call .any 123 [(.t 89),(.t 95),(.t 99)]),oB 101 .add 88 100,oM 6 101] .ret))) (oR [oC 103 .eql 26 7,oM 102 103] (oD 102 (oR [oS 10 (.mv (.c (.str (ByteArray.mk #[]))))] (.seq (oR [oJ 11 0] (.block 1 (.loop XI))) (oR [oM 123 10,oM 6 123] .ret))) (oR [oC 125 .eql 26 8,oM 124 125] (oD 124 (oR [oS 12 (.mv (.c (.str (ByteArray.mk #[]))))] (.seq (oR [oJ 13 0] (.block 3 (.loop ZI))) (oR [oM 156 12,oM 6 156] .ret))) .skip)))))))))))))))))) (oR [oS 14 (.mv (.c (.str (ByteArray.mk #[]))))] (.seq (oR [oJ 15 1] (.block 5 (.loop zD))) (oR [oM 227 14,oM 6 227] .ret)))))),[(.tmp 6)],3,[]⟩
theorem aV:QA Tryz.prog 123 FA:=okF Tryz.func123
noncomputable def UN:qB:=cF [] Tryz.f124
theorem eS:QA Tryz.prog 124 UN:=okF Tryz.func124
def AI:qB:=⟨(oR [oQ 2 10 0,oQ 3 1 1,oJ 4 0,oZ 5 false] (oR [oF 7 5 2,oL 8 7,oS 9 (.mkf 168 [(.t 3)]),oC2 10 167 8 9,oM 6 10] (oR [oM 11 6,oS 12 (.mm true (.t 11) (.c (.int .i64 0))),oM 13 6,oC 14 .geq 13 0,oM 4 12,oM 5 14] .ret))),[(.tmp 4),(.tmp 5)],2,[]⟩
theorem zV:QA Tryz.prog 125 AI:=okF Tryz.func125
noncomputable def cN:qB:=cF [71] Tryz.f126
theorem MR:QA Tryz.prog 126 cN:=okF Tryz.func126
def iD:qB:=⟨(oR [oQ 2 8 0,oQ 3 8 1,oZ 4 false] (oR [oF 5 0 2,oL 6 5,oF 7 0 3,oL 8 7,oB 9 .eql 6 8,oM 10 9,oFg 11 1 2 10 true,oP 12 11 10 true,oFg 13 1 3 10 true,oP 14 13 10 true,oG 15 (.bin .eql true (.t 12) (.t 14)) 10 true,oPa 16 10 15,oM 17 16,oFg 18 2 2 17 true,oP 19 18 17 true,oFg 20 2 3 17 true,oP 21 20 17 true,oBg 22 .eql 19 21 17 true,oPa 23 17 22,oM 24 23,oFg 25 3 2 24 true,oP 26 25 24 true,oFg 27 3 3 24 true,oP 28 27 24 true,oBg 29 .eql 26 28 24 true,oPa 30 24 29,oM 31 30,oFg 32 4 2 31 true,oP 33 32 31 true,oFg 34 4 3 31 true,oP 35 34 31 true,oBg 36 .eql 33 35 31 true,oPa 37 31 36,oM 38 37,oFg 39 7 2 38 true,oP 40 39 38 true,oFg 41 7 3 38 true,oP 42 41 38 true,oCg 43 171 40 42 38 true,oPa 44 38 43,oM 45 44,oFg 46 5 2 45 true,oP 47 46 45 true,oFg 48 5 3 45 true,oP 49 48 45 true,oG 50 (.call .any 172 [(.t 47),(.t 49),(.c (.fn 127 []))]) 45 true,oPa 51 45 50,oM 52 51,oFg 53 6 2 52 true,oP 54 53 52 true,oFg 55 6 3 52 true,oP 56 55 52 true,oG 57 (.call .any 172 [(.t 54),(.t 56),(.c (.fn 127 []))]) 52 true,oPa 58 52 57,oM 4 58] .ret)),[(.tmp 4)],2,[]⟩
theorem eZ:QA Tryz.prog 127 iD:=okF Tryz.func127
def xC:C:=oR [oB 9 .lss 8 7] (.seq (oD 9 .skip (.exit 0)) (.seq (.block 1 (oR [oM 10 8,oM 5 10] (oR [oM 11 1,oM 12 0,oM 13 5,oI 14 13 12 13,oA 15 13 14,oS 16 (.callv .any (.t 11) [(.t 15)])] (oD 16 (oR [oM 17 5,oM 4 17] .ret) .skip)))) (.reg [oC 18 .add 8 1,oM 8 18])))
def MC:qB:=⟨(oR [oJ 4 0] (.seq (oR [oM 6 0,oH 7 6,oJ 8 0] (.block 0 (.loop xC))) (oR [oJ 4 (-1)] .ret))),[(.tmp 4)],2,[]⟩
theorem AK:QA Tryz.prog 129 MC:=okF Tryz.func129
def WG:qB:=⟨(oR [oQ 2 13 0,oZ 3 false] (oR [oF 4 0 2,oL 5 4,oL 6 1,oB 7 .eql 5 6,oM 3 7] .ret)),[(.tmp 3)],2,[]⟩
theorem MQ:QA Tryz.prog 130 WG:=okF Tryz.func130
noncomputable def zN:qB:=cF [] Tryz.f139
theorem BR:QA Tryz.prog 139 zN:=okF Tryz.func139
noncomputable def xN:qB:=cF [] Tryz.f140
theorem NR:QA Tryz.prog 140 xN:=okF Tryz.func140
def cI:qB:=⟨(oR [oZ 2 false] (oR [oM 3 0,oM 4 0,oB 5 .neq 3 4,oM 2 5] .ret)),[(.tmp 2)],1,[]⟩
theorem FU:QA Tryz.prog 141 cI:=okF Tryz.func141
def lW:C:=.seq (oR [oM 13 3,oC 14 .lss 13 100,oM 15 14,oMg 16 4 15 true,oFg 17 3 1 15 true,oP 18 17 15 true,oBg 19 .lss 16 18 15 true,oPa 20 15 19] (oD 20 .skip (.exit 1))) (.seq (.block 2 (.reg [oM 23 3,oC 24 .add 23 1,oM 3 24])) (.reg [oM 21 4,oC 22 .add 21 1,oM 4 22]))
def QS:qB:=⟨(oR [oQ 1 10 0,oJ 2 0] (.seq (oR [oF 5 0 1,oL 6 5] (.block 0 (oR [oC 8 .eql 6 1,oM 7 8] (oD 7 (oR [oJ 2 2] .ret) (oR [oC 10 .eql 6 2,oM 9 10] (oD 9 (oR [oJ 3 1] (.seq (oR [oF 11 2 1,oL 12 11,oM 4 12] (.block 1 (.loop lW))) (oR [oM 25 3,oM 2 25] .ret))) (oR [oC 27 .eql 6 4,oM 26 27] (oD 26 (oR [oF 28 5 1,oL 29 28,oH 30 29,oM 2 30] .ret) .skip)))))))) (.seq (oR [oF 31 4 1,oL 32 31,oC 33 .eql 32 0] (oD 33 (oR [oJ 2 1] .ret) .skip)) (oR [oJ 2 100] .ret)))),[(.tmp 2)],1,[]⟩
theorem Z0:QA Tryz.prog 144 QS:=okF Tryz.func144
def QX:C:=.seq (oR [oM 31 8,oF 32 6 2,oL 33 32,oH 34 33,oB 35 .lss 31 34] (oD 35 .skip (.exit 2))) (.seq (.block 3 (oR [oA 39 10 3,oF 40 6 2,oL 41 40,oM 42 8,oI 43 13 41 42,oF 44 0 43,oL 45 44,oC2 46 122 39 45,oM 38 46,oX 47 38 0,oX 48 38 1,oM 9 47,oM 10 48] (oR [oM 49 10,oU 50 49] (oD 50 (oR [oZ 4 false] .ret) .skip)))) (.reg [oM 36 8,oC 37 .add 36 1,oM 8 37]))
def WX:C:=.seq (oR [oM 11 5,oF 12 5 2,oL 13 12,oH 14 13,oB 15 .lss 11 14] (oD 15 .skip (.exit 0))) (.seq (.block 1 (oR [oA 19 10 3,oF 20 5 2,oL 21 20,oM 22 5,oI 23 2 21 22,oF 24 0 23,oL 25 24,oC2 26 88 19 25,oM 18 26,oX 27 18 0,oX 28 18 1,oM 6 27,oM 7 28] (oR [oM 29 7,oU 30 29] (oD 30 (oR [oZ 4 false] .ret) .skip)))) (.reg [oM 16 5,oC 17 .add 16 1,oM 5 17]))
def CV:qB:=⟨(oR [oQ 2 10 0,oQ 3 10 1,oZ 4 false] (.seq (oR [oJ 5 0] (.block 0 (.loop WX))) (.seq (oR [oJ 8 0] (.block 2 (.loop QX))) (oR [oZ 4 true] .ret)))),[(.tmp 4)],2,[]⟩
theorem S5:QA Tryz.prog 145 CV:=okF Tryz.func145
def WS:C:=.seq (oR [oM 81 13,oF 82 6 5,oL 83 82,oH 84 83,oB 85 .lss 81 84] (oD 85 .skip (.exit 2))) (.seq (.block 3 (oR [oA 89 10 7,oF 90 6 5,oL 91 90,oM 92 13,oI 93 13 91 92,oF 94 0 93,oL 95 94,oC2 96 122 89 95,oM 88 96,oX 97 88 0,oX 98 88 1,oM 14 97,oM 15 98] (oR [oM 99 15,oU 100 99,oM 101 100,oFg 102 6 5 101 true,oP 103 102 101 true,oMg 104 13 101 true,oIg 105 13 103 104 101 true,oFg 106 3 105 101 true,oP 107 106 101 true,oPa 108 101 107] (oD 108 (oR [oJ 8 6] .ret) .skip)))) (.reg [oM 86 13,oC 87 .add 86 1,oM 13 87]))
def ES:C:=.seq (oR [oM 16 9,oF 17 6 7,oL 18 17,oH 19 18,oB 20 .lss 16 19] (oD 20 .skip (.exit 0))) (.seq (.block 1 (oR [oF 23 6 7,oL 24 23,oM 25 9,oI 26 13 24 25,oA 27 13 26,oY 10 zzf,oV 13 10 27] (oR [oA 29 10 5,oF 30 0 10,oL 31 30,oC2 32 122 29 31,oM 28 32,oX 33 28 0,oX 34 28 1,oM 11 33,oM 12 34] (.seq (oR [oF 35 4 10,oL 36 35,oU 37 36,oM 38 37,oMg 39 12 38 true,oUg 40 39 38 true,oMg 41 40 38 true,oFg 42 6 5 41 false,oP 43 42 41 false,oMg 44 11 41 false,oIg 45 13 43 44 41 false,oFg 46 4 45 41 false,oP 47 46 41 false,oG 48 (.pick (.t 41) (.c (.bool true)) (.t 47)) 38 true,oPa 49 38 48] (oD 49 (oR [oJ 8 7] .ret) .skip)) (oR [oM 50 12,oM 51 50,oFg 52 6 5 51 true,oP 53 52 51 true,oMg 54 11 51 true,oIg 55 13 53 54 51 true,oFg 56 4 55 51 true,oP 57 56 51 true,oPa 58 51 57,oM 59 58,oLg 60 1 4 59 true,oFg 61 6 5 59 true,oP 62 61 59 true,oMg 63 11 59 true,oIg 64 13 62 63 59 true,oFg 65 2 64 59 true,oP 66 65 59 true,oFg 67 6 5 59 true,oP 68 67 59 true,oMg 69 11 59 true,oIg 70 13 68 69 59 true,oFg 71 5 70 59 true,oLg 72 8 71 59 true,oLg 73 1 6 59 true,oFg 74 2 10 59 true,oP 75 74 59 true,oFg 76 5 10 59 true,oLg 77 8 76 59 true,oG 78 (.call .any 178 [(.t 60),(.t 66),(.t 72),(.t 73),(.t 75),(.t 77)]) 59 true,oUg 79 78 59 true,oPa 80 59 79] (oD 80 (oR [oJ 8 10] .ret) .skip)))))) (.reg [oM 21 9,oC 22 .add 21 1,oM 9 22]))
def ZP:qB:=⟨(oR [oQ 4 1 0,oQ 5 10 1,oQ 6 1 2,oQ 7 10 3,oJ 8 0] (.seq (oR [oJ 9 0] (.block 0 (.loop ES))) (.seq (oR [oJ 13 0] (.block 2 (.loop WS))) (oR [oJ 8 0] .ret)))),[(.tmp 8)],4,[]⟩
theorem DW:QA Tryz.prog 146 ZP:=okF Tryz.func146
def IA:qB:=⟨(oR [oQ 1 10 0,oZ 2 false] (.seq (oR [oF 3 0 1,oL 4 3,oC 5 .lss 4 1,oM 6 5,oFg 7 0 1 6 false,oP 8 7 6 false,oCi 9 .gtr 8 9 6 false,oPo 10 6 9,oM 11 10,oLg 12 10 1 11 false,oLg 13 10 1 11 false,oG 14 (.call .any 180 [(.t 13)]) 11 false,oCg 15 179 12 14 11 false,oUg 16 15 11 false,oPo 17 11 16,oM 18 17,oFg 19 0 1 18 false,oP 20 19 18 false,oG 21 (.call .any 73 [(.t 20)]) 18 false,oMg 22 21 18 false,oFg 23 1 1 22 true,oP 24 23 22 true,oG 25 (.call .any 181 [(.t 24)]) 22 true,oUg 26 25 22 true,oPb 27 22 26 18 false,oPo 28 18 27] (oD 28 (oR [oZ 2 false] .ret) .skip)) (.seq (oR [oF 29 0 1,oL 30 29] (.block 0 (oR [oC 32 .eql 30 2,oM 31 32] (oD 31 (oR [oF 33 2 1,oL 34 33,oF 35 3 1,oL 36 35,oB 37 .leq 34 36,oM 2 37] .ret) (oR [oC 39 .eql 30 3,oM 38 39] (oD 38 (oR [oF 40 4 1,oL 41 40,oC 42 .geq 41 0,oM 43 42,oFg 44 4 1 43 true,oP 45 44 43 true,oCi 46 .leq 45 200 43 true,oPa 47 43 46,oM 2 47] .ret) (oR [oC 49 .eql 30 4,oM 48 49] (oD 48 (oR [oF 50 5 1,oL 51 50,oC1 52 182 51,oM 2 52] .ret) (.seq (oR [oC 54 .eql 30 5,oM 53 54] (oD 53 .skip (.reg [oC 55 .eql 30 6,oM 53 55]))) (oD 53 (oR [oF 56 6 1,oL 57 56,oF 58 0 1,oL 59 58,oC 60 .eql 59 5,oC2 61 183 57 60,oM 2 61] .ret) (.seq (oR [oC 63 .eql 30 7,oM 62 63] (oD 62 .skip (.reg [oC 64 .eql 30 8,oM 62 64]))) (oD 62 (oR [oF 65 4 1,oL 66 65,oC 67 .geq 66 0,oM 68 67,oFg 69 4 1 68 true,oP 70 69 68 true,oCi 71 .leq 70 50 68 true,oPa 72 68 71,oM 2 72] .ret) .skip)))))))))))) (oR [oZ 2 true] .ret)))),[(.tmp 2)],1,[]⟩
theorem O5:QA Tryz.prog 147 IA:=okF Tryz.func147
def PG:C:=.seq (oR [oM 5 4,oF 6 6 1,oL 7 6,oH 8 7,oB 9 .lss 5 8] (oD 9 .skip (.exit 0))) (.seq (.block 1 (.reg [oM 12 3,oF 13 6 1,oL 14 13,oM 15 4,oI 16 13 14 15,oF 17 2 16,oL 18 17,oS 19 (.bsl [(.int .i64 0)] 1 [(0,(.t 18))]),oAp 20 3 1 8 12 19,oM 3 20])) (.reg [oM 10 4,oC 11 .add 10 1,oM 4 11]))
def rM:qB:=⟨(oR [oQ 1 10 0,oS 2 (.mv (.c (.sl true [])))] (oR [oS 3 (.mv (.c (.sl true [])))] (.seq (oR [oJ 4 0] (.block 0 (.loop PG))) (.seq (oR [oF 21 0 1,oL 22 21,oC 23 .eql 22 8] (oD 23 (.reg [oM 24 3,oF 25 7 1,oL 26 25,oS 27 (.bsl [(.int .i64 0)] 1 [(0,(.t 26))]),oAp 28 3 1 8 24 27,oM 3 28]) .skip)) (.seq (oR [oF 29 0 1,oL 30 29,oC 31 .eql 30 7,oM 32 31,oFg 33 0 1 32 false,oP 34 33 32 false,oCi 35 .eql 34 8 32 false,oPo 36 32 35,oM 37 36,oFg 38 0 1 37 false,oP 39 38 37 false,oCi 40 .eql 39 9 37 false,oPo 41 37 40] (oD 41 (.reg [oM 42 3,oF 43 8 1,oL 44 43,oS 45 (.bsl [(.int .i64 0)] 1 [(0,(.t 44))]),oAp 46 3 1 8 42 45,oM 3 46]) .skip)) (oR [oM 47 3,oM 2 47] .ret)))))),[(.tmp 2)],1,[]⟩
theorem I0:QA Tryz.prog 148 rM:=okF Tryz.func148
def mA:qB:=⟨(oR [oQ 1 10 0,oZ 2 false] (oR [oA 5 10 1,oY 3 zzb,oV 10 3 5] (oR [oF 6 0 3,oN (.store .any false 1 (.t 6) (.c (.int .i64 0)))] (oR [oZ 4 true] (.seq (oR [oF 7 0 1,oL 8 7] (.block 0 (oR [oC 10 .eql 8 1,oM 9 10] (oD 9 .skip (oR [oC 12 .eql 8 2,oM 11 12] (oD 11 (oR [oF 13 2 1,oL 14 13,oF 15 3 1,oL 16 15,oB 17 .leq 14 16,oM 4 17] (.reg [oF 18 2 3,oN (.store .any false 1 (.t 18) (.c (.int .i64 0))),oF 19 3 3,oN (.store .any false 1 (.t 19) (.c (.int .i64 0)))])) (oR [oC 21 .eql 8 3,oM 20 21] (oD 20 (oR [oF 22 4 1,oL 23 22,oC 24 .geq 23 0,oM 25 24,oFg 26 4 1 25 true,oP 27 26 25 true,oCi 28 .leq 27 200 25 true,oPa 29 25 28,oM 4 29] (.reg [oF 30 4 3,oN (.store .any false 1 (.t 30) (.c (.int .i64 0)))])) (oR [oC 32 .eql 8 4,oM 31 32] (oD 31 (oR [oF 33 1 1,oL 34 33,oC1 35 184 34,oM 36 35,oFg 37 5 1 36 true,oP 38 37 36 true,oG 39 (.call .any 185 [(.t 38)]) 36 true,oPa 40 36 39,oM 4 40] (.reg [oF 41 1 3,oN (.store .any false 1 (.t 41) (.c (.str (ByteArray.mk #[])))),oF 42 5 3,oN (.store .any false 1 (.t 42) (.c (.sl true []))),oF 43 9 3,oN (.store .any false 1 (.t 43) (.c (.bool false)))])) (.seq (oR [oC 45 .eql 8 5,oM 44 45] (oD 44 .skip (.reg [oC 46 .eql 8 6,oM 44 46]))) (oD 44 (oR [oF 47 1 1,oL 48 47,oC1 49 184 48,oM 50 49,oLg 51 10 1 50 true,oG 52 (.call .any 186 [(.t 51)]) 50 true,oPa 53 50 52,oM 4 53] (oR [oF 54 1 3,oN (.store .any false 1 (.t 54) (.c (.str (ByteArray.mk #[])))),oF 55 6 3,oN (.store .any false 1 (.t 55) (.c (.sl true [])))] (.reg [oF 56 9 1,oL 57 56,oM 58 57,oFg 59 0 1 58 true,oP 60 59 58 true,oCi 61 .eql 60 5 58 true,oPa 62 58 61,oF 63 9 3,oW 63 62]))) (.seq (oR [oC 65 .eql 8 7,oM 64 65] (oD 64 .skip (.reg [oC 66 .eql 8 8,oM 64 66]))) (oD 64 (oR [oF 67 4 1,oL 68 67,oC 69 .geq 68 0,oM 70 69,oFg 71 4 1 70 true,oP 72 71 70 true,oCi 73 .leq 72 50 70 true,oPa 74 70 73,oM 4 74] (oR [oF 75 4 3,oN (.store .any false 1 (.t 75) (.c (.int .i64 0))),oF 76 8 3,oN (.store .any false 1 (.t 76) (.c (.int .i64 0)))] (oR [oF 77 0 1,oL 78 77,oC 79 .eql 78 8] (oD 79 (.reg [oF 80 7 3,oN (.store .any false 1 (.t 80) (.c (.int .i64 0)))]) .skip)))) (oR [oC 82 .eql 8 9,oM 81 82] (oD 81 (.reg [oF 83 8 3,oN (.store .any false 1 (.t 83) (.c (.int .i64 0)))]) (oR [oZ 2 false] .ret))))))))))))))))) (oR [oM 84 4,oM 85 84,oLg 86 10 3 85 true,oG 87 (.build zzb []) 85 true,oCg 88 187 86 87 85 true,oPa 89 85 88,oM 2 89] .ret)))))),[(.tmp 2)],1,[]⟩
theorem MY:QA Tryz.prog 149 mA:=okF Tryz.func149
def tG:C:=oR [oB 10 .lss 9 8] (.seq (oD 10 .skip (.exit 0)) (.seq (.block 1 (oR [oI 11 13 7 9,oA 12 13 11,oY 5 zzf,oV 13 5 12] (.reg [oM 13 3,oF 14 2 5,oL 15 14,oS 16 (.bsl [(.int .i64 0)] 1 [(0,(.t 15))]),oAp 17 3 1 8 13 16,oM 3 17]))) (.reg [oC 18 .add 9 1,oM 9 18])))
def tL:qB:=⟨(oR [oQ 1 10 0,oS 2 (.mv (.c (.sl true [])))] (oR [oS 3 (.mv (.c (.sl true [])))] (.seq (oR [oF 6 6 1,oL 7 6,oH 8 7,oJ 9 0] (.block 0 (.loop tG))) (.seq (oR [oF 19 0 1,oL 20 19,oC 21 .eql 20 8] (oD 21 (.reg [oM 22 3,oF 23 7 1,oL 24 23,oS 25 (.bsl [(.int .i64 0)] 1 [(0,(.t 24))]),oAp 26 3 1 8 22 25,oM 3 26]) .skip)) (.seq (oR [oF 27 0 1,oL 28 27,oC 29 .geq 28 7] (oD 29 (.reg [oM 30 3,oF 31 8 1,oL 32 31,oS 33 (.bsl [(.int .i64 0)] 1 [(0,(.t 32))]),oAp 34 3 1 8 30 33,oM 3 34]) .skip)) (oR [oM 35 3,oM 2 35] .ret)))))),[(.tmp 2)],1,[]⟩
theorem wZ:QA Tryz.prog 150 tL:=okF Tryz.func150
def uL:qB:=⟨(oR [oQ 3 1 0,oQ 5 8 2,oZ 6 false] (oR [oA 7 1 3,oM 8 1,oA 9 8 5,oS 10 (.call .any 188 [(.t 7),(.t 8),(.t 9),(.c (.bool true))]),oM 6 10] .ret)),[(.tmp 6)],3,[]⟩
theorem rZ:QA Tryz.prog 151 uL:=okF Tryz.func151
def UF:qB:=⟨(oR [oJ 4 0] (.seq (.block 0 (oR [oM 6 0,oC 7 .gtr 6 0,oM 5 7] (oD 5 (oR [oM 8 0,oM 4 8] .ret) (oR [oM 10 1,oC 11 .lss 10 0,oM 9 11] (oD 9 (oR [oM 12 1,oM 4 12] .ret) .skip))))) (oR [oJ 4 0] .ret))),[(.tmp 4)],2,[]⟩
theorem XR:QA Tryz.prog 152 UF:=okF Tryz.func152
def GE:qB:=⟨(oR [oQ 3 1 0,oQ 5 8 2,oY 6 zzc] (oR [oA 10 1 3,oM 11 1,oA 12 8 5,oS 13 (.call .any 189 [(.t 10),(.t 11),(.t 12)]),oM 9 13,oX 14 9 0,oX 15 9 1,oM 7 14,oM 8 15] (.seq (oR [oM 16 8,oC 17 .neq 16 0,oM 18 17,oMg 19 7 18 false,oCi 20 .gtr 19 4096 18 false,oPo 21 18 20] (oD 21 (oR [oS 22 (.build zzc [(0,(1,(.c (.bool true)))),(1,(1,(.c (.bool true))))]),oV 11 6 22] .ret) .skip)) (oR [oS 23 (.load (.root 3) true 1 (.t 3)),oM 24 1,oS 25 (.load (.root 5) true 8 (.t 5)),oS 26 (.call .imm 190 [(.t 23),(.t 24),(.t 25)]),oS 27 (.load (.root 5) true 8 (.t 5)),oS 28 (.build zzc [(0,(1,(.c (.bool true)))),(2,(1,(.t 26))),(3,(8,(.t 27)))]),oN (.store (.root 6) true 11 (.t 6) (.t 28))] .ret)))),[(.cell 6 true 11)],3,[]⟩
theorem cT:QA Tryz.prog 153 GE:=okF Tryz.func153
def EC:qB:=⟨(oR [oQ 2 11 0,oQ 3 11 1,oY 4 zzc] (.seq (oR [oF 5 0 2,oL 6 5,oU 7 6,oM 8 7,oFg 9 0 3 8 false,oP 10 9 8 false,oMg 11 10 8 false,oFg 12 1 2 11 true,oP 13 12 11 true,oMg 14 13 11 true,oFg 15 1 3 14 true,oP 16 15 14 true,oUg 17 16 14 true,oPb 18 14 17 11 true,oMg 19 18 11 true,oFg 20 1 2 19 false,oP 21 20 19 false,oFg 22 1 3 19 false,oP 23 22 19 false,oG 24 (.bin .eql true (.t 21) (.t 23)) 19 false,oMg 25 24 19 false,oFg 26 2 3 25 true,oP 27 26 25 true,oFg 28 2 2 25 true,oP 29 28 25 true,oCg 30 191 27 29 25 true,oPb 31 25 30 19 false,oG 32 (.pick (.t 19) (.c (.bool true)) (.t 31)) 11 true,oPb 33 11 32 8 false,oPo 34 8 33] (oD 34 (oR [oA 35 11 3,oV 11 4 35] .ret) .skip)) (oR [oA 36 11 2,oV 11 4 36] .ret))),[(.cell 4 true 11)],2,[]⟩
theorem AW:QA Tryz.prog 154 EC:=okF Tryz.func154
def xD:C:=.seq (oR [oM 70 12,oF 71 6 7,oL 72 71,oH 73 72,oB 74 .lss 70 73] (oD 74 .skip (.exit 2))) (.seq (.block 3 (oR [oM 77 2,oF 78 6 7,oL 79 78,oM 80 12,oI 81 13 79 80,oF 82 2 81,oL 83 82,oI 84 11 77 83,oA 85 11 84,oY 13 zzc,oV 11 13 85] (.seq (oR [oF 86 0 13,oL 87 86,oM 88 87,oFg 89 1 13 88 true,oP 90 89 88 true,oUg 91 90 88 true,oPa 92 88 91] (oD 92 (.reg [oS 93 (.load (.root 3) true 1 (.t 3)),oM 94 1,oF 95 0 7,oLr 96 7 1 95,oF 97 6 7,oLr 98 7 1 97,oM 99 12,oI 100 13 98 99,oF 101 0 100,oS 102 (.load .imm false 1 (.t 101)),oF 103 3 13,oS 104 (.load (.root 13) true 8 (.t 103)),oS 105 (.bsl zza 1 [(0,(.t 104))]),oS 106 (.build zza [(0,(1,(.t 96))),(4,(1,(.t 102))),(6,(1,(.t 105)))]),oS 107 (.call .imm 193 [(.t 93),(.t 94),(.t 106)]),oN (.store (.root 13) true 11 (.t 13) (.t 107))]) .skip)) (.reg [oA 108 11 11,oA 109 11 13,oC2 110 154 108 109,oV 11 11 110])))) (.reg [oM 75 12,oC 76 .add 75 1,oM 12 76]))
def cD:C:=.seq (oR [oM 22 8,oF 23 6 7,oL 24 23,oH 25 24,oB 26 .lss 22 25] (oD 26 .skip (.exit 0))) (.seq (.block 1 (oR [oF 29 6 7,oL 30 29,oM 31 8,oI 32 13 30 31,oF 33 4 32,oL 34 33,oU 35 34,oM 36 35,oMg 37 2 36 true,oFg 38 6 7 36 true,oP 39 38 36 true,oMg 40 8 36 true,oIg 41 13 39 40 36 true,oFg 42 2 41 36 true,oP 43 42 36 true,oIg 44 11 37 43 36 true,oFg 45 0 44 36 true,oP 46 45 36 true,oUg 47 46 36 true,oPa 48 36 47] (oD 48 (oR [oS 49 (.build zzc []),oV 11 6 49] .ret) .skip))) (.reg [oM 27 8,oC 28 .add 27 1,oM 8 28]))
def QF:qB:=⟨(oR [oQ 3 1 0,oY 6 zzc] (oR [oF 14 0 3,oL 15 14,oM 16 1,oI 17 10 15 16,oA 18 10 17,oY 7 zzb,oV 10 7 18] (.seq (oR [oF 19 0 7,oL 20 19,oC 21 .eql 20 5] (oD 21 (.seq (oR [oJ 8 0] (.block 0 (.loop cD))) (oR [oA 51 10 7,oM 52 2,oC2 53 192 51 52,oM 50 53,oX 54 50 0,oX 55 50 1,oY 9 zza,oV 8 9 54,oM 10 55] (.seq (oR [oM 56 10] (oD 56 (oR [oS 57 (.build zzc [(0,(1,(.c (.bool true)))),(1,(1,(.c (.bool true))))]),oV 11 6 57] .ret) .skip)) (oR [oA 58 1 3,oM 59 1,oA 60 8 9,oS 61 (.call .any 193 [(.t 58),(.t 59),(.t 60)]),oV 11 6 61] .ret)))) .skip)) (.seq (oR [oF 62 0 7,oL 63 62,oC 64 .neq 63 6] (oD 64 (oR [oS 65 (.load (.root 3) true 1 (.t 3)),oM 66 1,oS 67 (.load (.root 7) true 10 (.t 7)),oS 68 (.call .imm 194 [(.t 67)]),oS 69 (.call .imm 193 [(.t 65),(.t 66),(.t 68)]),oN (.store (.root 6) true 11 (.t 6) (.t 69))] .ret) .skip)) (oR [oY 11 zzc] (.seq (oR [oJ 12 0] (.block 2 (.loop xD))) (oR [oA 111 11 11,oV 11 6 111] .ret))))))),[(.cell 6 true 11)],3,[]⟩
theorem fV:QA Tryz.prog 155 QF:=okF Tryz.func155
def OJ:qB:=⟨(oR [oZ 2 false] (oR [oM 3 0,oC 4 .geq 3 7,oM 2 4] .ret)),[(.tmp 2)],1,[]⟩
theorem TW:QA Tryz.prog 156 OJ:=okF Tryz.func156
def eL:qB:=⟨(oR [oJ 4 0] (.seq (oR [oM 5 1] (oD 5 (oR [oJ 4 0] .ret) .skip)) (.seq (oR [oM 6 0] (oD 6 (oR [oJ 4 (-1)] .ret) .skip)) (oR [oJ 4 1] .ret)))),[(.tmp 4)],2,[]⟩
theorem SY:QA Tryz.prog 157 eL:=okF Tryz.func157
def sH:qB:=⟨(oR [oS 2 (.mv (.c (.int .u64 0)))] (.seq (oR [oM 3 0,oC 4 .geq 3 0] (oD 4 (oR [oM 5 0,oS 6 (.conv (.some .u64) (.t 5)),oS 7 (.bin .mul false (.c (.int .u64 2)) (.t 6)),oM 2 7] .ret) .skip)) (oR [oM 8 0,oC 9 .add 8 1,oS 10 (.un .neg (.t 9)),oS 11 (.conv (.some .u64) (.t 10)),oS 12 (.bin .mul false (.c (.int .u64 2)) (.t 11)),oS 13 (.bin .add false (.t 12) (.c (.int .u64 1))),oM 2 13] .ret))),[(.tmp 2)],1,[]⟩
theorem mW:QA Tryz.prog 158 sH:=okF Tryz.func158
def iA:qB:=⟨(oR [oQ 1 8 0,oZ 2 false] (oR [oF 4 0 1,oL 5 4,oM 3 5] (oR [oM 6 3,oC 7 .eql 6 1,oM 8 7,oFg 9 1 1 8 false,oP 10 9 8 false,oUg 11 10 8 false,oPo 12 8 11,oM 13 12,oMg 14 3 13 true,oCi 15 .eql 14 2 13 true,oMg 16 15 13 true,oFg 17 2 1 16 false,oP 18 17 16 false,oCi 19 .eql 18 0 16 false,oG 20 (.pick (.t 16) (.c (.bool true)) (.t 19)) 13 true,oPa 21 13 20,oM 22 21,oMg 23 3 22 true,oCi 24 .eql 23 3 22 true,oMg 25 24 22 true,oFg 26 3 1 25 false,oP 27 26 25 false,oG 28 (.bin .eql false (.t 27) (.c (.str (ByteArray.mk #[])))) 25 false,oG 29 (.pick (.t 25) (.c (.bool true)) (.t 28)) 22 true,oPa 30 22 29,oM 31 30,oMg 32 3 31 true,oCi 33 .eql 32 4 31 true,oMg 34 33 31 true,oMg 35 3 34 false,oCi 36 .eql 35 6 34 false,oG 37 (.pick (.t 34) (.c (.bool true)) (.t 36)) 31 true,oMg 38 37 31 true,oFg 39 4 1 38 false,oP 40 39 38 false,oCi 41 .eql 40 0 38 false,oG 42 (.pick (.t 38) (.c (.bool true)) (.t 41)) 31 true,oPa 43 31 42,oM 44 43,oMg 45 3 44 true,oCi 46 .eql 45 8 44 true,oMg 47 46 44 true,oFg 48 5 1 47 false,oP 49 48 47 false,oHg 50 49 47 false,oCi 51 .eql 50 0 47 false,oG 52 (.pick (.t 47) (.c (.bool true)) (.t 51)) 44 true,oPa 53 44 52,oM 54 53,oMg 55 3 54 true,oCi 56 .geq 55 5 54 true,oMg 57 56 54 true,oFg 58 6 1 57 false,oP 59 58 57 false,oHg 60 59 57 false,oCi 61 .eql 60 0 57 false,oG 62 (.pick (.t 57) (.c (.bool true)) (.t 61)) 54 true,oPa 63 54 62,oM 64 63,oMg 65 3 64 true,oCi 66 .eql 65 5 64 true,oMg 67 66 64 true,oMg 68 3 67 false,oCi 69 .eql 68 6 67 false,oG 70 (.pick (.t 67) (.c (.bool true)) (.t 69)) 64 true,oMg 71 70 64 true,oFg 72 7 1 71 false,oP 73 72 71 false,oHg 74 73 71 false,oCi 75 .eql 74 0 71 false,oG 76 (.pick (.t 71) (.c (.bool true)) (.t 75)) 64 true,oPa 77 64 76,oM 2 77] .ret))),[(.tmp 2)],1,[]⟩
theorem P0:QA Tryz.prog 159 iA:=okF Tryz.func159
noncomputable def nX:qB:=cF [] Tryz.f160
theorem O8:QA Tryz.prog 160 nX:=okF Tryz.func160
def gP:C:=.seq (oR [oM 8 5,oM 9 1,oH 10 9,oB 11 .lss 8 10] (oD 11 .skip (.exit 0))) (.seq (.block 1 (oR [oA 15 10 2,oM 16 1,oM 17 5,oI 18 2 16 17,oF 19 0 18,oL 20 19,oC2 21 122 15 20,oM 14 21,oX 22 14 0,oX 23 14 1,oM 6 22,oM 7 23] (oR [oM 24 1,oM 25 5,oI 26 2 24 25,oF 27 0 26,oL 28 27,oM 29 7,oC2 30 160 28 29,oU 31 30,oM 32 31,oMg 33 5 32 false,oCi 34 .gtr 33 0 32 false,oMg 35 34 32 false,oMg 36 1 35 true,oMg 37 5 35 true,oIg 38 2 36 37 35 true,oFg 39 0 38 35 true,oP 40 39 35 true,oMg 41 1 35 true,oMg 42 5 35 true,oCi 43 .sub 42 1 35 true,oIg 44 2 41 43 35 true,oFg 45 0 44 35 true,oP 46 45 35 true,oBg 47 .leq 40 46 35 true,oPb 48 35 47 32 false,oPo 49 32 48] (oD 49 (oR [oZ 4 false] .ret) .skip)))) (.reg [oM 12 5,oC 13 .add 12 1,oM 5 13]))
def tM:qB:=⟨(oR [oQ 2 10 0,oZ 4 false] (.seq (oR [oJ 5 0] (.block 0 (.loop gP))) (oR [oZ 4 true] .ret))),[(.tmp 4)],2,[]⟩
theorem O0:QA Tryz.prog 161 tM:=okF Tryz.func161
def AJ:C:=.seq (oR [oM 10 9,oM 11 2,oH 12 11,oB 13 .lss 10 12] (oD 13 .skip (.exit 0))) (.seq (.block 1 (oR [oA 16 1 4,oM 17 1,oM 18 2,oM 19 9,oI 20 8 18 19,oA 21 8 20,oM 22 3,oC4 23 121 16 17 21 22,oU 24 23] (oD 24 (oR [oZ 8 false] .ret) .skip))) (.reg [oM 14 9,oC 15 .add 14 1,oM 9 15]))
def TN:qB:=⟨(oR [oQ 4 1 0,oZ 8 false] (.seq (oR [oJ 9 0] (.block 0 (.loop AJ))) (oR [oZ 8 true] .ret))),[(.tmp 8)],4,[]⟩
theorem P5:QA Tryz.prog 162 TN:=okF Tryz.func162
def FM:C:=.seq (oR [oM 4 0,oS 5 (.bin .gtr false (.t 4) (.c (.int .u64 0)))] (oD 5 .skip (.exit 0))) (.block 1 (oR [oM 6 0,oS 7 (.bin .rem false (.t 6) (.c (.int .u64 256))),oS 8 (.conv (.some .u8) (.t 7)),oS 9 (.bsl [(.int .u8 0)] 1 [(0,(.t 8))]),oS 10 (.bstr .any (.t 9)),oM 11 3,oB 12 .add 10 11,oM 3 12] (.reg [oM 13 0,oS 14 (.bin .quo false (.t 13) (.c (.int .u64 256))),oM 0 14])))
def nN:qB:=⟨(oR [oS 2 (.mv (.c (.str (ByteArray.mk #[]))))] (oR [oS 3 (.mv (.c (.str (ByteArray.mk #[]))))] (.seq (.block 0 (.loop FM)) (oR [oM 15 3,oM 2 15] .ret)))),[(.tmp 2)],1,[]⟩
theorem W5:QA Tryz.prog 163 nN:=okF Tryz.func163
def RJ:C:=.seq (oR [oM 4 0,oS 5 (.bin .geq false (.t 4) (.c (.int .u64 128)))] (oD 5 .skip (.exit 0))) (.block 1 (oR [oM 6 3,oM 7 0,oS 8 (.bin .rem false (.t 7) (.c (.int .u64 128))),oS 9 (.bin .add false (.t 8) (.c (.int .u64 128))),oS 10 (.conv (.some .u8) (.t 9)),oS 11 (.bsl [(.int .u8 0)] 1 [(0,(.t 10))]),oAp 12 5 1 1 6 11,oM 3 12] (.reg [oM 13 0,oS 14 (.bin .quo false (.t 13) (.c (.int .u64 128))),oM 0 14])))
def QN:qB:=⟨(oR [oS 2 (.mv (.c (.str (ByteArray.mk #[]))))] (oR [oS 3 (.mv (.c (.sl true [])))] (.seq (.block 0 (.loop RJ)) (oR [oM 15 3,oM 16 0,oS 17 (.conv (.some .u8) (.t 16)),oS 18 (.bsl [(.int .u8 0)] 1 [(0,(.t 17))]),oAp 19 5 1 1 15 18,oS 20 (.bstr .any (.t 19)),oM 2 20] .ret)))),[(.tmp 2)],1,[]⟩
theorem E5:QA Tryz.prog 164 QN:=okF Tryz.func164
def uM:qB:=⟨(oR [oS 2 (.mv (.c (.str (ByteArray.mk #[]))))] (oR [oM 3 0,oS 4 (.len true (.t 3)),oS 5 (.conv (.some .u64) (.t 4)),oC1 6 164 5,oM 7 0,oB 8 .add 6 7,oM 2 8] .ret)),[(.tmp 2)],1,[]⟩
theorem D0:QA Tryz.prog 165 uM:=okF Tryz.func165
def aI:qB:=⟨(oR [oS 6 (.mv (.c (.str (ByteArray.mk #[]))))] (oR [oM 8 0,oS 9 (.bin .mul false (.c (.int .i64 2)) (.t 8)),oS 10 (.conv (.some .u64) (.t 9)),oM 7 10] (.seq (oR [oM 11 1] (oD 11 (.reg [oM 12 7,oS 13 (.bin .add false (.t 12) (.c (.int .u64 1))),oM 7 13]) .skip)) (oR [oM 14 7,oC1 15 164 14,oM 16 2,oC1 17 165 16,oB 18 .add 15 17,oM 6 18] .ret)))),[(.tmp 6)],3,[]⟩
theorem FY:QA Tryz.prog 166 aI:=okF Tryz.func166
def cC:C:=oR [oB 9 .lss 8 7] (.seq (oD 9 .skip (.exit 0)) (.seq (.block 1 (oR [oM 10 8,oM 5 10] (oR [oM 11 1,oM 12 0,oM 13 5,oI 14 2 12 13,oA 15 2 14,oS 16 (.callv .any (.t 11) [(.t 15)])] (oD 16 (oR [oM 17 5,oM 4 17] .ret) .skip)))) (.reg [oC 18 .add 8 1,oM 8 18])))
def qD:qB:=⟨(oR [oJ 4 0] (.seq (oR [oM 6 0,oH 7 6,oJ 8 0] (.block 0 (.loop cC))) (oR [oJ 4 (-1)] .ret))),[(.tmp 4)],2,[]⟩
theorem SK:QA Tryz.prog 167 qD:=okF Tryz.func167
def EG:qB:=⟨(oR [oQ 2 2 0,oZ 3 false] (oR [oF 4 0 2,oL 5 4,oL 6 1,oB 7 .eql 5 6,oM 3 7] .ret)),[(.tmp 3)],2,[]⟩
theorem qR:QA Tryz.prog 168 EG:=okF Tryz.func168
noncomputable def dP:qB:=cF [] Tryz.f169
theorem wV:QA Tryz.prog 169 dP:=okF Tryz.func169
noncomputable def XL:qB:=cF [3000000,77,205,227,245,271,301] Tryz.f170
theorem sQ:QA Tryz.prog 170 XL:=okF Tryz.func170
def uC:C:=oR [oB 14 .lss 13 12] (.seq (oD 14 .skip (.exit 0)) (.seq (.block 1 (oR [oM 15 13,oM 5 15] (oR [oM 16 0,oM 17 5,oI 18 2 16 17,oA 19 2 18,oM 20 1,oM 21 5,oI 22 2 20 21,oA 23 2 22,oS 24 (.eqa true [0,1] (.t 19) (.t 23))] (oD 24 (oR [oZ 4 false] .ret) .skip)))) (.reg [oC 25 .add 13 1,oM 13 25])))
def DD:qB:=⟨(oR [oZ 4 false] (.seq (oR [oM 6 0,oH 7 6,oM 8 1,oH 9 8,oB 10 .neq 7 9] (oD 10 (oR [oZ 4 false] .ret) .skip)) (.seq (oR [oM 11 0,oH 12 11,oJ 13 0] (.block 0 (.loop uC))) (oR [oZ 4 true] .ret)))),[(.tmp 4)],2,[]⟩
theorem jO:QA Tryz.prog 171 DD:=okF Tryz.func171
def FB:C:=oR [oB 18 .lss 17 16] (.seq (oD 18 .skip (.exit 0)) (.seq (.block 1 (oR [oM 19 17,oI 20 8 15 17,oA 21 8 20,oY 8 zza,oM 7 19,oV 8 8 21] (oR [oM 22 1,oM 23 7,oI 24 8 22 23,oA 25 8 24,oY 9 zza,oV 8 9 25] (oR [oM 26 2,oA 27 8 8,oA 28 8 9,oS 29 (.callv .any (.t 26) [(.t 27),(.t 28)]),oU 30 29] (oD 30 (oR [oZ 6 false] .ret) .skip))))) (.reg [oC 31 .add 17 1,oM 17 31])))
def fC:qB:=⟨(oR [oZ 6 false] (.seq (oR [oM 10 0,oH 11 10,oM 12 1,oH 13 12,oB 14 .neq 11 13] (oD 14 (oR [oZ 6 false] .ret) .skip)) (.seq (oR [oM 15 0,oH 16 15,oJ 17 0] (.block 0 (.loop FB))) (oR [oZ 6 true] .ret)))),[(.tmp 6)],3,[]⟩
theorem EL:QA Tryz.prog 172 fC:=okF Tryz.func172
noncomputable def kR:qB:=cF [] Tryz.f178
theorem BY:QA Tryz.prog 178 kR:=okF Tryz.func178
def TE:C:=.seq (oR [oM 97 6,oF 98 6 2,oL 99 98,oH 100 99,oB 101 .lss 97 100] (oD 101 .skip (.exit 2))) (.seq (.block 3 (oR [oF 104 6 2,oL 105 104,oM 106 6,oI 107 13 105 106,oA 108 13 107,oF 109 6 3,oL 110 109,oM 111 6,oI 112 13 110 111,oA 113 13 112,oC2 114 201 108 113,oU 115 114] (oD 115 (oR [oZ 4 false] .ret) .skip))) (.reg [oM 102 6,oC 103 .add 102 1,oM 6 103]))
def GD:C:=.seq (oR [oM 79 5,oF 80 5 2,oL 81 80,oH 82 81,oB 83 .lss 79 82] (oD 83 .skip (.exit 0))) (.seq (.block 1 (oR [oF 86 5 2,oL 87 86,oM 88 5,oI 89 2 87 88,oA 90 2 89,oF 91 5 3,oL 92 91,oM 93 5,oI 94 2 92 93,oA 95 2 94,oS 96 (.eqa true [0,1] (.t 90) (.t 95))] (oD 96 (oR [oZ 4 false] .ret) .skip))) (.reg [oM 84 5,oC 85 .add 84 1,oM 5 85]))
def dB:qB:=⟨(oR [oQ 2 10 0,oQ 3 10 1,oZ 4 false] (.seq (oR [oF 7 0 2,oL 8 7,oF 9 0 3,oL 10 9,oB 11 .neq 8 10,oM 12 11,oFg 13 1 2 12 false,oP 14 13 12 false,oFg 15 1 3 12 false,oP 16 15 12 false,oBg 17 .neq 14 16 12 false,oPo 18 12 17,oM 19 18,oFg 20 2 2 19 false,oP 21 20 19 false,oFg 22 2 3 19 false,oP 23 22 19 false,oBg 24 .neq 21 23 19 false,oPo 25 19 24,oM 26 25,oFg 27 3 2 26 false,oP 28 27 26 false,oFg 29 3 3 26 false,oP 30 29 26 false,oBg 31 .neq 28 30 26 false,oPo 32 26 31,oM 33 32,oFg 34 4 2 33 false,oP 35 34 33 false,oFg 36 4 3 33 false,oP 37 36 33 false,oBg 38 .neq 35 37 33 false,oPo 39 33 38,oM 40 39,oFg 41 7 2 40 false,oP 42 41 40 false,oFg 43 7 3 40 false,oP 44 43 40 false,oBg 45 .neq 42 44 40 false,oPo 46 40 45,oM 47 46,oFg 48 8 2 47 false,oP 49 48 47 false,oFg 50 8 3 47 false,oP 51 50 47 false,oBg 52 .neq 49 51 47 false,oPo 53 47 52,oM 54 53,oFg 55 9 2 54 false,oP 56 55 54 false,oFg 57 9 3 54 false,oP 58 57 54 false,oG 59 (.bin .neq true (.t 56) (.t 58)) 54 false,oPo 60 54 59,oM 61 60,oFg 62 5 2 61 false,oP 63 62 61 false,oHg 64 63 61 false,oFg 65 5 3 61 false,oP 66 65 61 false,oHg 67 66 61 false,oBg 68 .neq 64 67 61 false,oPo 69 61 68,oM 70 69,oFg 71 6 2 70 false,oP 72 71 70 false,oHg 73 72 70 false,oFg 74 6 3 70 false,oP 75 74 70 false,oHg 76 75 70 false,oBg 77 .neq 73 76 70 false,oPo 78 70 77] (oD 78 (oR [oZ 4 false] .ret) .skip)) (.seq (oR [oJ 5 0] (.block 0 (.loop GD))) (.seq (oR [oJ 6 0] (.block 2 (.loop TE))) (oR [oZ 4 true] .ret))))),[(.tmp 4)],2,[]⟩
theorem WT:QA Tryz.prog 179 dB:=okF Tryz.func179
def pI:qB:=⟨(oR [oQ 1 10 0,oY 2 zzb] (.seq (oR [oF 3 0 1,oL 4 3] (.block 0 (oR [oC 6 .eql 4 1,oM 5 6] (oD 5 (oR [oF 7 0 1,oL 8 7,oS 9 (.build zzb [(0,(1,(.t 8)))]),oV 10 2 9] .ret) (oR [oC 11 .eql 4 2,oM 10 11] (oD 10 (oR [oF 12 0 1,oL 13 12,oF 14 2 1,oL 15 14,oF 16 3 1,oL 17 16,oS 18 (.build zzb [(0,(1,(.t 13))),(2,(1,(.t 15))),(3,(1,(.t 17)))]),oV 10 2 18] .ret) (oR [oC 20 .eql 4 3,oM 19 20] (oD 19 (oR [oF 21 0 1,oL 22 21,oF 23 4 1,oL 24 23,oS 25 (.build zzb [(0,(1,(.t 22))),(4,(1,(.t 24)))]),oV 10 2 25] .ret) (oR [oC 27 .eql 4 4,oM 26 27] (oD 26 (oR [oF 28 0 1,oL 29 28,oF 30 1 1,oL 31 30,oF 32 5 1,oL 33 32,oF 34 9 1,oL 35 34,oS 36 (.build zzb [(0,(1,(.t 29))),(1,(1,(.t 31))),(5,(1,(.t 33))),(9,(1,(.t 35)))]),oV 10 2 36] .ret) (oR [oC 38 .eql 4 5,oM 37 38] (oD 37 (oR [oF 39 0 1,oL 40 39,oF 41 1 1,oL 42 41,oF 43 6 1,oL 44 43,oS 45 (.build zzb [(0,(1,(.t 40))),(1,(1,(.t 42))),(6,(1,(.t 44)))]),oV 10 2 45] .ret) (oR [oC 47 .eql 4 6,oM 46 47] (oD 46 (oR [oF 48 0 1,oL 49 48,oF 50 1 1,oL 51 50,oF 52 6 1,oL 53 52,oF 54 9 1,oL 55 54,oS 56 (.build zzb [(0,(1,(.t 49))),(1,(1,(.t 51))),(6,(1,(.t 53))),(9,(1,(.t 55)))]),oV 10 2 56] .ret) (oR [oC 58 .eql 4 7,oM 57 58] (oD 57 (oR [oF 59 0 1,oL 60 59,oF 61 4 1,oL 62 61,oF 63 8 1,oL 64 63,oS 65 (.build zzb [(0,(1,(.t 60))),(4,(1,(.t 62))),(8,(1,(.t 64)))]),oV 10 2 65] .ret) (oR [oC 67 .eql 4 8,oM 66 67] (oD 66 (oR [oF 68 0 1,oL 69 68,oF 70 4 1,oL 71 70,oF 72 7 1,oL 73 72,oF 74 8 1,oL 75 74,oS 76 (.build zzb [(0,(1,(.t 69))),(4,(1,(.t 71))),(7,(1,(.t 73))),(8,(1,(.t 75)))]),oV 10 2 76] .ret) .skip)))))))))))))))))) (oR [oF 77 0 1,oL 78 77,oF 79 8 1,oL 80 79,oS 81 (.build zzb [(0,(1,(.t 78))),(8,(1,(.t 80)))]),oV 10 2 81] .ret))),[(.cell 2 true 10)],1,[]⟩
theorem OY:QA Tryz.prog 180 pI:=okF Tryz.func180
def zE:C:=.seq (oR [oM 17 3,oM 18 0,oS 19 (.len true (.t 18)),oB 20 .lss 17 19] (oD 20 .skip (.exit 0))) (.seq (.block 1 (oR [oM 23 0,oM 24 3,oS 25 (.index (.t 23) (.t 24)),oC1 26 202 25,oU 27 26,oM 28 27,oMg 29 0 28 true,oMg 30 3 28 true,oG 31 (.index (.t 29) (.t 30)) 28 true,oG 32 (.call .any 203 [(.t 31)]) 28 true,oUg 33 32 28 true,oPa 34 28 33] (oD 34 (oR [oZ 2 false] .ret) .skip))) (.reg [oM 21 3,oC 22 .add 21 1,oM 3 22]))
def BE:qB:=⟨(oR [oZ 2 false] (.seq (oR [oM 4 0,oS 5 (.bin .eql false (.t 4) (.c (.str (ByteArray.mk #[])))),oM 6 5,oMg 7 0 6 false,oG 8 (.len true (.t 7)) 6 false,oCi 9 .gtr 8 24 6 false,oPo 10 6 9,oM 11 10,oMg 12 0 11 false,oG 13 (.index (.t 12) (.c (.int .i64 0))) 11 false,oG 14 (.call .any 202 [(.t 13)]) 11 false,oUg 15 14 11 false,oPo 16 11 15] (oD 16 (oR [oZ 2 false] .ret) .skip)) (.seq (oR [oJ 3 0] (.block 0 (.loop zE))) (oR [oZ 2 true] .ret)))),[(.tmp 2)],1,[]⟩
theorem QW:QA Tryz.prog 181 BE:=okF Tryz.func181
def nG:C:=.seq (oR [oM 29 5,oM 30 4,oB 31 .lss 29 30] (oD 31 .skip (.exit 2))) (.seq (.block 3 (oR [oM 34 0,oM 35 5,oI 36 2 34 35,oF 37 1 36,oL 38 37,oM 39 0,oM 40 4,oI 41 2 39 40,oF 42 1 41,oL 43 42,oB 44 .eql 38 43] (oD 44 (oR [oZ 2 false] .ret) .skip))) (.reg [oM 32 5,oC 33 .add 32 1,oM 5 33]))
def wF:C:=.seq (oR [oM 6 4,oM 7 0,oH 8 7,oB 9 .lss 6 8] (oD 9 .skip (.exit 0))) (.seq (.block 1 (.seq (oR [oM 12 3,oM 13 0,oM 14 4,oI 15 2 13 14,oF 16 0 15,oL 17 16,oC2 18 204 12 17,oU 19 18,oM 20 19,oMg 21 0 20 false,oMg 22 4 20 false,oIg 23 2 21 22 20 false,oFg 24 1 23 20 false,oP 25 24 20 false,oG 26 (.call .any 181 [(.t 25)]) 20 false,oUg 27 26 20 false,oPo 28 20 27] (oD 28 (oR [oZ 2 false] .ret) .skip)) (.seq (oR [oJ 5 0] (.block 2 (.loop nG))) (.reg [oM 45 0,oM 46 4,oI 47 2 45 46,oF 48 0 47,oL 49 48,oM 3 49])))) (.reg [oM 10 4,oC 11 .add 10 1,oM 4 11]))
def UI:qB:=⟨(oR [oZ 2 false] (oR [oJ 3 0] (.seq (oR [oJ 4 0] (.block 0 (.loop wF))) (oR [oM 50 0,oH 51 50,oC 52 .geq 51 1,oM 53 52,oMg 54 0 53 true,oHg 55 54 53 true,oCi 56 .leq 55 16 53 true,oPa 57 53 56,oM 2 57] .ret)))),[(.tmp 2)],1,[]⟩
theorem iV:QA Tryz.prog 182 UI:=okF Tryz.func182
def qF:C:=.seq (oR [oM 60 8,oM 61 6,oB 62 .lss 60 61] (oD 62 .skip (.exit 2))) (.seq (.block 3 (oR [oM 65 0,oM 66 8,oI 67 13 65 66,oF 68 1 67,oL 69 68,oF 70 1 7,oL 71 70,oB 72 .eql 69 71] (oD 72 (oR [oZ 4 false] .ret) .skip))) (.reg [oM 63 8,oC 64 .add 63 1,oM 8 64]))
def iE:C:=.seq (oR [oM 9 6,oM 10 0,oH 11 10,oB 12 .lss 9 11] (oD 12 .skip (.exit 0))) (.seq (.block 1 (oR [oM 15 0,oM 16 6,oI 17 13 15 16,oA 18 13 17,oY 7 zzf,oV 13 7 18] (.seq (oR [oM 19 5,oF 20 0 7,oL 21 20,oC2 22 204 19 21,oU 23 22,oM 24 23,oFg 25 1 7 24 false,oP 26 25 24 false,oG 27 (.call .any 181 [(.t 26)]) 24 false,oUg 28 27 24 false,oPo 29 24 28,oM 30 29,oFg 31 3 7 30 false,oP 32 31 30 false,oMg 33 32 30 false,oFg 34 4 7 33 true,oP 35 34 33 true,oPb 36 33 35 30 false,oPo 37 30 36,oM 38 37,oMg 39 1 38 false,oUg 40 39 38 false,oMg 41 40 38 false,oFg 42 3 7 41 true,oP 43 42 41 true,oMg 44 43 41 true,oFg 45 4 7 44 false,oP 46 45 44 false,oG 47 (.pick (.t 44) (.c (.bool true)) (.t 46)) 41 true,oPb 48 41 47 38 false,oPo 49 38 48] (oD 49 (oR [oZ 4 false] .ret) .skip)) (.seq (oR [oF 50 4 7,oL 51 50,oU 52 51,oM 53 52,oFg 54 5 7 53 true,oLg 55 8 54 53 true,oG 56 (.build zza []) 53 true,oCg 57 71 55 56 53 true,oUg 58 57 53 true,oPa 59 53 58] (oD 59 (oR [oZ 4 false] .ret) .skip)) (.seq (oR [oJ 8 0] (.block 2 (.loop qF))) (.reg [oF 73 0 7,oL 74 73,oM 5 74])))))) (.reg [oM 13 6,oC 14 .add 13 1,oM 6 14]))
def WI:qB:=⟨(oR [oZ 4 false] (oR [oJ 5 0] (.seq (oR [oJ 6 0] (.block 0 (.loop iE))) (oR [oM 75 0,oH 76 75,oC 77 .leq 76 16,oM 78 77,oMg 79 1 78 true,oMg 80 79 78 true,oMg 81 0 80 false,oHg 82 81 80 false,oCi 83 .geq 82 1 80 false,oG 84 (.pick (.t 80) (.c (.bool true)) (.t 83)) 78 true,oPa 85 78 84,oM 4 85] .ret)))),[(.tmp 4)],2,[]⟩
theorem uV:QA Tryz.prog 183 WI:=okF Tryz.func183
def lE:C:=oR [oB 20 .lss 19 18] (.seq (oD 20 .skip (.exit 0)) (.seq (.block 1 (oR [oM 21 19,oM 3 21] (oR [oM 22 0,oM 23 3,oS 24 (.index (.t 22) (.t 23)),oC1 25 205 24,oU 26 25,oM 27 26,oMg 28 0 27 true,oMg 29 3 27 true,oG 30 (.index (.t 28) (.t 29)) 27 true,oG 31 (.call .any 206 [(.t 30)]) 27 true,oUg 32 31 27 true,oPa 33 27 32] (oD 33 (oR [oZ 2 false] .ret) .skip)))) (.reg [oC 34 .add 19 1,oM 19 34])))
def CE:qB:=⟨(oR [oZ 2 false] (.seq (oR [oM 4 0,oS 5 (.bin .eql false (.t 4) (.c (.str (ByteArray.mk #[])))),oM 6 5,oMg 7 0 6 false,oG 8 (.len true (.t 7)) 6 false,oCi 9 .gtr 8 24 6 false,oPo 10 6 9,oM 11 10,oMg 12 0 11 false,oG 13 (.index (.t 12) (.c (.int .i64 0))) 11 false,oG 14 (.call .any 205 [(.t 13)]) 11 false,oUg 15 14 11 false,oPo 16 11 15] (oD 16 (oR [oZ 2 false] .ret) .skip)) (.seq (oR [oM 17 0,oS 18 (.len true (.t 17)),oJ 19 0] (.block 0 (.loop lE))) (oR [oZ 2 true] .ret)))),[(.tmp 2)],1,[]⟩
theorem nW:QA Tryz.prog 184 CE:=okF Tryz.func184
def CF:C:=oR [oB 10 .lss 9 8] (.seq (oD 10 .skip (.exit 0)) (.seq (.block 1 (oR [oI 11 2 7 9,oA 12 2 11,oY 6 zzd,oV 2 6 12] (.reg [oM 13 3,oF 14 0 6,oL 15 14,oS 16 (.bsl [(.int .i64 0)] 1 [(0,(.t 15))]),oAp 17 3 1 8 13 16,oM 18 4,oF 19 1 6,oL 20 19,oS 21 (.bsl [(.str (ByteArray.mk #[]))] 1 [(0,(.t 20))]),oAp 22 9 1 16 18 21,oM 3 17,oM 4 22]))) (.reg [oC 23 .add 9 1,oM 9 23])))
def SH:qB:=⟨(oR [oZ 2 false] (oR [oS 3 (.mv (.c (.sl true [])))] (oR [oS 4 (.mv (.c (.sl true [])))] (.seq (oR [oM 7 0,oH 8 7,oJ 9 0] (.block 0 (.loop CF))) (oR [oM 24 0,oH 25 24,oC 26 .gtr 25 0,oM 27 26,oMg 28 3 27 true,oMg 29 4 27 true,oCg 30 207 28 29 27 true,oPa 31 27 30,oM 2 31] .ret))))),[(.tmp 2)],1,[]⟩
theorem TT:QA Tryz.prog 185 SH:=okF Tryz.func185
def XF:C:=oR [oB 11 .lss 10 9] (.seq (oD 11 .skip (.exit 0)) (.seq (.block 1 (oR [oI 12 13 8 10,oA 13 13 12,oY 6 zzf,oV 13 6 13] (oR [oM 14 3,oF 15 0 6,oL 16 15,oS 17 (.bsl [(.int .i64 0)] 1 [(0,(.t 16))]),oAp 18 3 1 8 14 17,oM 19 4,oF 20 1 6,oL 21 20,oS 22 (.bsl [(.str (ByteArray.mk #[]))] 1 [(0,(.t 21))]),oAp 23 9 1 16 19 22,oM 3 18,oM 4 23] (oR [oF 24 0 1,oL 25 24,oC 26 .eql 25 6,oM 27 26,oFg 28 3 6 27 true,oP 29 28 27 true,oMg 30 29 27 true,oFg 31 4 6 30 false,oP 32 31 30 false,oG 33 (.pick (.t 30) (.c (.bool true)) (.t 32)) 27 true,oPa 34 27 33,oM 35 34,oFg 36 3 6 35 false,oP 37 36 35 false,oMg 38 37 35 false,oFg 39 4 6 38 true,oP 40 39 38 true,oPb 41 38 40 35 false,oPo 42 35 41,oM 43 42,oFg 44 4 6 43 false,oP 45 44 43 false,oUg 46 45 43 false,oMg 47 46 43 false,oFg 48 5 6 47 true,oLg 49 8 48 47 true,oG 50 (.call .any 208 [(.t 49)]) 47 true,oUg 51 50 47 true,oPb 52 47 51 43 false,oPo 53 43 52] (oD 53 (oR [oZ 2 false] .ret) .skip))))) (.reg [oC 54 .add 10 1,oM 10 54])))
def AH:qB:=⟨(oR [oQ 1 10 0,oZ 2 false] (oR [oS 3 (.mv (.c (.sl true [])))] (oR [oS 4 (.mv (.c (.sl true [])))] (.seq (oR [oF 7 6 1,oL 8 7,oH 9 8,oJ 10 0] (.block 0 (.loop XF))) (oR [oF 55 0 1,oL 56 55,oC 57 .eql 56 5,oM 58 57,oMg 59 3 58 false,oHg 60 59 58 false,oCi 61 .gtr 60 0 58 false,oPo 62 58 61,oM 63 62,oMg 64 3 63 true,oMg 65 4 63 true,oCg 66 207 64 65 63 true,oPa 67 63 66,oM 2 67] .ret))))),[(.tmp 2)],1,[]⟩
theorem RT:QA Tryz.prog 186 AH:=okF Tryz.func186
def ZB:qB:=⟨(oR [oQ 2 10 0,oQ 3 10 1,oZ 4 false] (oR [oF 5 0 2,oL 6 5,oF 7 0 3,oL 8 7,oB 9 .eql 6 8,oM 10 9,oFg 11 1 2 10 true,oP 12 11 10 true,oFg 13 1 3 10 true,oP 14 13 10 true,oBg 15 .eql 12 14 10 true,oPa 16 10 15,oM 17 16,oFg 18 2 2 17 true,oP 19 18 17 true,oFg 20 2 3 17 true,oP 21 20 17 true,oBg 22 .eql 19 21 17 true,oPa 23 17 22,oM 24 23,oFg 25 3 2 24 true,oP 26 25 24 true,oFg 27 3 3 24 true,oP 28 27 24 true,oBg 29 .eql 26 28 24 true,oPa 30 24 29,oM 31 30,oFg 32 4 2 31 true,oP 33 32 31 true,oFg 34 4 3 31 true,oP 35 34 31 true,oBg 36 .eql 33 35 31 true,oPa 37 31 36,oM 38 37,oFg 39 7 2 38 true,oP 40 39 38 true,oFg 41 7 3 38 true,oP 42 41 38 true,oBg 43 .eql 40 42 38 true,oPa 44 38 43,oM 45 44,oFg 46 8 2 45 true,oP 47 46 45 true,oFg 48 8 3 45 true,oP 49 48 45 true,oBg 50 .eql 47 49 45 true,oPa 51 45 50,oM 52 51,oFg 53 9 2 52 true,oP 54 53 52 true,oFg 55 9 3 52 true,oP 56 55 52 true,oG 57 (.bin .eql true (.t 54) (.t 56)) 52 true,oPa 58 52 57,oM 59 58,oFg 60 5 2 59 true,oP 61 60 59 true,oFg 62 5 3 59 true,oP 63 62 59 true,oCg 64 209 61 63 59 true,oPa 65 59 64,oM 66 65,oFg 67 6 2 66 true,oP 68 67 66 true,oFg 69 6 3 66 true,oP 70 69 66 true,oG 71 (.call .any 210 [(.t 68),(.t 70),(.c (.fn 211 []))]) 66 true,oPa 72 66 71,oM 4 72] .ret)),[(.tmp 4)],2,[]⟩
theorem HW:QA Tryz.prog 187 ZB:=okF Tryz.func187
def EF:C:=.seq (oR [oM 281 20,oF 282 5 6,oL 283 282,oH 284 283,oB 285 .lss 281 284] (oD 285 .skip (.exit 5))) (.seq (.block 6 (oR [oF 288 5 6,oL 289 288,oM 290 20,oC 291 .sub 290 1,oI 292 8 289 291,oA 293 8 292,oF 294 5 6,oL 295 294,oM 296 20,oI 297 8 295 296,oA 298 8 297,oC2 299 216 293 298,oC 300 .geq 299 0] (oD 300 (oR [oZ 8 false] .ret) .skip))) (.reg [oM 286 20,oC 287 .add 286 1,oM 20 287]))
def RF:C:=oR [oB 153 .lss 152 151] (.seq (oD 153 .skip (.exit 3)) (.seq (.block 4 (oR [oM 154 152,oI 155 13 150 152,oA 156 13 155,oY 17 zzf,oM 16 154,oV 13 17 156] (oR [oA 157 1 4,oF 158 2 17,oL 159 158,oF 160 6 6,oL 161 160,oM 162 16,oI 163 8 161 162,oA 164 8 163,oM 165 3,oC4 166 188 157 159 164 165,oU 167 166] (oD 167 (oR [oZ 8 false] .ret) .skip)))) (.reg [oC 168 .add 152 1,oM 152 168])))
def SL:C:=oR [oB 114 .lss 113 112] (.seq (oD 114 .skip (.exit 1)) (.seq (.block 2 (oR [oM 115 113,oI 116 2 111 113,oA 117 2 116,oY 13 zzd,oM 12 115,oV 2 13 117] (oR [oA 119 10 9,oF 120 0 13,oL 121 120,oC2 122 99 119 121,oM 118 122,oX 123 118 0,oX 124 118 1,oM 14 123,oM 15 124] (oR [oM 125 15,oM 126 125,oFg 127 0 13 126 false,oP 128 127 126 false,oG 129 (.call .any 214 [(.t 128)]) 126 false,oUg 130 129 126 false,oPo 131 126 130,oM 132 131,oMg 133 12 132 false,oCi 134 .gtr 133 0 132 false,oMg 135 134 132 false,oFg 136 0 13 135 true,oP 137 136 135 true,oFg 138 7 6 135 true,oP 139 138 135 true,oMg 140 12 135 true,oCi 141 .sub 140 1 135 true,oIg 142 2 139 141 135 true,oFg 143 0 142 135 true,oP 144 143 135 true,oBg 145 .leq 137 144 135 true,oPb 146 135 145 132 false,oPo 147 132 146] (oD 147 (oR [oZ 8 false] .ret) .skip))))) (.reg [oC 148 .add 113 1,oM 113 148])))
def dA:qB:=⟨(oR [oQ 4 1 0,oQ 6 8 2,oZ 8 false] (.seq (oR [oM 21 1,oC 22 .lss 21 0,oM 23 22,oMg 24 1 23 false,oFg 25 0 4 23 false,oP 26 25 23 false,oHg 27 26 23 false,oBg 28 .geq 24 27 23 false,oPo 29 23 28] (oD 29 (oR [oZ 8 false] .ret) .skip)) (oR [oF 30 0 4,oL 31 30,oM 32 1,oI 33 10 31 32,oA 34 10 33,oY 9 zzb,oV 10 9 34] (.seq (oR [oF 35 0 6,oL 36 35,oF 37 0 9,oL 38 37,oB 39 .neq 36 38,oM 40 39,oLg 41 8 6 40 false,oG 42 (.call .any 213 [(.t 41)]) 40 false,oUg 43 42 40 false,oPo 44 40 43] (oD 44 (oR [oZ 8 false] .ret) .skip)) (.seq (oR [oF 45 0 9,oL 46 45] (.block 0 (oR [oC 48 .eql 46 2,oM 47 48] (oD 47 (oR [oF 49 2 6,oL 50 49,oF 51 2 9,oL 52 51,oB 53 .geq 50 52,oM 54 53,oFg 55 2 6 54 true,oP 56 55 54 true,oFg 57 3 9 54 true,oP 58 57 54 true,oBg 59 .leq 56 58 54 true,oPa 60 54 59,oM 8 60] .ret) (oR [oC 62 .eql 46 3,oM 61 62] (oD 61 (oR [oF 63 3 6,oL 64 63,oS 65 (.len true (.t 64)),oF 66 4 9,oL 67 66,oB 68 .leq 65 67,oM 8 68] .ret) (oR [oC 70 .eql 46 4,oM 69 70] (oD 69 (oR [oA 72 10 9,oF 73 4 6,oL 74 73,oC2 75 125 72 74,oM 71 75,oX 76 71 0,oX 77 71 1,oM 10 76,oM 11 77] (oR [oM 78 11,oM 79 78,oFg 80 9 9 79 false,oP 81 80 79 false,oMg 82 81 79 false,oMg 83 3 82 true,oUg 84 83 82 true,oPb 85 82 84 79 false,oMg 86 85 79 false,oFg 87 4 6 86 true,oP 88 87 86 true,oG 89 (.call .any 214 [(.t 88)]) 86 true,oPb 90 86 89 79 false,oPo 91 79 90,oM 8 91] .ret)) (oR [oC 93 .eql 46 5,oM 92 93] (oD 92 (.seq (oR [oF 94 6 6,oL 95 94,oH 96 95,oF 97 6 9,oL 98 97,oH 99 98,oB 100 .neq 96 99,oM 101 100,oMg 102 3 101 false,oMg 103 102 101 false,oFg 104 7 6 103 true,oP 105 104 103 true,oHg 106 105 103 true,oCi 107 .gtr 106 0 103 true,oPb 108 103 107 101 false,oPo 109 101 108] (oD 109 (oR [oZ 8 false] .ret) .skip)) (.seq (oR [oF 110 7 6,oL 111 110,oH 112 111,oJ 113 0] (.block 1 (.loop SL))) (oR [oF 149 6 9,oL 150 149,oH 151 150,oJ 152 0] (.block 3 (.loop RF))))) (oR [oC 170 .eql 46 6,oM 169 170] (oD 169 (.seq (oR [oA 172 10 9,oF 173 4 6,oL 174 173,oC2 175 99 172 174,oM 171 175,oX 176 171 0,oX 177 171 1,oM 18 176,oM 19 177] (oR [oM 178 19] (oD 178 (oR [oF 179 6 6,oL 180 179,oH 181 180,oC 182 .eql 181 1,oM 183 182,oFg 184 7 6 183 true,oP 185 184 183 true,oHg 186 185 183 true,oCi 187 .eql 186 0 183 true,oPa 188 183 187,oM 189 188,oLg 190 1 4 189 true,oFg 191 6 9 189 true,oP 192 191 189 true,oMg 193 18 189 true,oIg 194 13 192 193 189 true,oFg 195 2 194 189 true,oP 196 195 189 true,oFg 197 6 6 189 true,oP 198 197 189 true,oG 199 (.iaddr 8 (.t 198) (.c (.int .i64 0))) 189 true,oLg 200 8 199 189 true,oMg 201 3 189 true,oG 202 (.call .any 188 [(.t 190),(.t 196),(.t 200),(.t 201)]) 189 true,oPa 203 189 202,oM 8 203] .ret) .skip))) (oR [oF 204 9 9,oL 205 204,oM 206 205,oMg 207 3 206 true,oUg 208 207 206 true,oPa 209 206 208,oM 210 209,oFg 211 4 6 210 true,oP 212 211 210 true,oG 213 (.call .any 214 [(.t 212)]) 210 true,oPa 214 210 213,oM 215 214,oFg 216 6 6 215 true,oP 217 216 215 true,oHg 218 217 215 true,oCi 219 .eql 218 0 215 true,oPa 220 215 219,oM 221 220,oFg 222 7 6 221 true,oP 223 222 221 true,oHg 224 223 221 true,oCi 225 .eql 224 1 221 true,oPa 226 221 225,oM 227 226,oFg 228 7 6 227 true,oP 229 228 227 true,oG 230 (.iaddr 2 (.t 229) (.c (.int .i64 0))) 227 true,oFg 231 0 230 227 true,oP 232 231 227 true,oFg 233 4 6 227 true,oP 234 233 227 true,oBg 235 .eql 232 234 227 true,oPa 236 227 235,oM 8 236] .ret)) (oR [oC 238 .eql 46 7,oM 237 238] (oD 237 (oR [oF 239 6 6,oL 240 239,oH 241 240,oF 242 4 9,oL 243 242,oB 244 .leq 241 243,oM 245 244,oLg 246 1 4 245 true,oFg 247 8 9 245 true,oP 248 247 245 true,oFg 249 6 6 245 true,oP 250 249 245 true,oMg 251 3 245 true,oG 252 (.call .any 215 [(.t 246),(.t 248),(.t 250),(.t 251)]) 245 true,oPa 253 245 252,oM 8 253] .ret) (oR [oC 255 .eql 46 8,oM 254 255] (oD 254 (.seq (oR [oF 256 5 6,oL 257 256,oH 258 257,oF 259 4 9,oL 260 259,oB 261 .gtr 258 260,oM 262 261,oFg 263 6 6 262 false,oP 264 263 262 false,oHg 265 264 262 false,oFg 266 5 6 262 false,oP 267 266 262 false,oHg 268 267 262 false,oBg 269 .neq 265 268 262 false,oPo 270 262 269,oM 271 270,oLg 272 1 4 271 false,oFg 273 7 9 271 false,oP 274 273 271 false,oFg 275 5 6 271 false,oP 276 275 271 false,oMg 277 3 271 false,oG 278 (.call .any 215 [(.t 272),(.t 274),(.t 276),(.t 277)]) 271 false,oUg 279 278 271 false,oPo 280 271 279] (oD 280 (oR [oZ 8 false] .ret) .skip)) (.seq (oR [oJ 20 1] (.block 5 (.loop EF))) (oR [oA 301 1 4,oF 302 8 9,oL 303 302,oF 304 6 6,oL 305 304,oM 306 3,oC4 307 215 301 303 305 306,oM 8 307] .ret))) (oR [oC 309 .eql 46 9,oM 308 309] (oD 308 (oR [oF 310 6 6,oL 311 310,oH 312 311,oC 313 .leq 312 1,oM 314 313,oLg 315 1 4 314 true,oFg 316 8 9 314 true,oP 317 316 314 true,oFg 318 6 6 314 true,oP 319 318 314 true,oMg 320 3 314 true,oG 321 (.call .any 215 [(.t 315),(.t 317),(.t 319),(.t 320)]) 314 true,oPa 322 314 321,oM 8 322] .ret) .skip)))))))))))))))))) (oR [oZ 8 true] .ret)))))),[(.tmp 8)],4,[]⟩
theorem Q1:QA Tryz.prog 188 dA:=okF Tryz.func188
def XK:qB:=⟨(oR [oQ 3 1 0,oQ 5 8 2,oJ 6 0,oJ 7 0] (.seq (oR [oA 10 1 3,oM 11 1,oA 12 8 5,oS 13 (.call .any 217 [(.t 10),(.t 11),(.t 12)]),oM 8 13] (oR [oM 14 8,oC 15 .neq 14 0] (oD 15 (oR [oM 16 8,oJ 6 0,oM 7 16] .ret) .skip))) (oR [oA 17 1 3,oS 18 (.build [(.sl true []),(.int .i64 0)] [(0,(1,(.t 17)))]),oQ 19 2 18,oM 9 19] (oR [oM 20 9,oM 21 1,oA 22 8 5,oS 23 (.callr .any 218 [(.t 20),(.t 21),(.t 22),(.c (.int .i64 1))]),oS 24 (.len true (.t 23)),oM 6 24,oJ 7 0] .ret)))),[(.tmp 6),(.tmp 7)],3,[47]⟩
theorem QY:QA Tryz.prog 189 XK:=okF Tryz.func189
def BG:qB:=⟨(oR [oQ 3 1 0,oQ 5 8 2,oS 6 (.mv (.c (.str (ByteArray.mk #[]))))] (oR [oA 10 1 3,oM 11 1,oA 12 8 5,oS 13 (.call .any 219 [(.t 10),(.t 11),(.t 12)]),oM 9 13,oX 14 9 0,oX 15 9 1,oM 7 14,oM 8 15] (.seq (oR [oM 16 8,oC 17 .eql 16 0] (oD 17 (oR [oM 18 7,oM 6 18] .ret) .skip)) (oR [oS 6 (.mv (.c (.str (ByteArray.mk #[]))))] .ret)))),[(.tmp 6)],3,[]⟩
theorem CR:QA Tryz.prog 190 BG:=okF Tryz.func190
def JG:qB:=⟨(oR [oZ 4 false] (oR [oM 5 0,oS 6 (.len true (.t 5)),oM 7 1,oS 8 (.len true (.t 7)),oB 9 .lss 6 8,oM 10 9,oMg 11 0 10 false,oG 12 (.len true (.t 11)) 10 false,oMg 13 1 10 false,oG 14 (.len true (.t 13)) 10 false,oBg 15 .eql 12 14 10 false,oMg 16 15 10 false,oMg 17 0 16 true,oMg 18 1 16 true,oBg 19 .lss 17 18 16 true,oPb 20 16 19 10 false,oPo 21 10 20,oM 4 21] .ret)),[(.tmp 4)],2,[]⟩
theorem DY:QA Tryz.prog 191 JG:=okF Tryz.func191
def OB:C:=.seq (oR [oM 12 7,oF 13 6 2,oL 14 13,oH 15 14,oB 16 .lss 12 15] (oD 16 .skip (.exit 0))) (.seq (.block 1 (oR [oF 19 6 2,oL 20 19,oM 21 7,oI 22 13 20 21,oA 23 13 22,oY 8 zzf,oV 13 8 23] (.block 2 (oR [oF 36 4 8,oL 37 36,oM 35 37] (oD 35 (.reg [oF 38 6 6,oL 39 38,oF 40 5 8,oA 41 8 40,oS 42 (.bsl zza 1 [(0,(.t 41))]),oAp 43 40 8 120 39 42,oF 44 6 6,oW 44 43]) (oR [oM 46 1,oF 47 2 8,oL 48 47,oI 49 11 46 48,oF 50 1 49,oL 51 50,oM 45 51] (oD 45 (oR [oS 52 (.build zza []),oV 8 4 52,oZ 5 true] .ret) (.reg [oF 24 6 6,oLr 25 6 1 24,oM 26 1,oF 27 2 8,oLr 28 8 1 27,oI 29 11 26 28,oF 30 3 29,oS 31 (.load .imm true 8 (.t 30)),oS 32 (.bsl zza 1 [(0,(.t 31))]),oS 33 (.app .imm 40 8 120 (.t 25) (.t 32)),oF 34 6 6,oN (.store (.root 6) false 1 (.t 34) (.t 33))])))))))) (.reg [oM 17 7,oC 18 .add 17 1,oM 7 18]))
def OI:qB:=⟨(oR [oQ 2 10 0,oY 4 zza,oZ 5 false] (oR [oF 9 0 2,oL 10 9,oS 11 (.build zza [(0,(1,(.t 10)))]),oY 6 zza,oV 8 6 11] (.seq (oR [oJ 7 0] (.block 0 (.loop OB))) (oR [oA 53 8 6,oV 8 4 53,oZ 5 false] .ret)))),[(.cell 4 true 8),(.tmp 5)],2,[]⟩
theorem dV:QA Tryz.prog 192 OI:=okF Tryz.func192
def KG:qB:=⟨(oR [oQ 3 1 0,oQ 5 8 2,oY 6 zzc] (oR [oA 8 1 3,oM 9 1,oA 10 8 5,oS 11 (.call .any 123 [(.t 8),(.t 9),(.t 10)]),oM 7 11] (.seq (oR [oM 12 7,oS 13 (.len true (.t 12)),oC 14 .gtr 13 4096] (oD 14 (oR [oS 15 (.build zzc [(0,(1,(.c (.bool true)))),(1,(1,(.c (.bool true))))]),oV 11 6 15] .ret) .skip)) (oR [oM 16 7,oA 17 8 5,oS 18 (.build zzc [(0,(1,(.c (.bool true)))),(2,(1,(.t 16))),(3,(8,(.t 17)))]),oV 11 6 18] .ret)))),[(.cell 6 true 11)],3,[]⟩
theorem XY:QA Tryz.prog 193 KG:=okF Tryz.func193
def nE:qB:=⟨(oR [oQ 1 10 0,oY 2 zza] (oR [oF 4 0 1,oL 5 4,oS 6 (.build zza [(0,(1,(.t 5)))]),oY 3 zza,oV 8 3 6] (.seq (oR [oF 7 0 1,oL 8 7] (.block 0 (oR [oC 10 .eql 8 2,oM 9 10] (oD 9 (.seq (oR [oF 11 2 1,oL 12 11,oC 13 .gtr 12 0] (oD 13 (.reg [oF 14 2 1,oL 15 14,oF 16 2 3,oW 16 15]) .skip)) (oR [oF 17 3 1,oL 18 17,oC 19 .lss 18 0] (oD 19 (.reg [oF 20 3 1,oL 21 20,oF 22 2 3,oW 22 21]) .skip))) (oR [oC 24 .eql 8 4,oM 23 24] (oD 23 (.reg [oF 25 5 1,oL 26 25,oS 27 (.iaddr 2 (.t 26) (.c (.int .i64 0))),oF 28 0 27,oL 29 28,oF 30 4 3,oW 30 29]) .skip)))))) (oR [oA 31 8 3,oV 8 2 31] .ret)))),[(.cell 2 true 8)],1,[]⟩
theorem gV:QA Tryz.prog 194 nE:=okF Tryz.func194
noncomputable def eO:qB:=cF [] Tryz.f195
theorem mT:QA Tryz.prog 195 eO:=okF Tryz.func195
noncomputable def LL:qB:=cF [3000000] Tryz.f196
theorem pQ:QA Tryz.prog 196 LL:=okF Tryz.func196
noncomputable def fK:qB:=cF [] Tryz.f197
theorem BO:QA Tryz.prog 197 fK:=okF Tryz.func197
noncomputable def xL:qB:=cF [] Tryz.f198
theorem IP:QA Tryz.prog 198 xL:=okF Tryz.func198
noncomputable def zL:qB:=cF [3000000,57] Tryz.f199
theorem UP:QA Tryz.prog 199 zL:=okF Tryz.func199
def iC:qB:=⟨(oR [oQ 2 13 0,oQ 3 13 1,oZ 4 false] (oR [oF 5 0 2,oL 6 5,oF 7 0 3,oL 8 7,oB 9 .eql 6 8,oM 10 9,oFg 11 1 2 10 true,oP 12 11 10 true,oFg 13 1 3 10 true,oP 14 13 10 true,oBg 15 .eql 12 14 10 true,oPa 16 10 15,oM 17 16,oFg 18 2 2 17 true,oP 19 18 17 true,oFg 20 2 3 17 true,oP 21 20 17 true,oBg 22 .eql 19 21 17 true,oPa 23 17 22,oM 24 23,oFg 25 3 2 24 true,oP 26 25 24 true,oFg 27 3 3 24 true,oP 28 27 24 true,oG 29 (.bin .eql true (.t 26) (.t 28)) 24 true,oPa 30 24 29,oM 31 30,oFg 32 4 2 31 true,oP 33 32 31 true,oFg 34 4 3 31 true,oP 35 34 31 true,oG 36 (.bin .eql true (.t 33) (.t 35)) 31 true,oPa 37 31 36,oM 38 37,oFg 39 5 2 38 true,oLg 40 8 39 38 true,oFg 41 5 3 38 true,oLg 42 8 41 38 true,oCg 43 71 40 42 38 true,oPa 44 38 43,oM 4 44] .ret)),[(.tmp 4)],2,[]⟩
theorem NQ:QA Tryz.prog 201 iC:=okF Tryz.func201
def TJ:qB:=⟨(oR [oZ 2 false] (oR [oM 3 0,oS 4 (.bin .geq false (.t 3) (.c (.int .u8 97))),oM 5 4,oMg 6 0 5 true,oG 7 (.bin .leq false (.t 6) (.c (.int .u8 122))) 5 true,oPa 8 5 7,oM 9 8,oMg 10 0 9 false,oG 11 (.bin .geq false (.t 10) (.c (.int .u8 65))) 9 false,oMg 12 11 9 false,oMg 13 0 12 true,oG 14 (.bin .leq false (.t 13) (.c (.int .u8 90))) 12 true,oPb 15 12 14 9 false,oPo 16 9 15,oM 17 16,oMg 18 0 17 false,oG 19 (.bin .eql false (.t 18) (.c (.int .u8 95))) 17 false,oPo 20 17 19,oM 2 20] .ret)),[(.tmp 2)],1,[]⟩
theorem WW:QA Tryz.prog 202 TJ:=okF Tryz.func202
def BK:qB:=⟨(oR [oZ 2 false] (oR [oM 3 0,oS 4 (.bin .geq false (.t 3) (.c (.int .u8 48))),oM 5 4,oMg 6 0 5 true,oG 7 (.bin .leq false (.t 6) (.c (.int .u8 57))) 5 true,oPa 8 5 7,oM 2 8] .ret)),[(.tmp 2)],1,[]⟩
theorem RY:QA Tryz.prog 203 BK:=okF Tryz.func203
def WO:qB:=⟨(oR [oZ 4 false] (oR [oM 5 1,oM 6 0,oB 7 .gtr 5 6,oM 8 7,oMg 9 1 8 true,oCi 10 .geq 9 1 8 true,oPa 11 8 10,oM 12 11,oMg 13 1 12 true,oCi 14 .leq 13 1000 12 true,oPa 15 12 14,oM 4 15] .ret)),[(.tmp 4)],2,[]⟩
theorem I8:QA Tryz.prog 204 WO:=okF Tryz.func204
def IH:qB:=⟨(oR [oZ 2 false] (oR [oM 3 0,oS 4 (.bin .eql false (.t 3) (.c (.int .u8 95))),oM 5 4,oMg 6 0 5 false,oG 7 (.bin .geq false (.t 6) (.c (.int .u8 97))) 5 false,oMg 8 7 5 false,oMg 9 0 8 true,oG 10 (.bin .leq false (.t 9) (.c (.int .u8 122))) 8 true,oPb 11 8 10 5 false,oPo 12 5 11,oM 13 12,oMg 14 0 13 false,oG 15 (.bin .geq false (.t 14) (.c (.int .u8 65))) 13 false,oMg 16 15 13 false,oMg 17 0 16 true,oG 18 (.bin .leq false (.t 17) (.c (.int .u8 90))) 16 true,oPb 19 16 18 13 false,oPo 20 13 19,oM 2 20] .ret)),[(.tmp 2)],1,[]⟩
theorem bT:QA Tryz.prog 205 IH:=okF Tryz.func205
def mI:qB:=⟨(oR [oZ 2 false] (oR [oM 3 0,oS 4 (.bin .geq false (.t 3) (.c (.int .u8 48))),oM 5 4,oMg 6 0 5 true,oG 7 (.bin .leq false (.t 6) (.c (.int .u8 57))) 5 true,oPa 8 5 7,oM 2 8] .ret)),[(.tmp 2)],1,[]⟩
theorem MU:QA Tryz.prog 206 mI:=okF Tryz.func206
def EB:C:=oR [oB 12 .lss 11 10] (.seq (oD 12 .skip (.exit 0)) (.seq (.block 1 (oR [oM 13 11,oI 14 1 9 11,oL 15 14,oM 6 13,oM 7 15] (.seq (oR [oM 16 7,oC 17 .lss 16 1,oM 18 17,oMg 19 7 18 false,oCi 20 .gtr 19 1000 18 false,oPo 21 18 20,oM 22 21,oMg 23 6 22 false,oCi 24 .gtr 23 0 22 false,oMg 25 24 22 false,oMg 26 7 25 true,oMg 27 0 25 true,oMg 28 6 25 true,oCi 29 .sub 28 1 25 true,oIg 30 1 27 29 25 true,oP 31 30 25 true,oBg 32 .leq 26 31 25 true,oPb 33 25 32 22 false,oPo 34 22 33,oM 35 34,oMg 36 5 35 false,oMg 37 1 35 false,oMg 38 6 35 false,oIg 39 1 37 38 35 false,oP 40 39 35 false,oG 41 (.mget false .none (.bool false) (.t 36) (.t 40)) 35 false,oPo 42 35 41,oM 43 42,oMg 44 1 43 false,oMg 45 6 43 false,oIg 46 1 44 45 43 false,oP 47 46 43 false,oG 48 (.call .any 184 [(.t 47)]) 43 false,oUg 49 48 43 false,oPo 50 43 49] (oD 50 (oR [oZ 4 false] .ret) .skip)) (.reg [oM 51 5,oM 52 1,oM 53 6,oI 54 1 52 53,oL 55 54,oN (.mset .none (.t 51) (.t 55) (.c (.bool true)))])))) (.reg [oC 56 .add 11 1,oM 11 56])))
def iM:qB:=⟨(oR [oZ 4 false] (oR [oS 8 (.mkm),oM 5 8] (.seq (oR [oM 9 0,oH 10 9,oJ 11 0] (.block 0 (.loop EB))) (oR [oM 57 0,oH 58 57,oC 59 .leq 58 16,oM 4 59] .ret)))),[(.tmp 4)],2,[]⟩
theorem X0:QA Tryz.prog 207 iM:=okF Tryz.func207
def JJ:qB:=⟨(oR [oQ 1 8 0,oZ 2 false] (oR [oA 3 8 1,oS 4 (.build zza []),oC2 5 212 3 4,oM 2 5] .ret)),[(.tmp 2)],1,[]⟩
theorem GW:QA Tryz.prog 208 JJ:=okF Tryz.func208
def RB:C:=oR [oB 14 .lss 13 12] (.seq (oD 14 .skip (.exit 0)) (.seq (.block 1 (oR [oM 15 13,oM 5 15] (oR [oM 16 0,oM 17 5,oI 18 2 16 17,oA 19 2 18,oM 20 1,oM 21 5,oI 22 2 20 21,oA 23 2 22,oS 24 (.eqa true [0,1] (.t 19) (.t 23))] (oD 24 (oR [oZ 4 false] .ret) .skip)))) (.reg [oC 25 .add 13 1,oM 13 25])))
def JC:qB:=⟨(oR [oZ 4 false] (.seq (oR [oM 6 0,oH 7 6,oM 8 1,oH 9 8,oB 10 .neq 7 9] (oD 10 (oR [oZ 4 false] .ret) .skip)) (.seq (oR [oM 11 0,oH 12 11,oJ 13 0] (.block 0 (.loop RB))) (oR [oZ 4 true] .ret)))),[(.tmp 4)],2,[]⟩
theorem wN:QA Tryz.prog 209 JC:=okF Tryz.func209
def UB:C:=oR [oB 18 .lss 17 16] (.seq (oD 18 .skip (.exit 0)) (.seq (.block 1 (oR [oM 19 17,oI 20 13 15 17,oA 21 13 20,oY 8 zzf,oM 7 19,oV 13 8 21] (oR [oM 22 1,oM 23 7,oI 24 13 22 23,oA 25 13 24,oY 9 zzf,oV 13 9 25] (oR [oM 26 2,oA 27 13 8,oA 28 13 9,oS 29 (.callv .any (.t 26) [(.t 27),(.t 28)]),oU 30 29] (oD 30 (oR [oZ 6 false] .ret) .skip))))) (.reg [oC 31 .add 17 1,oM 17 31])))
def qC:qB:=⟨(oR [oZ 6 false] (.seq (oR [oM 10 0,oH 11 10,oM 12 1,oH 13 12,oB 14 .neq 11 13] (oD 14 (oR [oZ 6 false] .ret) .skip)) (.seq (oR [oM 15 0,oH 16 15,oJ 17 0] (.block 0 (.loop UB))) (oR [oZ 6 true] .ret)))),[(.tmp 6)],3,[]⟩
theorem PK:QA Tryz.prog 210 qC:=okF Tryz.func210
def zC:qB:=⟨(oR [oQ 2 13 0,oQ 3 13 1,oZ 4 false] (oR [oF 5 0 2,oL 6 5,oF 7 0 3,oL 8 7,oB 9 .eql 6 8,oM 10 9,oFg 11 1 2 10 true,oP 12 11 10 true,oFg 13 1 3 10 true,oP 14 13 10 true,oBg 15 .eql 12 14 10 true,oPa 16 10 15,oM 17 16,oFg 18 2 2 17 true,oP 19 18 17 true,oFg 20 2 3 17 true,oP 21 20 17 true,oBg 22 .eql 19 21 17 true,oPa 23 17 22,oM 24 23,oFg 25 3 2 24 true,oP 26 25 24 true,oFg 27 3 3 24 true,oP 28 27 24 true,oG 29 (.bin .eql true (.t 26) (.t 28)) 24 true,oPa 30 24 29,oM 31 30,oFg 32 4 2 31 true,oP 33 32 31 true,oFg 34 4 3 31 true,oP 35 34 31 true,oG 36 (.bin .eql true (.t 33) (.t 35)) 31 true,oPa 37 31 36,oM 38 37,oFg 39 5 2 38 true,oLg 40 8 39 38 true,oFg 41 5 3 38 true,oLg 42 8 41 38 true,oCg 43 212 40 42 38 true,oPa 44 38 43,oM 4 44] .ret)),[(.tmp 4)],2,[]⟩
theorem rS:QA Tryz.prog 211 zC:=okF Tryz.func211
def uD:qB:=⟨(oR [oQ 2 8 0,oQ 3 8 1,oZ 4 false] (oR [oF 5 0 2,oL 6 5,oF 7 0 3,oL 8 7,oB 9 .eql 6 8,oM 10 9,oFg 11 1 2 10 true,oP 12 11 10 true,oFg 13 1 3 10 true,oP 14 13 10 true,oG 15 (.bin .eql true (.t 12) (.t 14)) 10 true,oPa 16 10 15,oM 17 16,oFg 18 2 2 17 true,oP 19 18 17 true,oFg 20 2 3 17 true,oP 21 20 17 true,oBg 22 .eql 19 21 17 true,oPa 23 17 22,oM 24 23,oFg 25 3 2 24 true,oP 26 25 24 true,oFg 27 3 3 24 true,oP 28 27 24 true,oBg 29 .eql 26 28 24 true,oPa 30 24 29,oM 31 30,oFg 32 4 2 31 true,oP 33 32 31 true,oFg 34 4 3 31 true,oP 35 34 31 true,oBg 36 .eql 33 35 31 true,oPa 37 31 36,oM 38 37,oFg 39 7 2 38 true,oP 40 39 38 true,oFg 41 7 3 38 true,oP 42 41 38 true,oCg 43 171 40 42 38 true,oPa 44 38 43,oM 45 44,oFg 46 5 2 45 true,oP 47 46 45 true,oFg 48 5 3 45 true,oP 49 48 45 true,oG 50 (.call .any 172 [(.t 47),(.t 49),(.c (.fn 212 []))]) 45 true,oPa 51 45 50,oM 52 51,oFg 53 6 2 52 true,oP 54 53 52 true,oFg 55 6 3 52 true,oP 56 55 52 true,oG 57 (.call .any 172 [(.t 54),(.t 56),(.c (.fn 212 []))]) 52 true,oPa 58 52 57,oM 4 58] .ret)),[(.tmp 4)],2,[]⟩
theorem qZ:QA Tryz.prog 212 uD:=okF Tryz.func212
def RC:qB:=⟨(oR [oQ 1 8 0,oZ 2 false] (oR [oA 4 8 1,oC1 5 226 4,oY 3 zza,oV 8 3 5] (oR [oF 6 1 1,oL 7 6,oF 8 1 3,oL 9 8,oS 10 (.bin .eql true (.t 7) (.t 9)),oM 11 10,oFg 12 2 1 11 true,oP 13 12 11 true,oFg 14 2 3 11 true,oP 15 14 11 true,oBg 16 .eql 13 15 11 true,oPa 17 11 16,oM 18 17,oFg 19 3 1 18 true,oP 20 19 18 true,oFg 21 3 3 18 true,oP 22 21 18 true,oBg 23 .eql 20 22 18 true,oPa 24 18 23,oM 25 24,oFg 26 4 1 25 true,oP 27 26 25 true,oFg 28 4 3 25 true,oP 29 28 25 true,oBg 30 .eql 27 29 25 true,oPa 31 25 30,oM 32 31,oFg 33 5 1 32 true,oP 34 33 32 true,oHg 35 34 32 true,oFg 36 5 3 32 true,oP 37 36 32 true,oHg 38 37 32 true,oBg 39 .eql 35 38 32 true,oPa 40 32 39,oM 41 40,oFg 42 6 1 41 true,oP 43 42 41 true,oHg 44 43 41 true,oFg 45 6 3 41 true,oP 46 45 41 true,oHg 47 46 41 true,oBg 48 .eql 44 47 41 true,oPa 49 41 48,oM 50 49,oFg 51 7 1 50 true,oP 52 51 50 true,oHg 53 52 50 true,oFg 54 7 3 50 true,oP 55 54 50 true,oHg 56 55 50 true,oBg 57 .eql 53 56 50 true,oPa 58 50 57,oM 2 58] .ret))),[(.tmp 2)],1,[]⟩
theorem JW:QA Tryz.prog 213 RC:=okF Tryz.func213
noncomputable def RS:qB:=cF [] Tryz.f214
theorem W1:QA Tryz.prog 214 RS:=okF Tryz.func214
def DH:qB:=⟨(oR [oQ 4 1 0,oQ 5 1 1,oQ 7 1 3,oZ 8 false] (oR [oM 9 2,oS 10 (.mkf 228 [(.t 4),(.t 5),(.t 7)]),oC2 11 227 9 10,oU 12 11,oM 8 12] .ret)),[(.tmp 8)],4,[]⟩
theorem N0:QA Tryz.prog 215 DH:=okF Tryz.func215
def PC:qB:=⟨(oR [oQ 2 8 0,oQ 3 8 1,oJ 4 0] (.seq (oR [oF 5 0 2,oL 6 5,oF 7 0 3,oL 8 7,oB 9 .neq 6 8] (oD 9 (oR [oJ 4 0] .ret) .skip)) (.seq (oR [oF 10 0 2,oL 11 10] (.block 0 (oR [oC 13 .eql 11 1,oM 12 13] (oD 12 (.seq (.block 1 (oR [oF 15 1 2,oL 16 15,oF 17 1 3,oL 18 17,oS 19 (.bin .eql true (.t 16) (.t 18)),oM 14 19] (oD 14 (oR [oJ 4 0] .ret) (oR [oF 21 1 3,oL 22 21,oM 20 22] (oD 20 (oR [oJ 4 (-1)] .ret) .skip))))) (oR [oJ 4 1] .ret)) (oR [oC 24 .eql 11 2,oM 23 24] (oD 23 (oR [oF 25 2 2,oL 26 25,oC1 27 230 26,oF 28 2 3,oL 29 28,oC1 30 230 29,oC2 31 229 27 30,oM 4 31] .ret) (oR [oC 33 .eql 11 3,oM 32 33] (oD 32 (oR [oF 34 3 2,oL 35 34,oS 36 (.len true (.t 35)),oF 37 3 3,oL 38 37,oS 39 (.len true (.t 38)),oC2 40 102 36 39,oF 41 3 2,oL 42 41,oF 43 3 3,oL 44 43,oC2 45 232 42 44,oS 46 (.bsl [(.int .i64 0)] 2 [(0,(.t 40)),(1,(.t 45))]),oC1 47 231 46,oM 4 47] .ret) (oR [oC 49 .eql 11 4,oM 48 49] (oD 48 (oR [oF 50 4 2,oL 51 50,oF 52 4 3,oL 53 52,oC2 54 102 51 53,oM 4 54] .ret) .skip)))))))))) (oR [oJ 4 0] .ret)))),[(.tmp 4)],2,[]⟩
theorem cV:QA Tryz.prog 216 PC:=okF Tryz.func216
def RH:qB:=⟨(oR [oQ 3 1 0,oQ 5 8 2,oJ 6 0] (.seq (oR [oA 8 1 3,oM 9 1,oC2 10 233 8 9,oM 7 10] (oR [oM 11 7,oC 12 .neq 11 0] (oD 12 (oR [oM 13 7,oM 6 13] .ret) .skip))) (.seq (oR [oA 14 1 3,oM 15 1,oA 16 8 5,oS 17 (.call .any 234 [(.t 14),(.t 15),(.t 16)]),oU 18 17] (oD 18 (oR [oJ 6 1] .ret) .skip)) (oR [oJ 6 0] .ret)))),[(.tmp 6)],3,[]⟩
theorem sT:QA Tryz.prog 217 RH:=okF Tryz.func217
def nB:C:=oR [oB 87 .lss 86 85] (.seq (oD 87 .skip (.exit 1)) (.seq (.block 2 (oR [oM 88 86,oI 89 8 84 86,oA 90 8 89,oY 12 zza,oM 11 88,oV 8 12 90] (.seq (oR [oF 91 0 9,oL 92 91,oC 93 .eql 92 8] (oD 93 (.reg [oM 94 0,oF 95 7 9,oLr 96 9 1 95,oF 97 5 6,oLr 98 6 1 97,oM 99 11,oI 100 8 98 99,oA 101 8 100,oM 102 3,oC 103 .add 102 1,oS 104 (.callr (.root 0) 218 [(.t 94),(.t 96),(.t 101),(.t 103)]),oC1 105 239 104,oC2 106 238 10 105]) .skip)) (.reg [oM 107 0,oF 108 8 9,oL 109 108,oA 110 8 12,oM 111 3,oC 112 .add 111 1,oS 113 (.callr .any 218 [(.t 107),(.t 109),(.t 110),(.t 112)]),oC1 114 239 113,oC2 115 238 10 114])))) (.reg [oC 116 .add 86 1,oM 86 116])))
def cA:qB:=⟨(oR [oQ 6 8 2,oS 8 (.mv (.c (.str (ByteArray.mk #[]))))] (oR [oM 13 0,oM 14 0,oK 15 14,oF 16 1 15,oL 17 16,oM 18 3,oS 19 (.mm true (.t 17) (.t 18)),oK 20 13,oF 21 1 20,oW 21 19] (oR [oM 22 0,oK 23 22,oF 24 0 23,oF 25 0 24,oL 26 25,oM 27 1,oI 28 10 26 27,oA 29 10 28,oY 9 zzb,oV 10 9 29] (.seq (oR [oF 30 0 9,oL 31 30] (.block 0 (oR [oC 33 .eql 31 1,oM 32 33] (oD 32 (.seq (oR [oF 34 1 6,oL 35 34] (oD 35 (oR [oS 8 (.mv (.c (.str (ByteArray.mk #[1]))))] .ret) .skip)) (oR [oS 8 (.mv (.c (.str (ByteArray.mk #[]))))] .ret)) (oR [oC 37 .eql 31 2,oM 36 37] (oD 36 (oR [oF 38 2 6,oL 39 38,oC1 40 230 39,oC1 41 235 40,oM 8 41] .ret) (oR [oC 43 .eql 31 3,oM 42 43] (oD 42 (oR [oF 44 3 6,oL 45 44,oM 8 45] .ret) (oR [oC 47 .eql 31 4,oM 46 47] (oD 46 (oR [oF 48 4 6,oL 49 48,oS 50 (.conv (.some .u64) (.t 49)),oC1 51 235 50,oM 8 51] .ret) (oR [oC 53 .eql 31 5,oM 52 53] (oD 52 (oR [oM 54 0,oA 55 10 9,oA 56 8 6,oM 57 3,oS 58 (.callr .any 236 [(.t 54),(.t 55),(.t 56),(.t 57)]),oM 8 58] .ret) (oR [oC 60 .eql 31 6,oM 59 60] (oD 59 (oR [oM 61 0,oA 62 10 9,oA 63 8 6,oM 64 3,oS 65 (.callr .any 237 [(.t 61),(.t 62),(.t 63),(.t 64)]),oM 8 65] .ret) (oR [oC 67 .eql 31 9,oM 66 67] (oD 66 (.seq (oR [oF 68 6 6,oL 69 68,oH 70 69,oC 71 .eql 70 0] (oD 71 (oR [oS 8 (.mv (.c (.str (ByteArray.mk #[]))))] .ret) .skip)) (oR [oM 72 0,oF 73 8 9,oLr 74 9 1 73,oF 75 6 6,oLr 76 6 1 75,oS 77 (.iaddr 8 (.t 76) (.c (.int .i64 0))),oA 78 8 77,oM 79 3,oC 80 .add 79 1,oS 81 (.callr (.root 0) 218 [(.t 72),(.t 74),(.t 78),(.t 80)]),oS 82 (.bin .add false (.c (.str (ByteArray.mk #[1]))) (.t 81)),oM 8 82] .ret)) .skip)))))))))))))))) (oR [oS 10 (.mkb 275 5)] (.seq (oR [oF 83 6 6,oL 84 83,oH 85 84,oJ 86 0] (.block 1 (.loop nB))) (oR [oC1 117 240 10,oM 8 117] .ret))))))),[(.tmp 8)],4,[3000000,20,117,131,163,209,227]⟩
theorem HN:QA Tryz.prog 218 cA:=okF Tryz.func218
def bI:qB:=⟨(oR [oQ 3 1 0,oQ 5 8 2,oS 6 (.mv (.c (.str (ByteArray.mk #[])))),oJ 7 0] (.seq (oR [oA 11 1 3,oM 12 1,oA 13 8 5,oS 14 (.call .any 217 [(.t 11),(.t 12),(.t 13)]),oM 8 14] (oR [oM 15 8,oC 16 .neq 15 0] (oD 16 (oR [oM 17 8,oS 6 (.mv (.c (.str (ByteArray.mk #[])))),oM 7 17] .ret) .skip))) (oR [oA 18 1 3,oS 19 (.build [(.sl true []),(.int .i64 0)] [(0,(1,(.t 18)))]),oQ 20 2 19,oM 9 20] (oR [oM 21 9,oM 22 1,oA 23 8 5,oS 24 (.callr .any 218 [(.t 21),(.t 22),(.t 23),(.c (.int .i64 1))]),oM 10 24] (.seq (oR [oM 25 10,oS 26 (.len true (.t 25)),oC 27 .gtr 26 4096,oM 28 27,oMg 29 9 28 false,oG 30 (.nilchk (.t 29)) 28 false,oFg 31 1 30 28 false,oP 32 31 28 false,oCi 33 .gtr 32 200 28 false,oPo 34 28 33] (oD 34 (oR [oS 6 (.mv (.c (.str (ByteArray.mk #[])))),oJ 7 3] .ret) .skip)) (oR [oM 35 10,oM 6 35,oJ 7 0] .ret)))))),[(.tmp 6),(.tmp 7)],3,[49]⟩
theorem GU:QA Tryz.prog 219 bI:=okF Tryz.func219
noncomputable def KM:qB:=cF [] Tryz.f220
theorem rR:QA Tryz.prog 220 KM:=okF Tryz.func220
noncomputable def dK:qB:=cF [] Tryz.f221
theorem CO:QA Tryz.prog 221 dK:=okF Tryz.func221
noncomputable def wO:qB:=cF [] Tryz.f222
theorem nT:QA Tryz.prog 222 wO:=okF Tryz.func222
noncomputable def ZL:qB:=cF [] Tryz.f223
theorem aQ:QA Tryz.prog 223 ZL:=okF Tryz.func223
noncomputable def JL:qB:=cF [] Tryz.f224
theorem iQ:QA Tryz.prog 224 JL:=okF Tryz.func224
noncomputable def bN:qB:=cF [] Tryz.f225
theorem qS:QA Tryz.prog 225 bN:=okF Tryz.func225
def gB:qB:=⟨(oR [oQ 1 8 0,oY 2 zza] (oR [oF 4 0 1,oL 5 4,oS 6 (.build zza [(0,(1,(.t 5)))]),oY 3 zza,oV 8 3 6] (.seq (oR [oF 7 0 1,oL 8 7] (.block 0 (oR [oC 10 .eql 8 1,oM 9 10] (oD 9 (.reg [oF 11 1 1,oL 12 11,oF 13 1 3,oW 13 12]) (oR [oC 15 .eql 8 2,oM 14 15] (oD 14 (.reg [oF 16 2 1,oL 17 16,oF 18 2 3,oW 18 17]) (oR [oC 20 .eql 8 3,oM 19 20] (oD 19 (.reg [oF 21 3 1,oL 22 21,oF 23 3 3,oW 23 22]) (oR [oC 25 .eql 8 4,oM 24 25] (oD 24 (.reg [oF 26 4 1,oL 27 26,oF 28 4 3,oW 28 27]) (oR [oC 30 .eql 8 5,oM 29 30] (oD 29 (.reg [oF 31 6 1,oLr 32 1 1 31,oF 33 7 1,oLr 34 1 1 33,oF 35 6 3,oN (.store (.root 3) false 1 (.t 35) (.t 32)),oF 36 7 3,oN (.store (.root 3) false 1 (.t 36) (.t 34))]) (oR [oC 38 .eql 8 6,oM 37 38] (oD 37 (.reg [oF 39 4 1,oLr 40 1 1 39,oF 41 6 1,oLr 42 1 1 41,oF 43 7 1,oLr 44 1 1 43,oF 45 4 3,oN (.store (.root 3) false 1 (.t 45) (.t 40)),oF 46 6 3,oN (.store (.root 3) false 1 (.t 46) (.t 42)),oF 47 7 3,oN (.store (.root 3) false 1 (.t 47) (.t 44))]) (oR [oC 49 .eql 8 8,oM 48 49] (oD 48 (.reg [oF 50 5 1,oLr 51 1 1 50,oF 52 6 1,oLr 53 1 1 52,oF 54 5 3,oN (.store (.root 3) false 1 (.t 54) (.t 51)),oF 55 6 3,oN (.store (.root 3) false 1 (.t 55) (.t 53))]) (.seq (oR [oC 57 .eql 8 7,oM 56 57] (oD 56 .skip (.reg [oC 58 .eql 8 9,oM 56 58]))) (oD 56 (.reg [oF 59 6 1,oL 60 59,oF 61 6 3,oW 61 60]) .skip)))))))))))))))))) (oR [oA 62 8 3,oV 8 2 62] .ret)))),[(.cell 2 true 8)],1,[]⟩
theorem B0:QA Tryz.prog 226 gB:=okF Tryz.func226
def zB:qB:=⟨(oR [oZ 4 false] (oR [oM 5 0,oM 6 1,oC2 7 246 5 6,oC 8 .geq 7 0,oM 4 8] .ret)),[(.tmp 4)],2,[]⟩
theorem MJ:QA Tryz.prog 227 zB:=okF Tryz.func227
def WF:qB:=⟨(oR [oQ 4 8 0,oZ 5 false] (oR [oA 6 1 1,oL 7 2,oA 8 8 4,oL 9 3,oC4 10 188 6 7 8 9,oU 11 10,oM 5 11] .ret)),[(.tmp 5)],4,[]⟩
theorem bV:QA Tryz.prog 228 WF:=okF Tryz.func228
def dE:qB:=⟨(oR [oJ 4 0] (oR [oM 7 0,oC1 8 247 7,oM 5 8] (oR [oM 9 1,oC1 10 247 9,oM 6 10] (.seq (oR [oM 11 5] (oD 11 (.seq (oR [oM 12 6] (oD 12 (oR [oJ 4 0] .ret) .skip)) (oR [oJ 4 (-1)] .ret)) .skip)) (.seq (oR [oM 13 6] (oD 13 (oR [oJ 4 1] .ret) .skip)) (.seq (oR [oM 14 0,oM 15 1,oB 16 .lss 14 15] (oD 16 (oR [oJ 4 (-1)] .ret) .skip)) (.seq (oR [oM 17 0,oM 18 1,oB 19 .gtr 17 18] (oD 19 (oR [oJ 4 1] .ret) .skip)) (oR [oJ 4 0] .ret)))))))),[(.tmp 4)],2,[]⟩
theorem RP:QA Tryz.prog 229 dE:=okF Tryz.func229
def AG:qB:=⟨(oR [oS 2 (.mv (.c (.int .u64 0)))] (oR [oM 3 0,oS 4 (.conv (.some .u64) (.t 3)),oS 5 (.bin .shl false (.t 4) (.c (.int .u64 1))),oM 6 0,oS 7 (.bin .shr false (.t 6) (.c (.int .u64 63))),oS 8 (.conv (.some .u64) (.t 7)),oB 9 .xor 5 8,oM 2 9] .ret)),[(.tmp 2)],1,[]⟩
theorem nV:QA Tryz.prog 230 AG:=okF Tryz.func230
def bF:C:=oR [oB 9 .lss 8 7] (.seq (oD 9 .skip (.exit 0)) (.seq (.block 1 (oR [oI 10 1 6 8,oL 11 10,oM 5 11] (oR [oM 12 5,oM 13 3,oB 14 .neq 12 13] (oD 14 (oR [oM 15 5,oM 2 15] .ret) .skip)))) (.reg [oC 16 .add 8 1,oM 8 16])))
def ML:qB:=⟨(oR [oJ 2 0] (oR [oJ 3 0] (.seq (oR [oM 6 0,oH 7 6,oJ 8 0] (.block 0 (.loop bF))) (oR [oM 17 3,oM 2 17] .ret)))),[(.tmp 2)],1,[]⟩
theorem W0:QA Tryz.prog 231 ML:=okF Tryz.func231
def QD:qB:=⟨(oR [oJ 4 0] (oR [oM 7 0,oC1 8 248 7,oM 5 8] (oR [oM 9 1,oC1 10 248 9,oM 6 10] (.seq (oR [oM 11 5] (oD 11 (.seq (oR [oM 12 6] (oD 12 (oR [oJ 4 0] .ret) .skip)) (oR [oJ 4 (-1)] .ret)) .skip)) (.seq (oR [oM 13 6] (oD 13 (oR [oJ 4 1] .ret) .skip)) (.seq (oR [oM 14 0,oM 15 1,oB 16 .lss 14 15] (oD 16 (oR [oJ 4 (-1)] .ret) .skip)) (.seq (oR [oM 17 0,oM 18 1,oB 19 .gtr 17 18] (oD 19 (oR [oJ 4 1] .ret) .skip)) (oR [oJ 4 0] .ret)))))))),[(.tmp 4)],2,[]⟩
theorem EP:QA Tryz.prog 232 QD:=okF Tryz.func232
def TH:qB:=⟨(oR [oQ 2 1 0,oJ 4 0] (.seq (oR [oA 6 1 2,oC1 7 108 6,oM 5 7] (oR [oM 8 5,oC 9 .neq 8 0] (oD 9 (oR [oM 10 5,oM 4 10] .ret) .skip))) (.seq (oR [oM 11 1,oC 12 .lss 11 0,oM 13 12,oMg 14 1 13 false,oFg 15 0 2 13 false,oP 16 15 13 false,oHg 17 16 13 false,oBg 18 .geq 14 17 13 false,oPo 19 13 18] (oD 19 (oR [oJ 4 4] .ret) .skip)) (oR [oJ 4 0] .ret)))),[(.tmp 4)],2,[]⟩
theorem dT:QA Tryz.prog 233 TH:=okF Tryz.func233
def pM:qB:=⟨(oR [oQ 3 1 0,oQ 5 8 2,oZ 6 false] (oR [oA 7 1 3,oM 8 1,oA 9 8 5,oS 10 (.call .any 188 [(.t 7),(.t 8),(.t 9),(.c (.bool false))]),oM 6 10] .ret)),[(.tmp 6)],3,[]⟩
theorem C0:QA Tryz.prog 234 pM:=okF Tryz.func234
def DL:C:=.seq (oR [oM 5 0,oS 6 (.bin .gtr false (.t 5) (.c (.int .u64 0)))] (oD 6 .skip (.exit 0))) (.seq (.block 1 (oR [oM 9 4,oC 10 .sub 9 1,oM 4 10] (.reg [oM 11 4,oM 12 0,oS 13 (.conv (.some .u8) (.t 12)),oS 14 (.aaddr 8 1 (.t 3) (.t 11)),oW 14 13]))) (.reg [oM 7 0,oS 8 (.bin .shr false (.t 7) (.c (.int .u64 8))),oM 0 8]))
def aM:qB:=⟨(oR [oS 2 (.mv (.c (.str (ByteArray.mk #[]))))] (oR [oY 3 zzh] (oR [oJ 4 8] (.seq (.block 0 (.loop DL)) (oR [oM 15 4,oS 16 (.aslc .any 8 1 (.t 3) (.some (.t 15)) .none),oS 17 (.bstr .any (.t 16)),oM 2 17] .ret))))),[(.tmp 2)],1,[]⟩
theorem E1:QA Tryz.prog 235 aM:=okF Tryz.func235
def HC:C:=oR [oB 80 .lss 79 78] (.seq (oD 80 .skip (.exit 4)) (.seq (.block 5 (oR [oI 81 2 77 79,oA 82 2 81,oY 16 zzd,oV 2 16 82] (.reg [oF 83 1 16,oL 84 83,oC2 85 238 14 84]))) (.reg [oC 86 .add 79 1,oM 79 86])))
def BH:C:=oR [oB 60 .lss 59 58] (.seq (oD 60 .skip (.exit 2)) (.seq (.block 3 (oR [oI 61 2 57 59,oA 62 2 61,oY 13 zzd,oV 2 13 62] (.reg [oM 63 9,oF 64 0 13,oLr 65 13 1 64,oF 66 0 13,oLr 67 13 1 66,oF 68 1 13,oLr 69 13 1 68,oS 70 (.call .any 250 [(.t 67),(.c (.bool false)),(.t 69)]),oS 71 (.build zzd [(0,(1,(.t 65))),(1,(1,(.t 70)))]),oS 72 (.bsl zzd 1 [(0,(.t 71))]),oS 73 (.appm .any 289 2 24 (.t 63) (.t 72)),oM 9 73]))) (.reg [oC 74 .add 59 1,oM 59 74])))
def rC:C:=oR [oB 21 .lss 20 19] (.seq (oD 21 .skip (.exit 0)) (.seq (.block 1 (oR [oM 22 20,oI 23 13 18 20,oA 24 13 23,oY 11 zzf,oM 10 22,oV 13 11 24] (oR [oS 25 (.load (.root 11) true 13 (.t 11)),oF 26 6 6,oLr 27 6 1 26,oM 28 10,oI 29 8 27 28,oA 30 8 29,oC2 31 249 25 30,oU 32 31] (oD 32 (.reg [oM 33 9,oF 34 0 11,oLr 35 11 1 34,oF 36 0 11,oLr 37 11 1 36,oF 38 3 11,oLr 39 11 1 38,oM 40 0,oF 41 2 11,oLr 42 11 1 41,oF 43 6 6,oLr 44 6 1 43,oM 45 10,oI 46 8 44 45,oA 47 8 46,oM 48 3,oC 49 .add 48 1,oS 50 (.callr (.root 0) 218 [(.t 40),(.t 42),(.t 47),(.t 49)]),oS 51 (.call .any 250 [(.t 37),(.t 39),(.t 50)]),oS 52 (.build zzd [(0,(1,(.t 35))),(1,(1,(.t 51)))]),oS 53 (.bsl zzd 1 [(0,(.t 52))]),oS 54 (.appm .any 289 2 24 (.t 33) (.t 53)),oM 9 54]) .skip)))) (.reg [oC 55 .add 20 1,oM 20 55])))
def UE:qB:=⟨(oR [oQ 5 10 1,oQ 6 8 2,oS 8 (.mv (.c (.str (ByteArray.mk #[]))))] (oR [oS 9 (.mv (.c (.sl true [])))] (.seq (oR [oF 17 6 5,oL 18 17,oH 19 18,oJ 20 0] (.block 0 (.loop rC))) (.seq (oR [oF 56 7 6,oL 57 56,oH 58 57,oJ 59 0] (.block 2 (.loop BH))) (oR [oM 75 9,oS 76 (.callh 88 (.c (.fn 251 [])) [(.t 75),(.c (.fn 252 []))])] (oR [oS 14 (.mkb 275 5)] (.seq (oR [oM 77 9,oH 78 77,oJ 79 0] (.block 4 (.loop HC))) (oR [oC1 87 240 14,oM 8 87] .ret)))))))),[(.tmp 8)],4,[3000000,28,109,147,101,1000000 + 251]⟩
theorem gO:QA Tryz.prog 236 UE:=okF Tryz.func236
def aF:qB:=⟨(oR [oQ 5 10 1,oQ 6 8 2,oS 8 (.mv (.c (.str (ByteArray.mk #[]))))] (oR [oF 12 4 6,oL 13 12,oS 14 (.conv (.some .u64) (.t 13)),oC1 15 244 14,oM 9 15] (oR [oA 17 10 5,oF 18 4 6,oL 19 18,oC2 20 99 17 19,oM 16 20,oX 21 16 0,oX 22 16 1,oM 10 21,oM 11 22] (.seq (oR [oM 23 11,oU 24 23] (oD 24 (oR [oM 25 9,oF 26 7 6,oL 27 26,oS 28 (.iaddr 2 (.t 27) (.c (.int .i64 0))),oF 29 1 28,oL 30 29,oB 31 .add 25 30,oM 8 31] .ret) .skip)) (oR [oM 32 9,oM 33 0,oF 34 6 5,oLr 35 5 1 34,oM 36 10,oI 37 13 35 36,oF 38 2 37,oL 39 38,oF 40 6 6,oLr 41 6 1 40,oS 42 (.iaddr 8 (.t 41) (.c (.int .i64 0))),oA 43 8 42,oM 44 3,oC 45 .add 44 1,oS 46 (.callr (.root 0) 218 [(.t 33),(.t 39),(.t 43),(.t 45)]),oB 47 .add 32 46,oM 8 47] .ret))))),[(.tmp 8)],4,[3000000,93]⟩
theorem ZO:QA Tryz.prog 237 aF:=okF Tryz.func237
def EJ:qB:=⟨(oR [oS 2 (.mv (.c (.str (ByteArray.mk #[]))))] (oR [oM 3 0,oS 4 (.len true (.t 3)),oS 5 (.conv (.some .u64) (.t 4)),oC1 6 244 5,oM 7 0,oB 8 .add 6 7,oM 2 8] .ret)),[(.tmp 2)],1,[]⟩
theorem cW:QA Tryz.prog 239 EJ:=okF Tryz.func239
noncomputable def gI:qB:=cF [] Tryz.f241
theorem dN:QA Tryz.prog 241 gI:=okF Tryz.func241
noncomputable def KJ:qB:=cF [] Tryz.f242
theorem hO:QA Tryz.prog 242 KJ:=okF Tryz.func242
noncomputable def KP:qB:=cF [] Tryz.f243
theorem zW:QA Tryz.prog 243 KP:=okF Tryz.func243
def FL:C:=.seq (oR [oM 5 0,oS 6 (.bin .geq false (.t 5) (.c (.int .u64 128)))] (oD 6 .skip (.exit 0))) (.seq (.block 1 (oR [oM 9 4,oM 10 0,oS 11 (.conv (.some .u8) (.t 10)),oS 12 (.bin .or false (.t 11) (.c (.int .u8 128))),oS 13 (.aaddr 10 1 (.t 3) (.t 9)),oW 13 12] (.reg [oM 14 4,oC 15 .add 14 1,oM 4 15]))) (.reg [oM 7 0,oS 8 (.bin .shr false (.t 7) (.c (.int .u64 7))),oM 0 8]))
def sM:qB:=⟨(oR [oS 2 (.mv (.c (.str (ByteArray.mk #[]))))] (oR [oY 3 zzi] (oR [oJ 4 0] (.seq (.block 0 (.loop FL)) (oR [oM 16 4,oM 17 0,oS 18 (.conv (.some .u8) (.t 17)),oS 19 (.aaddr 10 1 (.t 3) (.t 16)),oW 19 18] (oR [oM 20 4,oC 21 .add 20 1,oS 22 (.aslc .any 10 1 (.t 3) .none (.some (.t 21))),oS 23 (.bstr .any (.t 22)),oM 2 23] .ret)))))),[(.tmp 2)],1,[]⟩
theorem T1:QA Tryz.prog 244 sM:=okF Tryz.func244
noncomputable def fP:qB:=cF [] Tryz.f245
theorem eV:QA Tryz.prog 245 fP:=okF Tryz.func245
def mC:C:=oR [oB 9 .lss 8 7] (.seq (oD 9 .skip (.exit 0)) (.seq (.block 1 (oR [oM 10 8,oM 5 10] (oR [oM 11 1,oM 12 0,oM 13 5,oI 14 8 12 13,oA 15 8 14,oS 16 (.callv .any (.t 11) [(.t 15)])] (oD 16 (oR [oM 17 5,oM 4 17] .ret) .skip)))) (.reg [oC 18 .add 8 1,oM 8 18])))
def kD:qB:=⟨(oR [oJ 4 0] (.seq (oR [oM 6 0,oH 7 6,oJ 8 0] (.block 0 (.loop mC))) (oR [oJ 4 (-1)] .ret))),[(.tmp 4)],2,[]⟩
theorem RL:QA Tryz.prog 246 kD:=okF Tryz.func246
def zG:qB:=⟨(oR [oZ 2 false] (oR [oM 3 0,oM 4 0,oB 5 .neq 3 4,oM 2 5] .ret)),[(.tmp 2)],1,[]⟩
theorem CQ:QA Tryz.prog 247 zG:=okF Tryz.func247
def lG:qB:=⟨(oR [oZ 2 false] (oR [oM 3 0,oM 4 0,oB 5 .neq 3 4,oM 2 5] .ret)),[(.tmp 2)],1,[]⟩
theorem XQ:QA Tryz.prog 248 lG:=okF Tryz.func248
def qG:qB:=⟨(oR [oQ 2 13 0,oQ 3 8 1,oZ 4 false] (oR [oF 5 4 2,oL 6 5,oM 7 6,oFg 8 5 2 7 true,oLg 9 8 8 7 true,oLg 10 8 3 7 true,oCg 11 127 9 10 7 true,oPa 12 7 11,oM 4 12] .ret)),[(.tmp 4)],2,[]⟩
theorem fT:QA Tryz.prog 249 qG:=okF Tryz.func249
def aH:qB:=⟨(oR [oS 6 (.mv (.c (.str (ByteArray.mk #[]))))] (oR [oM 8 0,oS 9 (.conv (.some .u64) (.t 8)),oS 10 (.bin .mul false (.c (.int .u64 2)) (.t 9)),oM 7 10] (.seq (oR [oM 11 1] (oD 11 (.reg [oM 12 7,oS 13 (.bin .add false (.t 12) (.c (.int .u64 1))),oM 7 13]) .skip)) (oR [oM 14 7,oC1 15 244 14,oM 16 2,oC1 17 239 16,oB 18 .add 15 17,oM 6 18] .ret)))),[(.tmp 6)],3,[]⟩
theorem xW:QA Tryz.prog 250 aH:=okF Tryz.func250
def XB:qB:=⟨(oR [oM 5 0,oH 6 5,oM 4 6] (.reg [oM 7 0,oM 8 4,oM 9 4,oS 10 (.conv (.some .u64) (.t 9)),oC1 11 101 10,oM 12 1,oS 13 (.callh 14 (.c (.fn 254 [])) [(.t 7),(.c (.int .i64 0)),(.t 8),(.t 11),(.t 12)])])),[],2,[1000000 + 254]⟩
theorem aK:QA Tryz.prog 251 XB:=okF Tryz.func251
def KD:qB:=⟨(oR [oQ 2 2 0,oQ 3 2 1,oJ 4 0] (oR [oF 5 0 2,oL 6 5,oF 7 0 3,oL 8 7,oC2 9 102 6 8,oM 4 9] .ret)),[(.tmp 4)],2,[]⟩
theorem qN:QA Tryz.prog 252 KD:=okF Tryz.func252
def sE:C:=.block 1 (oR [oM 21 2,oM 22 1,oB 23 .sub 21 22,oM 12 23] (.seq (oR [oM 24 12,oC 25 .leq 24 12] (oD 25 (oR [oM 26 0,oM 27 1,oM 28 2,oM 29 4,oS 30 (.callh 148 (.c (.fn 256 [])) [(.t 26),(.t 27),(.t 28),(.t 29)])] .ret) .skip)) (.seq (oR [oM 31 3,oC 32 .eql 31 0] (oD 32 (oR [oM 33 0,oM 34 1,oM 35 2,oM 36 4,oC4 37 257 33 34 35 36] .ret) .skip)) (.seq (oR [oM 38 10,oU 39 38] (oD 39 (oR [oM 40 0,oM 41 1,oM 42 2,oM 43 4,oC4 44 258 40 41 42 43] (.reg [oM 45 3,oC 46 .sub 45 1,oM 3 46])) .skip)) (oR [oM 48 0,oM 49 1,oM 50 2,oM 51 4,oC4 52 259 48 49 50 51,oM 47 52,oX 53 47 0,oX 54 47 1,oM 13 53,oM 14 54] (.seq (oR [oM 55 14,oC 56 .eql 55 2] (oD 56 (oR [oM 57 0,oM 58 1,oM 59 2,oM 60 4,oC4 61 260 57 58 59 60] (oR [oM 62 2,oC 63 .sub 62 1,oM 64 13,oM 65 1,oB 66 .sub 64 65,oB 67 .sub 63 66,oM 13 67] (.reg [oJ 14 1]))) .skip)) (.seq (oR [oM 68 10,oM 69 68,oMg 70 11 69 true,oPa 71 69 70,oM 72 71,oMg 73 14 72 true,oCi 74 .eql 73 1 72 true,oPa 75 72 74] (oD 75 (oR [oM 76 0,oM 77 1,oM 78 2,oM 79 4,oC4 80 261 76 77 78 79] (oD 80 .ret .skip)) .skip)) (.seq (oR [oM 81 1,oC 82 .gtr 81 0,oM 83 82,oMg 84 4 83 true,oMg 85 0 83 true,oMg 86 1 83 true,oCi 87 .sub 86 1 83 true,oIg 88 2 85 87 83 true,oLg 89 2 88 83 true,oMg 90 0 83 true,oMg 91 13 83 true,oIg 92 2 90 91 83 true,oLg 93 2 92 83 true,oG 94 (.callv .any (.t 84) [(.t 89),(.t 93)]) 83 true,oCi 95 .lss 94 0 83 true,oUg 96 95 83 true,oPa 97 83 96] (oD 97 (oR [oM 98 0,oM 99 1,oM 100 2,oM 101 13,oM 102 4,oS 103 (.call .any 262 [(.t 98),(.t 99),(.t 100),(.t 101),(.t 102)]),oM 15 103] (oR [oM 104 15,oM 1 104] (.exit 1))) .skip)) (oR [oM 106 0,oM 107 1,oM 108 2,oM 109 13,oM 110 4,oS 111 (.call .any 263 [(.t 106),(.t 107),(.t 108),(.t 109),(.t 110)]),oM 105 111,oX 112 105 0,oX 113 105 1,oM 16 112,oM 17 113] (oR [oM 114 17,oM 11 114] (oR [oM 115 16,oM 116 1,oB 117 .sub 115 116,oM 118 2,oM 119 16,oB 120 .sub 118 119,oM 18 117,oM 19 120] (oR [oM 121 12,oC 122 .quo 121 8,oM 20 122] (oR [oM 123 18,oM 124 19,oB 125 .lss 123 124] (oD 125 (oR [oM 126 18,oM 127 20,oB 128 .geq 126 127,oM 10 128] (oR [oM 129 0,oM 130 1,oM 131 16,oM 132 3,oM 133 4,oS 134 (.call .any 254 [(.t 129),(.t 130),(.t 131),(.t 132),(.t 133)])] (.reg [oM 135 16,oC 136 .add 135 1,oM 1 136]))) (oR [oM 137 19,oM 138 20,oB 139 .geq 137 138,oM 10 139] (oR [oM 140 0,oM 141 16,oC 142 .add 141 1,oM 143 2,oM 144 3,oM 145 4,oS 146 (.call .any 254 [(.t 140),(.t 142),(.t 143),(.t 144),(.t 145)])] (.reg [oM 147 16,oM 2 147])))))))))))))))))
def KB:qB:=⟨(oR [oZ 10 true] (oR [oZ 11 true] (.block 0 (.loop sE)))),[],5,[1000000 + 256]⟩
theorem JH:QA Tryz.prog 254 KB:=okF Tryz.func254
def lD:C:=.seq (oR [oM 18 9,oM 19 1,oB 20 .gtr 18 19,oM 21 20,oMg 22 3 21 true,oMg 23 0 21 true,oMg 24 9 21 true,oIg 25 2 23 24 21 true,oLg 26 2 25 21 true,oMg 27 0 21 true,oMg 28 9 21 true,oCi 29 .sub 28 1 21 true,oIg 30 2 27 29 21 true,oLg 31 2 30 21 true,oG 32 (.callv .any (.t 22) [(.t 26),(.t 31)]) 21 true,oCi 33 .lss 32 0 21 true,oPa 34 21 33] (oD 34 .skip (.exit 2))) (.seq (.block 3 (.reg [oM 37 0,oM 38 9,oM 39 0,oM 40 9,oC 41 .sub 40 1,oM 42 0,oM 43 9,oC 44 .sub 43 1,oI 45 2 42 44,oS 46 (.load .imm true 2 (.t 45)),oM 47 0,oM 48 9,oI 49 2 47 48,oS 50 (.load .imm true 2 (.t 49)),oI 51 2 37 38,oV 2 51 46,oI 52 2 39 41,oV 2 52 50])) (.reg [oM 35 9,oC 36 .sub 35 1,oM 9 36]))
def HB:C:=.seq (oR [oM 12 8,oM 13 2,oB 14 .lss 12 13] (oD 14 .skip (.exit 0))) (.seq (.block 1 (oR [oM 17 8,oM 9 17] (.block 2 (.loop lD)))) (.reg [oM 15 8,oC 16 .add 15 1,oM 8 16]))
def xB:qB:=⟨(oR [oM 10 1,oC 11 .add 10 1,oM 8 11] (.block 0 (.loop HB))),[],4,[]⟩
theorem sG:QA Tryz.prog 256 xB:=okF Tryz.func256
section
def iR {α:Type} (f:(α->aA->Option RV)->Option RV):Prop:=(∀ k,f k=none)\/∃ e s',∀ k,f k=k e s'
def Det1 (f:(aA->Option RV)->Option RV):Prop:=(∀ k,f k=none)\/∃ s',∀ k,f k=k s'
theorem iR.bind {α β:Type} {f:(α->aA->Option RV)->Option RV} (h:iR f) {g:(β->aA->Option RV)->α->aA->Option RV} (hg:∀ e s,iR fun k=>g k e s):iR fun k=>f (g k):=by
 rcases h with h | ⟨e,s,h⟩
 ·exact .inl fun k=>h _
 ·rcases hg e s with h2 | ⟨e',s',h2⟩
  ·exact .inl fun k=>(h _).trans (h2 k)
  ·exact .inr ⟨e',s',fun k=>(h _).trans (h2 k)⟩
theorem iR.here {α:Type} (e:α) (s:aA):iR fun (k:α->aA->Option RV)=>k e s:=.inr ⟨e,s,fun _=>rfl⟩
theorem iR.no {α:Type}:iR fun (_:α->aA->Option RV)=>none:=.inl fun _=>rfl
def C.det:C->Bool
 | .seq a b=>a.det&&b.det
 | .reg ops=>ops.all fun o=>match o.op with | .nxt _=>false | _=>true
 | .cond _ a b=>a.det&&b.det
 | .block _ b=>b.det
 | .loop b=>b.det
 | _=>true
section
variable {call:DB} {lh:LH}
theorem det_hguard (s:aA) (d:Option Nat) (g:Option (Nat × Bool)) {a:(aA->Option RV)->Option RV} (ha:Det1 a):Det1 fun k=>RK s d g (a k) k:=by
 unfold RK;cases g with
 | none=>exact ha
 | some p =>
  obtain ⟨t,want⟩:=p;simp only;split
  ·split
   ·exact ha
   ·exact .inr ⟨_,fun _=>rfl⟩
  ·exact .inr ⟨_,fun _=>rfl⟩
  ·exact .inl fun _=>rfl
theorem det_hstep (hh:∀ f xs s,iR (lh.h f xs s)) (d:Option Nat) (nt:Nat) (x:CB) (xs:List CB) (s:aA):Det1 (xP lh d nt x xs s):=by
 unfold xP;split
 ·rcases hh _ (JP s xs++_) (s.enter nt) with h | ⟨y,s',h⟩
  ·exact .inl fun k=>h _
  ·exact .inr ⟨_,fun k=>h _⟩
 ·exact .inl fun _=>rfl
theorem det_stepK (hh:∀ f xs s,iR (lh.h f xs s)) (o:PA) (ho:(match o.op with | .nxt _=>false | _=>true)=true) (s:aA):Det1 (o.stepK call lh s):=by
 have hp:∀ (a:Option aA),Det1 fun k=>a.bind k:=fun a=>by
  cases a with
  | none=>exact .inl fun _=>rfl
  | some s'=>exact .inr ⟨s',fun _=>rfl⟩
 unfold PA.stepK;split
 ·exact det_hguard s _ _ (det_hstep hh _ _ _ _ s)
 ·rename_i h;rw [h] at ho;cases ho
 ·exact hp _
theorem det_ops (hh:∀ f xs s,iR (lh.h f xs s)):∀ (l:List PA) (hl:(l.all fun o=>match o.op with | .nxt _=>false | _=>true)=true) (s:aA),Det1 (XG call lh l s)
 | [],_,s=>.inr ⟨s,fun _=>rfl⟩
 | o :: r,hl,s=>by
  rw [List.all_cons,y7] at hl;rcases det_stepK (call:=call) hh o hl.1 s with h | ⟨s',h⟩
  ·exact .inl fun k=>h _
  ·rcases det_ops hh r hl.2 s' with h2 | ⟨s2,h2⟩
   ·exact .inl fun k=>(h _).trans (h2 k)
   ·exact .inr ⟨s2,fun k=>(h _).trans (h2 k)⟩
theorem UO (hl:∀ b,b.det=true->∀ s,iR (lh b s)) (hh:∀ f xs s,iR (lh.h f xs s)):∀ (c:C) (hc:c.det=true) (s:aA),iR (c.run call lh s)
 | .skip,_,s=>.inr ⟨.nrm,s,fun _=>rfl⟩
 | .exit id,_,s=>.inr ⟨.exit id,s,fun _=>rfl⟩
 | .ret,_,s=>.inr ⟨.ret,s,fun _=>rfl⟩
 | .seq a b,hc,s=>by
  simp only [C.det,y7] at hc;refine (UO hl hh a hc.1 s).bind (g:=fun k e s=>match e with | .nrm=>b.run call lh s k | e=>k e s) fun e s=>?_
  cases e with
  | nrm=>exact UO hl hh b hc.2 s
  | exit id=>exact iR.here _ _
  | ret=>exact iR.here _ _
 | .reg ops,hc,s=>by
  rcases det_ops (call:=call) hh ops hc s with h | ⟨s',h⟩
  ·exact .inl fun k=>h _
  ·exact .inr ⟨_,_,fun k=>h _⟩
 | .cond c t e,hc,s=>by
  simp only [C.det,y7] at hc;simp only [C.run];split
  ·split
   ·exact UO hl hh t hc.1 s
   ·exact UO hl hh e hc.2 s
  ·exact iR.no
 | .block id b,hc,s=>(UO hl hh b hc s).bind (g:=fun k e s=>match e with | .exit j=>if j=id then k .nrm s else k (.exit j) s | e=>k e s) fun e s=>by
  cases e with
  | nrm=>exact iR.here _ _
  | ret=>exact iR.here _ _
  | exit j =>
   simp only;split
   ·exact iR.here _ _
   ·exact iR.here _ _
 | .loop b,hc,s=>hl b hc s
end
section
variable {T:Nat->Option qB} {ext:DB}
theorem det_N (hD:∀ f c,T f=some c->c.code.det=true):∀ n,(∀ b,b.det=true->∀ s,iR (OL T ext n b s))/\∀ f xs s,iR (pN T ext n f xs s)
 | 0=>⟨fun _ _ _=>.inl fun _=>rfl,fun _ _ _=>.inl fun _=>rfl⟩
 | n + 1=>by
  obtain ⟨h1,h2⟩:=det_N hD n;have hr:=UO (call:=gE T ext n) (lh:=⟨OL T ext n,pN T ext n⟩) h1 h2;refine ⟨fun b hb s=>?_,fun f xs s=>?_⟩
  ·have:OL T ext (n + 1) b s=fun k=>b.run (gE T ext n) ⟨OL T ext n,pN T ext n⟩ s (AM (OL T ext n) b k):=by funext k; rw [OL]
   rw [this];refine (hr b hb s).bind (g:=fun k=>AM (OL T ext n) b k) fun e s=>?_
   cases e with
   | nrm=>exact h1 b hb s
   | exit id=>exact iR.here _ _
   | ret=>exact iR.here _ _
  ·have:pN T ext (n + 1) f xs s=fun k=>match T f with | none=>none | some c=>if xs.length=c.np then c.code.run (gE T ext n) ⟨OL T ext n,pN T ext n⟩ (s.initH xs) (sN c k) else none:=by funext k; rw [pN]; rfl
   rw [this];cases hT:T f with
   | none=>exact iR.no
   | some c =>
    simp only;split
    ·refine (hr c.code (hD f c hT) _).bind (g:=fun k=>sN c k) fun e s=>?_
     cases e with
     | exit id=>exact iR.no
     | nrm =>
      simp only [sN];cases (tR s c.res).bind kO with
      | none=>exact iR.no
      | some x=>exact iR.here _ _
     | ret =>
      simp only [sN];cases (tR s c.res).bind kO with
      | none=>exact iR.no
      | some x=>exact iR.here _ _
    ·exact iR.no
theorem run_reach (hD:∀ f c,T f=some c->c.code.det=true) {c:C} (hc:c.det=true) {s:aA} {F:Ex->aA->Prop} (h:∀ (k:Ex->aA->Option RV) (r:RV),(∀ e s',F e s'->k e s'=some r)->c.run (BI T ext) (aN T ext) s k=some r):∃ e s',F e s'/\∀ (k:Ex->aA->Option RV) (r:RV),k e s'=some r->c.run (BI T ext) (aN T ext) s k=some r:=by
 classical
 obtain ⟨m,hm⟩:=(FS c s (fun e s'=>if F e s' then some (default:RV) else none) default (fun _ e s'=>if F e s' then some (default:RV) else none) (fun e s' r' h'=>JB.now h') (h _ _ fun e s' hF=>if_pos hF)).some;obtain ⟨d1,d2⟩:=det_N (T:=T) (ext:=ext) hD m;rcases UO (call:=gE T ext m) (lh:=⟨OL T ext m,pN T ext m⟩) d1 d2 c hc s with hd | ⟨e,s',hd⟩
 ·rw [hd] at hm;cases hm
 ·rw [hd] at hm;have hF:F e s':=by
   by_cases hF:F e s'
   ·exact hF
   ·rw [if_neg hF] at hm;cases hm
  refine ⟨e,s',hF,fun k r hk=>?_⟩;have hN:c.run (gE T ext m) ⟨OL T ext m,pN T ext m⟩ s k=some r:=(hd k).trans hk;exact Exists.elim (oE (lpA:=⟨OL T ext m,pN T ext m⟩) (callB:=fun _=>BI T ext) (lpB:=fun _=>aN T ext) (fun f args S r' h'=>JB.now (XM.2 ⟨m,h'⟩)) (fun f xs s1 k1 r1 km wc h1=>((UM m).2.2 f xs s1 k1 r1 km wc h1).imp fun m' tb=>KX.2 ⟨m',tb⟩) (fun b s1 k1 r1 km wc h1=>((UM m).2.1 b s1 k1 r1 km wc h1).imp fun m' tb=>LX.2 ⟨m',tb⟩) c s k r (fun _=>k) (fun e s' r' h'=>JB.now h') hN).some fun _ h'=>h'
theorem K2 {f:Nat} {args:List AV} {S0:Option AV} (hD:∀ f c,T f=some c->c.code.det=true) (c:qB) (hT:T f=some c) (hl:args.length=c.np) {F:Ex->aA->Prop} {P:RV->Prop} (h:∀ (k:Ex->aA->Option RV) (r:RV),(∀ e s',F e s'->k e s'=some r)->c.code.run (BI T ext) (aN T ext) (aA.init args S0) k=some r) (hF:∀ e s',F e s'->∃ r,fin c S0 e s'=some r/\P r) (hm:IK args=false:=by rfl) (hS:noItO S0=true:=by rfl):∃ r,P r/\BI T ext f args S0=some r:=by
 obtain ⟨e,s',h1,h2⟩:=run_reach hD (hD f c hT) h;obtain ⟨r,h3,h4⟩:=hF e s' h1;exact ⟨r,h4,J2 c hT hl (h2 _ _ h3) hm hS⟩
end
end
noncomputable def allL:List (Nat × qB):=[(5,kC),(6,MB),(12,jP),(13,cL),(21,dR),(22,CK),(23,wG),(24,gH),(25,fE),(26,IF),(27,FE),(28,rG),(29,WD),(30,HD),(31,DE),(32,rL),(33,IG),(34,fI),(35,bK),(36,qL),(37,bG),(44,jR),(45,nS),(46,eM),(59,aP),(60,bS),(61,sI),(62,OG),(63,UH),(64,FJ),(65,nF),(66,nI),(67,QG),(68,nK),(69,mF),(70,jD),(71,BB),(72,wM),(73,NK),(74,RN),(75,qM),(76,WN),(77,MK),(78,EN),(85,gR),(86,wL),(87,kP),(88,IJ),(89,lR),(90,LP),(91,mX),(92,mS),(94,lP),(95,HM),(96,JM),(99,PI),(101,sP),(102,TF),(106,iI),(107,eG),(108,jH),(109,uG),(110,EA),(111,GA),(112,NC),(113,jC),(114,II),(115,NE),(116,eF),(117,LB),(118,QI),(120,ZA),(121,WA),(122,UJ),(123,FA),(124,UN),(125,AI),(126,cN),(127,iD),(129,MC),(130,WG),(139,zN),(140,xN),(141,cI),(144,QS),(145,CV),(146,ZP),(147,IA),(148,rM),(149,mA),(150,tL),(151,uL),(152,UF),(153,GE),(154,EC),(155,QF),(156,OJ),(157,eL),(158,sH),(159,iA),(160,nX),(161,tM),(162,TN),(163,nN),(164,QN),(165,uM),(166,aI),(167,qD),(168,EG),(169,dP),(170,XL),(171,DD),(172,fC),(178,kR),(179,dB),(180,pI),(181,BE),(182,UI),(183,WI),(184,CE),(185,SH),(186,AH),(187,ZB),(188,dA),(189,XK),(190,BG),(191,JG),(192,OI),(193,KG),(194,nE),(195,eO),(196,LL),(197,fK),(198,xL),(199,zL),(201,iC),(202,TJ),(203,BK),(204,WO),(205,IH),(206,mI),(207,iM),(208,JJ),(209,JC),(210,qC),(211,zC),(212,uD),(213,RC),(214,RS),(215,DH),(216,PC),(217,RH),(218,cA),(219,bI),(220,KM),(221,dK),(222,wO),(223,ZL),(224,JL),(225,bN),(226,gB),(227,zB),(228,WF),(229,dE),(230,AG),(231,ML),(232,QD),(233,TH),(234,pM),(235,aM),(236,UE),(237,aF),(239,EJ),(241,gI),(242,KJ),(243,KP),(244,sM),(245,fP),(246,kD),(247,zG),(248,lG),(249,qG),(250,aH),(251,XB),(252,KD),(254,KB),(256,xB)]
noncomputable def kA (f:Nat):Option qB:=allL.lookup f
def okL:List (Nat × qB)->Prop
 | []=>True
 | x::r=>QA Tryz.prog x.1 x.2/\okL r
theorem okL_of:∀ {l:List (Nat × qB)},okL l->∀ {f:Nat} {c:qB},l.lookup f=some c->QA Tryz.prog f c
 | [],_,_,_,h=>by cases h
 | (g,d)::r,hl,f,c,h=>by
  rw [List.lookup_cons] at h;cases e:f==g with
  | true=>rw [e] at h;cases h;cases of_decide_eq_true e;exact hl.1
  | false=>rw [e] at h;exact okL_of hl.2 h
theorem allT_ok (f:Nat) (c:qB) (h:kA f=some c):QA Tryz.prog f c:=okL_of (l:=allL) ⟨XO,TP,jV,R5,WY,EY,gT,OW,bW,G0,lT,PW,jT,HU,KY,HY,JU,LY,P8,PY,U8,CY,J0,U0,NU,E0,JY,CU,xT,IW,ZU,XU,H0,A8,BU,KU,wS,T0,TY,I5,R0,T5,IY,U5,GY,AY,kV,RW,NY,SW,S8,K0,xV,wR,eR,lV,qV,LR,UY,ET,FW,UT,LU,ZY,ZR,zT,sV,BQ,UW,tV,rV,pV,A5,EW,aV,eS,zV,MR,eZ,AK,MQ,BR,NR,FU,Z0,S5,DW,O5,I0,MY,wZ,rZ,XR,cT,AW,fV,TW,SY,mW,P0,O8,O0,P5,W5,E5,D0,FY,SK,qR,wV,sQ,jO,EL,BY,WT,OY,QW,iV,uV,nW,TT,RT,HW,Q1,QY,CR,DY,dV,XY,gV,mT,pQ,BO,IP,UP,NQ,WW,RY,I8,bT,MU,X0,GW,wN,PK,rS,qZ,JW,W1,N0,cV,sT,HN,GU,rR,CO,nT,aQ,iQ,qS,B0,MJ,bV,RP,nV,W0,EP,dT,C0,E1,gO,ZO,cW,dN,hO,zW,T1,eV,RL,CQ,XQ,fT,xW,aK,qN,JH,sG,trivial⟩ h
theorem detL:∀ {l:List (Nat × qB)},(l.all fun p=>p.2.code.det)=true->∀ {f:Nat} {c:qB},l.lookup f=some c->c.code.det=true
 | [],_,_,_,h=>by cases h
 | (g,d)::r,hl,f,c,h=>by
  rw [List.all_cons,y7] at hl;rw [List.lookup_cons] at h;cases e:f==g with
  | true=>rw [e] at h;cases h;exact hl.1
  | false=>rw [e] at h;exact detL hl.2 h
theorem K6 (f:Nat) (c:qB) (h:kA f=some c):c.code.det=true:=detL (l:=allL) (by kernel_rfl) h
section
mutual
def AV.beq:AV->AV->Bool
 | .int k n,.int k' n'=>decide (k=k')&&decide (n=n')
 | .bool a,.bool b=>a == b
 | .str a,.str b=>decide (a=b)
 | .nilP,.nilP=>true
 | .ptr t n o,.ptr t' n' o'=>Nat.beq t t'&&Nat.beq n n'&&Nat.beq o o'
 | .ip l,.ip m=>AV.beqL l m
 | .bp l,.bp m=>AV.beqL l m
 | .sl b l,.sl b' m=>(b == b')&&AV.beqLL l m
 | .bl l,.bl m=>AV.beqLL l m
 | .fn f l,.fn g m=>Nat.beq f g&&AV.beqL l m
 | .agg l,.agg m=>AV.beqL l m
 | .tup l,.tup m=>AV.beqL l m
 | .undef,.undef=>true
 | _,_=>false
def AV.beqL:List AV->List AV->Bool
 | [],[]=>true
 | x :: l,y :: m=>AV.beq x y&&AV.beqL l m
 | _,_=>false
def AV.beqLL:List (List AV)->List (List AV)->Bool
 | [],[]=>true
 | x :: l,y :: m=>AV.beqL x y&&AV.beqLL l m
 | _,_=>false
end
mutual
theorem AV.beq_eq:∀ (x y:AV),AV.beq x y=true->x=y
 | .int k n,y,h=>by cases y <;> simp [AV.beq] at h <;> simp [h]
 | .bool a,y,h=>by cases y <;> simp [AV.beq] at h <;> simp [h]
 | .str a,y,h=>by cases y <;> simp [AV.beq] at h <;> simp [h]
 | .nilP,y,h=>by cases y <;> simp [AV.beq] at h <;> rfl
 | .ptr t n o,y,h=>by cases y <;> simp [AV.beq] at h <;> simp [h]
 | .ip l,y,h=>by cases y <;> simp only [AV.beq] at h <;> first | cases h | rw [AV.beqL_eq l _ h]
 | .bp l,y,h=>by cases y <;> simp only [AV.beq] at h <;> first | cases h | rw [AV.beqL_eq l _ h]
 | .sl b l,y,h=>by
  cases y <;> simp only [AV.beq] at h <;> first | cases h | skip
  rw [y7] at h
  rw [AV.beqLL_eq l _ h.2,show b=_ from by simpa using h.1]
 | .bl l,y,h=>by cases y <;> simp only [AV.beq] at h <;> first | cases h | rw [AV.beqLL_eq l _ h]
 | .ref ..,y,h=>by cases y <;> simp [AV.beq] at h
 | .mp ..,y,h=>by cases y <;> simp [AV.beq] at h
 | .fn f l,y,h=>by
  cases y <;> simp only [AV.beq] at h <;> first | cases h | skip
  rw [y7] at h
  rw [AV.beqL_eq l _ h.2,show f=_ from by simpa using h.1]
 | .agg l,y,h=>by cases y <;> simp only [AV.beq] at h <;> first | cases h | rw [AV.beqL_eq l _ h]
 | .tup l,y,h=>by cases y <;> simp only [AV.beq] at h <;> first | cases h | rw [AV.beqL_eq l _ h]
 | .undef,y,h=>by cases y <;> simp [AV.beq] at h <;> rfl
theorem AV.beqL_eq:∀ (x y:List AV),AV.beqL x y=true->x=y
 | [],[],_=>rfl
 | [],_ :: _,h=>by simp [AV.beqL] at h
 | _ :: _,[],h=>by simp [AV.beqL] at h
 | x :: l,y :: m,h=>by
  simp only [AV.beqL,y7] at h
  rw [AV.beq_eq x y h.1,AV.beqL_eq l m h.2]
theorem AV.beqLL_eq:∀ (x y:List (List AV)),AV.beqLL x y=true->x=y
 | [],[],_=>rfl
 | [],_ :: _,h=>by simp [AV.beqLL] at h
 | _ :: _,[],h=>by simp [AV.beqLL] at h
 | x :: l,y :: m,h=>by
  simp only [AV.beqLL,y7] at h
  rw [AV.beqL_eq x y h.1,AV.beqLL_eq l m h.2]
end
def AV.beqO:Option AV->Option AV->Bool
 | none,none=>true
 | some x,some y=>AV.beq x y
 | _,_=>false
theorem AV.beqO_eq:∀ (x y:Option AV),AV.beqO x y=true->x=y
 | none,none,_=>rfl
 | none,some _,h=>by cases h
 | some _,none,h=>by cases h
 | some x,some y,h=>by rw [AV.beq_eq x y h]
structure ME where
 f:Nat
 args:List AV
 S:Option AV
 r:RV
def look:List ME->DB
 | [],_,_,_=>none
 | e :: l,f,args,S=>if Nat.beq e.f f&&(AV.beqL e.args args&&AV.beqO e.S S) then some e.r else look l f args S
mutual
noncomputable def TS (M:List ME) (T:Nat->Option qB) (ext:DB):Nat->DB
 | 0,f,args,S0=>match T f with
  | none=>ext f args S0
  | some _=>none
 | n + 1,f,args,S0=>match look M f args S0 with
  | some r=>some r
  | none=>match T f with
   | none=>ext f args S0
   | some c=>match cR args,S0 with
    | some rest,some (.agg cs)=>if rest.length=c.np/\IK rest=false then c.code.run (TS M T ext n) ⟨lpM M T ext n,hpM M T ext n⟩ (aA.initR rest cs) (gM c cs.length) else none
    | some _,_=>none
    | none,_=>if args.length=c.np/\IK args=false/\noItO S0=true then c.code.run (TS M T ext n) ⟨lpM M T ext n,hpM M T ext n⟩ (aA.init args S0) (fin c S0) else none
noncomputable def lpM (M:List ME) (T:Nat->Option qB) (ext:DB):Nat->LpT
 | 0,_,_,_=>none
 | n + 1,b,s,k=>b.run (TS M T ext n) ⟨lpM M T ext n,hpM M T ext n⟩ s (AM (lpM M T ext n) b k)
noncomputable def hpM (M:List ME) (T:Nat->Option qB) (ext:DB):Nat->HpT
 | 0,_,_,_,_=>none
 | n + 1,f,args,s,k=>match T f with
  | none=>none
  | some c=>if args.length=c.np then c.code.run (TS M T ext n) ⟨lpM M T ext n,hpM M T ext n⟩ (s.initH args) (sN c k) else none
end
variable {T:Nat->Option qB} {ext:DB} {M:List ME}
def UA (T:Nat->Option qB) (ext:DB) (M:List ME):Prop:=∀ f args S r,look M f args S=some r->BI T ext f args S=some r
theorem M_late (hM:UA T ext M):∀ N,(∀ f args S r,TS M T ext N f args S=some r->JB fun m=>gE T ext m f args S=some r) ∧
  (∀ b s k r (km:Nat->Ex->aA->Option RV),(∀ e s' r',k e s'=some r'->JB fun m=>km m e s'=some r')->lpM M T ext N b s k=some r->JB fun m=>OL T ext m b s (km m)=some r) ∧
  FV (hpM M T ext N) (pN T ext)
 | 0=>by
  refine ⟨fun f args S r h=>⟨0,fun m _=>?_⟩,fun b s k r km _ h=>(by cases h),fun f xs s k r km _ h=>(by cases h)⟩;unfold TS at h;cases hT:T f with
  | none=>rw [hT] at h; cases m <;> (unfold gE; rw [hT]; exact h)
  | some c=>rw [hT] at h; cases h
 | N + 1=>by
  obtain ⟨gr,io,fr⟩:=M_late hM N;refine ⟨?_,?_,?_⟩
  ·intro f args S0 r h;unfold TS at h;cases hl:look M f args S0 with
   | some r' =>
    rw [hl] at h;injection h with h;subst h;exact Q7 f args S0 _ (hM f args S0 _ hl)
   | none =>
   rw [hl] at h;simp only at h;cases hT:T f with
   | none=>rw [hT] at h; exact ⟨0,fun m _=>by cases m <;> (unfold gE; rw [hT]; exact h)⟩
   | some c =>
    rw [hT] at h;cases hm:cR args with
    | some rest =>
     cases S0 with
     | none=>rw [hm] at h; cases h
     | some S =>
      cases S with
      | agg cs =>
       rw [hm] at h;simp only at h;split at h
       ·rename_i hl;refine JB.pred ((oE (lpA:=⟨lpM M T ext N,hpM M T ext N⟩) (lpB:=fun m=>⟨OL T ext m,pN T ext m⟩) gr fr io c.code _ _ r (fun _=>gM c cs.length) (fun e s' r' h'=>JB.now h') h).imp fun m tb=>?_);unfold gE;rw [hT];simp only [hm];rw [if_pos hl];exact tb
       ·cases h
      | _=>rw [hm] at h; cases h
    | none =>
     rw [hm] at h;simp only at h;split at h
     ·rename_i hl;refine JB.pred ((oE (lpA:=⟨lpM M T ext N,hpM M T ext N⟩) (lpB:=fun m=>⟨OL T ext m,pN T ext m⟩) gr fr io c.code _ _ r (fun _=>fin c S0) (fun e s' r' h'=>JB.now h') h).imp fun m tb=>?_);unfold gE;rw [hT];simp only [hm];rw [if_pos hl];exact tb
     ·cases h
  ·intro b s k r km hk h;unfold lpM at h;refine JB.pred ((oE (lpA:=⟨lpM M T ext N,hpM M T ext N⟩) (lpB:=fun m=>⟨OL T ext m,pN T ext m⟩) gr fr io b s _ r (fun m=>AM (OL T ext m) b (km (m + 1))) (fun e s' r' h'=>?_) h).imp fun m hm=>?_)
   ·cases e with
    | nrm=>exact io b s' k r' (fun m=>km (m + 1)) (fun e s'' r'' h''=>(hk e s'' r'' h'').succ) h'
    | exit id=>exact (hk _ _ _ h').succ
    | ret=>exact (hk _ _ _ h').succ
   ·unfold OL;exact hm
  ·intro f xs s k r km hk h;unfold hpM at h;cases hT:T f with
   | none=>rw [hT] at h; cases h
   | some c =>
    rw [hT] at h;simp only at h;split at h
    ·rename_i hl;refine JB.pred ((oE (lpA:=⟨lpM M T ext N,hpM M T ext N⟩) (lpB:=fun m=>⟨OL T ext m,pN T ext m⟩) gr fr io c.code _ _ r (fun m=>sN c (km (m + 1))) (fun e s' r' h'=>?_) h).imp fun m hm=>?_)
     ·cases e with
      | exit id=>cases h'
      | nrm =>
       simp only [sN] at h' ⊢;obtain ⟨y,hy,h'⟩:=yb.1 h';simp only [hy,V];exact (hk _ _ _ h').succ
      | ret =>
       simp only [sN] at h' ⊢;obtain ⟨y,hy,h'⟩:=yb.1 h';simp only [hy,V];exact (hk _ _ _ h').succ
     ·unfold pN;rw [hT];simp only;rw [if_pos hl];exact hm
    ·cases h
theorem UA.nil:UA T ext []:=fun f args S r h=>by cases h
theorem UA.run (hM:UA T ext M) {f:Nat} {args:List AV} {S:Option AV} {r:RV} (N:Nat) (h:TS M T ext N f args S=some r):BI T ext f args S=some r:=by
 obtain ⟨m,hm⟩:=((M_late hM N).1 f args S r h).some;exact XM.2 ⟨m,hm⟩
theorem UA.cons (hM:UA T ext M) {e:ME} (h:BI T ext e.f e.args e.S=some e.r):UA T ext (e :: M):=fun f args S r hl=>by
 unfold look at hl;split at hl
 ·rename_i hc;simp only [y7] at hc;obtain ⟨h1,h2,h3⟩:=hc;injection hl with hl;have h1:e.f=f:=by simpa using h1
  rw [<- h1,<- AV.beqL_eq _ _ h2,<- AV.beqO_eq _ _ h3,<- hl];exact h
 ·exact hM f args S r hl
theorem UA.more (hM:UA T ext M) (N:Nat) (e:ME) (h:TS M T ext N e.f e.args e.S=some e.r):UA T ext (e :: M):=hM.cons (hM.run N h)
end
section
def putE (e:Nat->rA) (d:Nat) (x:rA):Nat->rA:=fun t=>if t=d then x else e t
theorem BF (e:Nat->rA) (d:Nat) (x:rA) (t:Nat):putE e d x t=if t=d then x else e t:=(rfl)
def N5 (m:Nat->Nat->Option (List rA)) (t n:Nat) (r:List rA):Nat->Nat->Option (List rA):=fun t' n'=>if t'=t/\n'=n then some r else m t' n'
theorem iB (m:Nat->Nat->Option (List rA)) (t n:Nat) (r:List rA) (t' n':Nat):N5 m t n r t' n'=if t'=t/\n'=n then some r else m t' n':=(rfl)
def setO (m:Nat->Nat->Option AV) (t n:Nat) (r:AV):Nat->Nat->Option AV:=fun t' n'=>if t'=t/\n'=n then some r else m t' n'
theorem setO_at (m:Nat->Nat->Option AV) (t n:Nat) (r:AV) (t' n':Nat):setO m t n r t' n'=if t'=t/\n'=n then some r else m t' n':=(rfl)
def AZ (k:Nat) (e:Nat->rA):Nat->rA:=fun t=>(e t).strip k
theorem i4 (k:Nat) (e:Nat->rA) (t:Nat):AZ k e t=(e t).strip k:=(rfl)
def OV (k:Nat) (m:Nat->Nat->Option (List rA)):Nat->Nat->Option (List rA):=fun t n=>(m t n).map (·.map (rA.strip k))
theorem s4 (k:Nat) (m:Nat->Nat->Option (List rA)) (t n:Nat):OV k m t n=(m t n).map (·.map (rA.strip k)):=(rfl)
theorem rA.strip_v (k:Nat) (x:rA):(x.strip k).v=x.v:=(rfl)
theorem rA.strip_a (k:Nat) (x:rA):(x.strip k).a=x.a.strip k:=(rfl)
theorem rA.strip_mk (k:Nat) (v:AV) (a:An):rA.strip k ⟨v,a⟩=⟨v,a.strip k⟩:=(rfl)
def argE (args:List AV):Nat->rA:=fun t=>⟨args.getD t .undef,.no⟩
theorem G4 (args:List AV) (t:Nat):argE args t=⟨args.getD t .undef,.no⟩:=(rfl)
def noM:Nat->Nat->Option (List rA):=fun _ _=>none
theorem noM_at (t n:Nat):noM t n=none:=(rfl)
def objE (S0:Option AV):Nat->Nat->Option AV:=fun t n=>if t=0/\n=0 then S0 else none
theorem objE_at (S0:Option AV) (t n:Nat):objE S0 t n=if t=0/\n=0 then S0 else none:=(rfl)
def undE:Nat->rA:=fun _=>⟨.undef,.no⟩
theorem j6 (t:Nat):undE t=⟨.undef,.no⟩:=(rfl)
theorem bind_some2 {α β:Type} (a:α) (f:α->Option β):(some a).bind f=f a:=(rfl)
theorem a6 {α β:Type} (f:α->β) (l:List α):(l.map f).take l.length=l.map f:=yv (by simp)
theorem m_init (args:List AV) (S0:Option AV):aA.init args S0=⟨argE args,noM,1,objE S0,undE⟩:=(rfl)
theorem m_put (s:aA) (d:Nat) (x:rA):s.put (some d) x=⟨putE s.env d x,s.mem,s.next,s.obj,s.gh⟩:=(rfl)
theorem m_put0 (s:aA) (x:rA):s.put none x=s:=(rfl)
theorem m_row (s:aA) (t n:Nat) (r:List rA):s.setRow t n r=⟨s.env,N5 s.mem t n r,s.next,s.obj,s.gh⟩:=(rfl)
theorem m_obj (s:aA) (t n:Nat) (r:AV):s.setObj t n r=⟨s.env,s.mem,s.next,setO s.obj t n r,s.gh⟩:=(rfl)
theorem m_strip (s:aA) (k:Nat):s.strip k=⟨AZ k s.env,OV k s.mem,s.next,s.obj,AZ k s.gh⟩:=(rfl)
theorem m_stripA (s:aA) (k:Nat) (e:TypeId):s.stripA (.own k e)=s.strip k:=(rfl)
theorem m_stripX (s:aA):s.stripA .ex=s:=(rfl)
def gY (t n:Nat) (e:Nat->rA):Nat->rA:=fun j=>(e j).kill t n
theorem uB (t n:Nat) (e:Nat->rA) (j:Nat):gY t n e j=(e j).kill t n:=(rfl)
def Z7 (t n:Nat) (m:Nat->Nat->Option (List rA)):Nat->Nat->Option (List rA):=fun t' n'=>if t'=t/\n'=n then none else (m t' n').map (·.map (rA.kill t n))
theorem lB (t n:Nat) (m:Nat->Nat->Option (List rA)) (t' n':Nat):Z7 t n m t' n'=if t'=t/\n'=n then none else (m t' n').map (·.map (rA.kill t n)):=(rfl)
theorem rA.kill_v (t n:Nat) (x:rA):(x.kill t n).v=x.v.kill t n:=(rfl)
theorem rA.kill_a (t n:Nat) (x:rA):(x.kill t n).a=x.a:=(rfl)
theorem rA.kill_mk (t n:Nat) (v:AV) (a:An):rA.kill t n ⟨v,a⟩=⟨v.kill t n,a⟩:=(rfl)
theorem m_kill (s:aA) (t n:Nat):s.killO (some (t,n))=⟨gY t n s.env,Z7 t n s.mem,s.next,s.obj,gY t n s.gh⟩:=(rfl)
def rowE (cs:List AV):Nat->Nat->Option (List rA):=fun t n=>if t=0/\n=0 then some (cs.map fun v=>⟨v,rB v⟩) else none
theorem rowE_at (cs:List AV) (t n:Nat):rowE cs t n=if t=0/\n=0 then some (cs.map fun v=>⟨v,rB v⟩) else none:=(rfl)
theorem m_initR (args cs:List AV):aA.initR args cs=⟨argE args,rowE cs,1,objE none,undE⟩:=by
 have:objE none=fun _ _=>none:=by funext t n; simp [objE]
 rw [this];rfl
def drop0M (m:Nat->Nat->Option (List rA)):Nat->Nat->Option (List rA):=fun t n=>if t=0/\n=0 then none else m t n
theorem drop0M_at (m:Nat->Nat->Option (List rA)) (t n:Nat):drop0M m t n=if t=0/\n=0 then none else m t n:=(rfl)
theorem m_drop0 (s:aA):s.drop0=⟨s.env,drop0M s.mem,s.next,s.obj,s.gh⟩:=(rfl)
def slotE (xs:List rA):Nat->rA:=fun t=>xs.getD t ⟨.undef,.no⟩
theorem slotE_at (xs:List rA) (t:Nat):slotE xs t=xs.getD t ⟨.undef,.no⟩:=(rfl)
def E4 (nt:Nat) (e g:Nat->rA):Nat->rA:=fun t=>if t<nt then e t else g (t - nt)
theorem fD (nt:Nat) (e g:Nat->rA) (t:Nat):E4 nt e g t=if t<nt then e t else g (t - nt):=(rfl)
def backE (nt:Nat) (g:Nat->rA):Nat->rA:=fun t=>if t<nt then g t else ⟨.undef,.no⟩
theorem NN (nt:Nat) (g:Nat->rA) (t:Nat):backE nt g t=if t<nt then g t else ⟨.undef,.no⟩:=(rfl)
def sW (nt:Nat) (g:Nat->rA):Nat->rA:=fun t=>g (t + nt)
theorem xZ (nt:Nat) (g:Nat->rA) (t:Nat):sW nt g t=g (t + nt):=(rfl)
theorem m_initH (s:aA) (xs:List rA):s.initH xs=⟨slotE xs,s.mem,s.next,s.obj,s.gh⟩:=(rfl)
theorem m_enter (s:aA) (nt:Nat):s.enter nt=⟨s.env,s.mem,s.next + 1,s.obj,E4 nt s.env s.gh⟩:=(rfl)
theorem m_leave (s:aA) (nt:Nat):s.leave nt=⟨backE nt s.gh,s.mem,s.next,s.obj,sW nt s.gh⟩:=(rfl)
theorem m_kill0 (s:aA):s.killO none=s:=(rfl)
theorem fY {v:AV} (h:v.free0=true) (t n:Nat):v.kill0 t n=v:=by
 cases v <;> first | rfl | (simp [AV.free0] at h; done)
theorem X7 {cs:List AV} (h:cs.all AV.free0=true) (t n:Nat):cs.map (AV.kill0 t n)=cs:=by
 have h1:cs.map (AV.kill0 t n)=cs.map id:=yz fun x hx=>fY (y6.1 h x hx) t n
 rwa [List.map_id] at h1
theorem Q3 {v:AV} (h:v.free=true) (t n:Nat):v.kill t n=v:=by
 cases v with
 | agg cs=>exact congrArg AV.agg (X7 h t n)
 | _=>first | rfl | (simp [AV.free,AV.free0] at h; done)
theorem frz0_free {s:aA} {v:AV} (h:v.free0=true):v.frz0 s=v:=by
 cases v <;> first | rfl | (simp [AV.free0] at h; done)
theorem frz_map {s:aA} {cs:List AV} (h:cs.all AV.free0=true):cs.map (AV.frz0 s)=cs:=by
 have h1:cs.map (AV.frz0 s)=cs.map id:=yz fun x hx=>frz0_free (y6.1 h x hx)
 rwa [List.map_id] at h1
theorem frz_free {s:aA} {v:AV} (h:v.free=true):v.frz s=v:=by
 cases v with
 | agg cs=>exact congrArg AV.agg (frz_map h)
 | _=>first | rfl | (simp [AV.free,AV.free0] at h; done)
section
variable {sz:Nat} {l:List (List AV)}
theorem eK (l m:List (List AV)):jA (l++m)=jA l++jA m:=by simp [jA]
theorem dJ (h:kB sz l=true):(jA l).length=l.length * sz:=by
 induction l with
 | nil=>simp [jA]
 | cons c r ih =>
  rw [PR] at h;simp only [y7,decide_eq_true_eq] at h;have:=ih h.2;simp only [jA,yC,List.map_append,yA,yn,yI] at this ⊢;rw [this,h.1,yt];omega
theorem zQ (h:kB sz l=true) {k:Nat} (hk:k<=l.length):jA l=jA (l.take k)++jA (l.drop k)/\(jA (l.take k)).length=k * sz:=by
 refine ⟨by rw [<- eK,yR],?_⟩;rw [dJ (PX h k),yN,Nat.min_eq_left hk]
theorem QZ (h:kB sz l=true) {k:Nat} (hk:k<=l.length):(jA l).take (k * sz)=jA (l.take k):=by
 obtain ⟨h1,h2⟩:=zQ h hk;rw [h1,<- h2,List.take_left]
theorem eP (h:kB sz l=true) {k:Nat} (hk:k<=l.length):(jA l).drop (k * sz)=jA (l.drop k):=by
 obtain ⟨h1,h2⟩:=zQ h hk;rw [h1,<- h2,List.drop_left]
theorem uN (c:List AV) (r:List (List AV)):jA (c :: r)=c.map (⟨·,.no⟩)++jA r:=by simp [jA]
theorem F2 (h:kB sz l=true) {k:Nat} {c:List AV} (hk:l[k]?=some c):c.length=sz:=by
 simp only [kB,y6] at h;simpa using h c (yQ hk)
theorem MI (h:kB sz l=true) {k:Nat} {c:List AV} (hk:l[k]?=some c):SA true sz (k * sz) (jA l)=some ⟨.agg c,.no⟩:=by
 have fa:=(ym.1 hk).1;have hc:=F2 h hk;have hd:l.drop k=c :: l.drop (k + 1):=by rw [y9 fa,(ym.1 hk).2]
 simp only [SA,if_true,dJ h];rw [if_pos (by rw [<- yt]; exact yX _ fa),eP h (by omega),hd,uN,<- hc,List.take_left' (by simp)];simp [Function.comp_def]
theorem i9 (h:kB 1 l=true) {k:Nat} {x:AV} (hk:l[k]?=some [x]):(jA l)[k]?=some ⟨x,.no⟩:=by
 have fa:=(ym.1 hk).1;obtain ⟨h1,h2⟩:=zQ h (k:=k) (by omega);have hd:l.drop k=[x] :: l.drop (k + 1):=by rw [y9 fa,(ym.1 hk).2]
 rw [h1,yP (by omega),h2,hd,uN];simp
theorem o9 (h:kB 1 l=true) {k:Nat} {x:AV} (hk:l[k]?=some [x]) (sz:Nat):SA false sz k (jA l)=some ⟨x,.no⟩:=by
 simp only [SA,yp,if_false];exact i9 h hk
theorem PN (h:kB sz l=true) {k:Nat} (hk:k<l.length) {c:List AV} (hc:c.length=sz) (a:An):xA true sz (k * sz) (jA l) (.agg c) a=some (jA (l.set k c)):=by
 simp only [xA,if_true,dJ h];rw [if_pos ⟨hc,by rw [<- yt]; exact yX _ hk⟩,QZ h (by omega),<- yt,eP h hk,List.set_eq_take_append_cons_drop,if_pos hk,eK,uN,List.append_assoc]
theorem cM (h:kB 1 l=true) {k:Nat} (hk:k<l.length) {x:AV} (hx:x.leaf=true) (sz:Nat):xA false sz k (jA l) x .no=some (jA (l.set k [x])):=by
 have ba:=dJ h;simp only [xA,yp,if_false];rw [if_pos ⟨hx,by omega⟩];congr 1;have e1:=QZ h (k:=k) (by omega);have e2:=eP h (k:=k + 1) (by omega);simp only [Nat.mul_one] at e1 e2;rw [List.set_eq_take_append_cons_drop,if_pos (by omega),e1,e2,List.set_eq_take_append_cons_drop,if_pos hk,eK,uN];simp
theorem RA (z off:Nat) (r:List rA):SA false z off r=r[off]?:=by simp [SA]
theorem OA (z off:Nat) (x:rA) (r:List rA):SA true z off (x :: r)=if off + z<=(x :: r).length then some ⟨.agg ((((x :: r).drop off).take z).map (·.v)),.no⟩ else none:=by simp [SA]
theorem lA (z off:Nat) (y:rA) (r:List rA) (x:AV) (a:An):xA false z off (y :: r) x a=if x.leaf/\off<(y :: r).length then some ((y :: r).set off ⟨x,a⟩) else none:=by simp [xA]
theorem zA (z off:Nat) (y:rA) (r:List rA) (cs:List AV) (a:An):xA true z off (y :: r) (.agg cs) a=if cs.length=z/\off + z<=(y :: r).length then some ((y :: r).take off++cs.map (⟨·,.no⟩)++(y :: r).drop (off + z)) else none:=by simp [xA]
def ZD (l:List (List AV)):Bool:=l.all fun c=>c.all AV.free0
theorem tJ {α:Type} (f:α->List AV) (l:List α) (h:∀ x,(f x).all AV.free0=true):ZD (l.map f)=true:=by
 simp only [ZD,List.all_map,y6];exact fun x _=>h x
theorem WM (h:kB sz l=true) (hf:ZD l=true):iF (jA l) sz 0 l.length=some l:=by
 unfold iF;rw [if_pos]
 ·congr 1;refine List.ext_getElem (by simp) fun i h1 h2=>?_
  simp only [List.getElem_map,List.getElem_range,yD];rw [eP h (by omega),y9 h2,uN];have hc:=F2 h (y4 h2);rw [<- hc,List.take_left' (by simp)];simp [Function.comp_def]
 ·refine ⟨by rw [dJ h]; omega,?_⟩;simp only [jA,List.all_map,List.all_flatten,Function.comp_def];exact hf
end
section
variable {call:DB} {lp:LH} {T:Nat->Option qB} {ext:DB}
noncomputable def seqK (call:DB) (lp:LH) (b:C) (k:Ex->aA->Option RV):Ex->aA->Option RV:=fun e s=>match e with
 | .nrm=>b.run call lp s k
 | e=>k e s
def regK (k:Ex->aA->Option RV):aA->Option RV:=fun s=>k .nrm { s with next:=s.next + 1 }
noncomputable def opK (call:DB) (lp:LH) (r:List PA) (k:aA->Option RV):aA->Option RV:=fun s=>XG call lp r s k
def callK (d:Option Nat) (nt:Nat) (k:aA->Option RV):rA->aA->Option RV:=fun y s'=>k ((s'.leave nt).put d y)
def blkK (id:Nat) (k:Ex->aA->Option RV):Ex->aA->Option RV:=fun e s=>match e with
 | .exit j=>if j=id then k .nrm s else k (.exit j) s
 | e=>k e s
def j7 (v:AV) (a b:Option RV):Option RV:=match v with
 | .bool t=>if t then a else b
 | _=>none
def bU (v:AV) (w:Bool) (a b:Option aA):Option aA:=match v with
 | .bool t=>if t=w then a else b
 | .tup []=>b
 | _=>none
def nU (v:AV) (w:Bool) (a b:Option RV):Option RV:=match v with
 | .bool t=>if t=w then a else b
 | .tup []=>b
 | _=>none
def fnC (v:AV) (h:Nat->List AV->Option RV):Option RV:=match v with
 | .fn f cs=>h f cs
 | _=>none
variable (b c:C) (s:aA) (k:Ex->aA->Option RV) (j id:Nat)
theorem seqK_nrm:seqK call lp b k .nrm s=b.run call lp s k:=(rfl)
theorem seqK_exit:seqK call lp b k (.exit j) s=k (.exit j) s:=(rfl)
theorem seqK_ret:seqK call lp b k .ret s=k .ret s:=(rfl)
theorem regK_at:regK k s=k .nrm ⟨s.env,s.mem,s.next + 1,s.obj,s.gh⟩:=(rfl)
theorem opK_at (r:List PA) (k:aA->Option RV):opK call lp r k s=XG call lp r s k:=(rfl)
theorem callK_at (d:Option Nat) (nt:Nat) (k:aA->Option RV) (y:rA):callK d nt k y s=k ((s.leave nt).put d y):=(rfl)
theorem blkK_nrm:blkK id k .nrm s=k .nrm s:=(rfl)
theorem blkK_exit:blkK id k (.exit j) s=if j=id then k .nrm s else k (.exit j) s:=(rfl)
theorem blkK_ret:blkK id k .ret s=k .ret s:=(rfl)
theorem condC_true (x y:Option RV):j7 (.bool true) x y=x:=(rfl)
theorem z7 (x y:Option RV):j7 (.bool false) x y=y:=(rfl)
theorem P7 (t w:Bool) (x y:Option aA):bU (.bool t) w x y=if t=w then x else y:=(rfl)
theorem guardC_tup (w:Bool) (x y:Option aA):bU (.tup []) w x y=y:=(rfl)
theorem A7 (t w:Bool) (x y:Option RV):nU (.bool t) w x y=if t=w then x else y:=(rfl)
theorem guardK_tup (w:Bool) (x y:Option RV):nU (.tup []) w x y=y:=(rfl)
theorem fnC_fn (f:Nat) (cs:List AV) (h:Nat->List AV->Option RV):fnC (.fn f cs) h=h f cs:=(rfl)
theorem r_skip:C.run call lp .skip s k=k .nrm s:=(rfl)
theorem r_seq:C.run call lp (.seq b c) s k=b.run call lp s (seqK call lp c k):=(rfl)
theorem r_reg (ops:List PA):C.run call lp (.reg ops) s k=XG call lp ops s (regK k):=(rfl)
theorem r_cond (x:CB):C.run call lp (.cond x b c) s k=j7 (x.get s) (b.run call lp s k) (c.run call lp s k):=(rfl)
theorem r_block:C.run call lp (.block id b) s k=b.run call lp s (blkK id k):=(rfl)
theorem r_loop:C.run call (aN T ext) (.loop b) s k=kI T ext b s k:=(rfl)
theorem r_exit:C.run call lp (.exit id) s k=k (.exit id) s:=(rfl)
theorem r_ret:C.run call lp .ret s k=k .ret s:=(rfl)
theorem a_nrm:AM lp b k .nrm s=lp b s k:=(rfl)
theorem a_exit:AM lp b k (.exit j) s=k (.exit j) s:=(rfl)
theorem a_ret:AM lp b k .ret s=k .ret s:=(rfl)
theorem o_nil (k:aA->Option RV):XG call lp [] s k=k s:=(rfl)
theorem o_cons (o:PA) (r:List PA) (k:aA->Option RV):XG call lp (o :: r) s k=o.stepK call lp s (opK call lp r k):=(rfl)
theorem s_plain (d:Option Nat) (op:K):PA.step call ⟨d,op,none⟩ s=(op.run call s).bind (PA.eff ⟨d,op,none⟩ s):=(rfl)
theorem s_guard (d:Option Nat) (op:K) (t:Nat) (w:Bool):PA.step call ⟨d,op,some (t,w)⟩ s=bU (s.env t).v w ((op.run call s).bind (PA.eff ⟨d,op,none⟩ s)) (some (s.put d ⟨.tup [],.no⟩)):=by
 simp only [PA.step,bU];generalize (s.env t).v=v;cases v with
 | tup l=>cases l <;> rfl
 | _=>rfl
theorem k_callh (d:Option Nat) (nt:Nat) (x:CB) (xs:List CB) (g:Option (Nat × Bool)) (k:aA->Option RV):PA.stepK call lp ⟨d,.callh nt x xs,g⟩ s k=RK s d g (xP lp d nt x xs s k) k:=(rfl)
theorem hg_none (d:Option Nat) (a:Option RV) (k:aA->Option RV):RK s d none a k=a:=(rfl)
theorem hg_some (d:Option Nat) (t:Nat) (w:Bool) (a:Option RV) (k:aA->Option RV):RK s d (some (t,w)) a k=nU (s.env t).v w a (k (s.put d ⟨.tup [],.no⟩)):=by
 simp only [RK,nU];generalize (s.env t).v=v;cases v with
 | tup l=>cases l <;> rfl
 | _=>rfl
theorem h_step (d:Option Nat) (nt:Nat) (x:CB) (xs:List CB) (k:aA->Option RV):xP (aN T ext) d nt x xs s k=fnC (x.get s) fun f cs=>evH T ext f (JP s xs++cs.map (⟨·,.no⟩)) (s.enter nt) (callK d nt k):=by
 simp only [xP,fnC];generalize x.get s=v;cases v <;> rfl
section
variable (d:Option Nat) (g:Option (Nat × Bool)) (k:aA->Option RV)
section
variable {x0}
include x0
theorem k_mv:PA.stepK call lp ⟨d,.mv x0,g⟩ s k=(PA.step call ⟨d,.mv x0,g⟩ s).bind k:=(rfl)
theorem k_pick {x1} {x2}:PA.stepK call lp ⟨d,.pick x0 x1 x2,g⟩ s k=(PA.step call ⟨d,.pick x0 x1 x2,g⟩ s).bind k:=(rfl)
theorem k_alloc:PA.stepK call lp ⟨d,.alloc x0,g⟩ s k=(PA.step call ⟨d,.alloc x0,g⟩ s).bind k:=(rfl)
theorem k_box {x1}:PA.stepK call lp ⟨d,.box x0 x1,g⟩ s k=(PA.step call ⟨d,.box x0 x1,g⟩ s).bind k:=(rfl)
theorem k_build {x1}:PA.stepK call lp ⟨d,.build x0 x1,g⟩ s k=(PA.step call ⟨d,.build x0 x1,g⟩ s).bind k:=(rfl)
theorem k_bsl {x1} {x2}:PA.stepK call lp ⟨d,.bsl x0 x1 x2,g⟩ s k=(PA.step call ⟨d,.bsl x0 x1 x2,g⟩ s).bind k:=(rfl)
theorem k_bslr {x1} {x2} {x3}:PA.stepK call lp ⟨d,.bslr x0 x1 x2 x3,g⟩ s k=(PA.step call ⟨d,.bslr x0 x1 x2 x3,g⟩ s).bind k:=(rfl)
theorem k_load {x1} {x2} {x3}:PA.stepK call lp ⟨d,.load x0 x1 x2 x3,g⟩ s k=(PA.step call ⟨d,.load x0 x1 x2 x3,g⟩ s).bind k:=(rfl)
theorem k_store {x1} {x2} {x3} {x4}:PA.stepK call lp ⟨d,.store x0 x1 x2 x3 x4,g⟩ s k=(PA.step call ⟨d,.store x0 x1 x2 x3 x4,g⟩ s).bind k:=(rfl)
theorem k_bin {x1} {x2} {x3}:PA.stepK call lp ⟨d,.bin x0 x1 x2 x3,g⟩ s k=(PA.step call ⟨d,.bin x0 x1 x2 x3,g⟩ s).bind k:=(rfl)
theorem k_mm {x1} {x2}:PA.stepK call lp ⟨d,.mm x0 x1 x2,g⟩ s k=(PA.step call ⟨d,.mm x0 x1 x2,g⟩ s).bind k:=(rfl)
theorem k_eqa {x1} {x2} {x3}:PA.stepK call lp ⟨d,.eqa x0 x1 x2 x3,g⟩ s k=(PA.step call ⟨d,.eqa x0 x1 x2 x3,g⟩ s).bind k:=(rfl)
theorem k_eqn {x1} {x2} {x3}:PA.stepK call lp ⟨d,.eqn x0 x1 x2 x3,g⟩ s k=(PA.step call ⟨d,.eqn x0 x1 x2 x3,g⟩ s).bind k:=(rfl)
theorem k_un {x1}:PA.stepK call lp ⟨d,.un x0 x1,g⟩ s k=(PA.step call ⟨d,.un x0 x1,g⟩ s).bind k:=(rfl)
theorem k_conv {x1}:PA.stepK call lp ⟨d,.conv x0 x1,g⟩ s k=(PA.step call ⟨d,.conv x0 x1,g⟩ s).bind k:=(rfl)
theorem k_rstr:PA.stepK call lp ⟨d,.rstr x0,g⟩ s k=(PA.step call ⟨d,.rstr x0,g⟩ s).bind k:=(rfl)
theorem k_bstr {x1}:PA.stepK call lp ⟨d,.bstr x0 x1,g⟩ s k=(PA.step call ⟨d,.bstr x0 x1,g⟩ s).bind k:=(rfl)
theorem k_clr {x1} {x2}:PA.stepK call lp ⟨d,.clr x0 x1 x2,g⟩ s k=(PA.step call ⟨d,.clr x0 x1 x2,g⟩ s).bind k:=(rfl)
theorem k_mks {x1} {x2} {x3} {x4}:PA.stepK call lp ⟨d,.mks x0 x1 x2 x3 x4,g⟩ s k=(PA.step call ⟨d,.mks x0 x1 x2 x3 x4,g⟩ s).bind k:=(rfl)
theorem k_slc {x1} {x2} {x3} {x4} {x5}:PA.stepK call lp ⟨d,.slc x0 x1 x2 x3 x4 x5,g⟩ s k=(PA.step call ⟨d,.slc x0 x1 x2 x3 x4 x5,g⟩ s).bind k:=(rfl)
theorem k_aslc {x1} {x2} {x3} {x4} {x5}:PA.stepK call lp ⟨d,.aslc x0 x1 x2 x3 x4 x5,g⟩ s k=(PA.step call ⟨d,.aslc x0 x1 x2 x3 x4 x5,g⟩ s).bind k:=(rfl)
theorem k_faddr {x1}:PA.stepK call lp ⟨d,.faddr x0 x1,g⟩ s k=(PA.step call ⟨d,.faddr x0 x1,g⟩ s).bind k:=(rfl)
theorem k_field {x1} {x2} {x3}:PA.stepK call lp ⟨d,.field x0 x1 x2 x3,g⟩ s k=(PA.step call ⟨d,.field x0 x1 x2 x3,g⟩ s).bind k:=(rfl)
theorem k_iaddr {x1} {x2}:PA.stepK call lp ⟨d,.iaddr x0 x1 x2,g⟩ s k=(PA.step call ⟨d,.iaddr x0 x1 x2,g⟩ s).bind k:=(rfl)
theorem k_aaddr {x1} {x2} {x3}:PA.stepK call lp ⟨d,.aaddr x0 x1 x2 x3,g⟩ s k=(PA.step call ⟨d,.aaddr x0 x1 x2 x3,g⟩ s).bind k:=(rfl)
theorem k_index {x1}:PA.stepK call lp ⟨d,.index x0 x1,g⟩ s k=(PA.step call ⟨d,.index x0 x1,g⟩ s).bind k:=(rfl)
theorem k_ext {x1}:PA.stepK call lp ⟨d,.ext x0 x1,g⟩ s k=(PA.step call ⟨d,.ext x0 x1,g⟩ s).bind k:=(rfl)
theorem k_call {x1} {x2}:PA.stepK call lp ⟨d,.call x0 x1 x2,g⟩ s k=(PA.step call ⟨d,.call x0 x1 x2,g⟩ s).bind k:=(rfl)
theorem k_callf {x1} {x2} {x3}:PA.stepK call lp ⟨d,.callf x0 x1 x2 x3,g⟩ s k=(PA.step call ⟨d,.callf x0 x1 x2 x3,g⟩ s).bind k:=(rfl)
theorem k_mkf {x1}:PA.stepK call lp ⟨d,.mkf x0 x1,g⟩ s k=(PA.step call ⟨d,.mkf x0 x1,g⟩ s).bind k:=(rfl)
theorem k_callv {x1} {x2}:PA.stepK call lp ⟨d,.callv x0 x1 x2,g⟩ s k=(PA.step call ⟨d,.callv x0 x1 x2,g⟩ s).bind k:=(rfl)
theorem k_callr {x1} {x2}:PA.stepK call lp ⟨d,.callr x0 x1 x2,g⟩ s k=(PA.step call ⟨d,.callr x0 x1 x2,g⟩ s).bind k:=(rfl)
theorem k_len {x1}:PA.stepK call lp ⟨d,.len x0 x1,g⟩ s k=(PA.step call ⟨d,.len x0 x1,g⟩ s).bind k:=(rfl)
theorem k_app {x1} {x2} {x3} {x4} {x5}:PA.stepK call lp ⟨d,.app x0 x1 x2 x3 x4 x5,g⟩ s k=(PA.step call ⟨d,.app x0 x1 x2 x3 x4 x5,g⟩ s).bind k:=(rfl)
theorem k_appf {x1} {x2} {x3} {x4} {x5}:PA.stepK call lp ⟨d,.appf x0 x1 x2 x3 x4 x5,g⟩ s k=(PA.step call ⟨d,.appf x0 x1 x2 x3 x4 x5,g⟩ s).bind k:=(rfl)
theorem k_appm {x1} {x2} {x3} {x4} {x5}:PA.stepK call lp ⟨d,.appm x0 x1 x2 x3 x4 x5,g⟩ s k=(PA.step call ⟨d,.appm x0 x1 x2 x3 x4 x5,g⟩ s).bind k:=(rfl)
theorem k_appn {x1} {x2} {x3} {x4} {x5}:PA.stepK call lp ⟨d,.appn x0 x1 x2 x3 x4 x5,g⟩ s k=(PA.step call ⟨d,.appn x0 x1 x2 x3 x4 x5,g⟩ s).bind k:=(rfl)
end
theorem k_mkm:PA.stepK call lp ⟨d,.mkm,g⟩ s k=(PA.step call ⟨d,.mkm,g⟩ s).bind k:=(rfl)
theorem k_bad:PA.stepK call lp ⟨d,.bad,g⟩ s k=(PA.step call ⟨d,.bad,g⟩ s).bind k:=(rfl)
theorem k_mkb {T e:TypeId}:PA.stepK call lp ⟨d,.mkb T e,g⟩ s k=(PA.step call ⟨d,.mkb T e,g⟩ s).bind k:=(rfl)
theorem k_mget {x0} {x1} {x2} {x3} {x4}:PA.stepK call lp ⟨d,.mget x0 x1 x2 x3 x4,g⟩ s k=(PA.step call ⟨d,.mget x0 x1 x2 x3 x4,g⟩ s).bind k:=(rfl)
theorem k_mset {x0} {x1} {x2} {x3}:PA.stepK call lp ⟨d,.mset x0 x1 x2 x3,g⟩ s k=(PA.step call ⟨d,.mset x0 x1 x2 x3,g⟩ s).bind k:=(rfl)
theorem k_mlen {x0}:PA.stepK call lp ⟨d,.mlen x0,g⟩ s k=(PA.step call ⟨d,.mlen x0,g⟩ s).bind k:=(rfl)
theorem k_rng {x0}:PA.stepK call lp ⟨d,.rng x0,g⟩ s k=(PA.step call ⟨d,.rng x0,g⟩ s).bind k:=(rfl)
theorem k_slz {x0}:PA.stepK call lp ⟨d,.slz x0,g⟩ s k=(PA.step call ⟨d,.slz x0,g⟩ s).bind k:=(rfl)
theorem k_ent {x0}:PA.stepK call lp ⟨d,.ent x0,g⟩ s k=(PA.step call ⟨d,.ent x0,g⟩ s).bind k:=(rfl)
theorem k_nxt {x0}:PA.stepK call lp ⟨d,.nxt x0,g⟩ s k=RK s d g (nY d x0 s k) k:=(rfl)
theorem k_nilchk {x0}:PA.stepK call lp ⟨d,.nilchk x0,g⟩ s k=(PA.step call ⟨d,.nilchk x0,g⟩ s).bind k:=(rfl)
end
theorem e_none (d:Option Nat) (op:K) (g:Option (Nat × Bool)) (x:rA):PA.eff ⟨d,op,g⟩ s (x,.none)=some (s.put d x):=(rfl)
theorem e_set (d:Option Nat) (op:K) (g:Option (Nat × Bool)) (x:rA) (t n:Nat) (r:List rA):PA.eff ⟨d,op,g⟩ s (x,.set t n r)=some ((s.setRow t n r).put d x):=(rfl)
theorem e_newp (d:Nat) (op:K) (g:Option (Nat × Bool)) (t n o:Nat) (a:An) (r:List rA):PA.eff ⟨some d,op,g⟩ s (⟨.ptr t n o,a⟩,.new r)=some ((s.setRow d s.next r).put (some d) ⟨.ptr d s.next 0,.no⟩):=(rfl)
theorem e_newr (d:Nat) (op:K) (g:Option (Nat × Bool)) (t n z o l p:Nat) (a:An) (r:List rA):PA.eff ⟨some d,op,g⟩ s (⟨.ref t n z o l p,a⟩,.new r)=some ((s.setRow d s.next r).put (some d) ⟨.ref d s.next z o l p,.no⟩):=(rfl)
theorem e_app (d:Nat) (op:K) (g:Option (Nat × Bool)) (v:AV) (a:An) (kk j:Nat) (e:TypeId):PA.eff ⟨some d,op,g⟩ s (⟨v,.own kk e⟩,.app a j)=some (((s.stripA a).strip d).put (some d) ⟨v,.own d e⟩):=(rfl)
theorem e_obj (d:Option Nat) (op:K) (g:Option (Nat × Bool)) (x:rA) (t n:Nat) (S:AV):PA.eff ⟨d,op,g⟩ s (x,.obj t n S)=some ((s.setObj t n S).put d x):=(rfl)
theorem e_mk (d:Nat) (op:K) (g:Option (Nat × Bool)) (x:rA) (S:AV):PA.eff ⟨some d,op,g⟩ s (x,.mk S)=some ((s.setObj d s.next S).put (some d) ⟨x.v.named d s.next,.no⟩):=(rfl)
theorem e_rn (d:Nat) (op:K) (g:Option (Nat × Bool)) (t n z o l p:Nat) (a:An) (q:Option (Nat × Nat)) (r:List rA):PA.eff ⟨some d,op,g⟩ s (⟨.ref t n z o l p,a⟩,.rn q r)=some (((s.killO q).setRow d s.next r).put (some d) ⟨.ref d s.next z o l p,.no⟩):=(rfl)
theorem e_ob2 (d:Nat) (op:K) (g:Option (Nat × Bool)) (t n z o l p:Nat) (a:An) (t' n':Nat) (S:AV) (r:List rA):PA.eff ⟨some d,op,g⟩ s (⟨.ref t n z o l p,a⟩,.ob2 t' n' S r)=some (((s.setObj t' n' S).setRow d s.next r).put (some d) ⟨.ref d s.next z o l p,.no⟩):=(rfl)
theorem run_cg {b:C} {s s':aA} {k:Ex->aA->Option RV} (h:s=s'):C.run call lp b s k=C.run call lp b s' k:=by rw [h]
theorem ops_cg {l:List PA} {s s':aA} {k:aA->Option RV} (h:s=s'):XG call lp l s k=XG call lp l s' k:=by rw [h]
theorem stepK_cg {o:PA} {s s':aA} {k:aA->Option RV} (h:s=s'):PA.stepK call lp o s k=PA.stepK call lp o s' k:=by rw [h]
theorem bind_cg {α β:Type} {a a':Option α} {f:α->Option β} (h:a=a'):a.bind f=a'.bind f:=by rw [h]
theorem condC_cg {v v':AV} {a b:Option RV} (h:v=v'):j7 v a b=j7 v' a b:=by rw [h]
theorem guardC_cg {v v':AV} {w:Bool} {a b:Option aA} (h:v=v'):bU v w a b=bU v' w a b:=by rw [h]
theorem guardK_cg {v v':AV} {w:Bool} {a b:Option RV} (h:v=v'):nU v w a b=nU v' w a b:=by rw [h]
theorem fnC_cg {v v':AV} {g:Nat->List AV->Option RV} (h:v=v'):fnC v g=fnC v' g:=by rw [h]
theorem evL_cg {T:Nat->Option qB} {ext:DB} {b:C} {s s':aA} {k:Ex->aA->Option RV} (h:s=s'):kI T ext b s k=kI T ext b s' k:=by rw [h]
theorem evH_cg {T:Nat->Option qB} {ext:DB} {f:Nat} {xs jz:List rA} {s s':aA} {k:rA->aA->Option RV} (hx:xs=jz) (h:s=s'):evH T ext f xs s k=evH T ext f jz s' k:=by rw [h,hx]
end
attribute [congr] run_cg ops_cg stepK_cg bind_cg condC_cg guardC_cg guardK_cg fnC_cg evL_cg evH_cg
attribute [simp] k_clr k_rng k_slz k_ent k_nxt k_bad k_mkb k_mv k_pick k_alloc k_box k_build k_bsl k_bslr k_load k_store k_bin k_mm k_eqa k_eqn k_un k_conv k_rstr k_bstr k_mks k_slc k_aslc k_faddr k_field k_iaddr k_aaddr k_index k_ext k_call k_callf k_mkf k_callv k_callr k_callh k_len k_app k_appf k_appm k_appn k_mkm k_mget k_mset k_mlen k_nilchk A7 guardK_tup fnC_fn hg_none hg_some h_step opK_at callK_at j6 rowE_at drop0M_at slotE_at fD NN xZ m_initH m_enter m_leave m_initR m_drop0
attribute [simp] BF iB setO_at i4 s4 rA.strip_v rA.strip_a rA.strip_mk G4 noM_at objE_at uB lB rA.kill_v rA.kill_a rA.kill_mk
attribute [simp] e_ob2 frz_free frz_map AV.frz AV.frz0 Q3 X7 AV.kill AV.kill0 m_kill m_kill0 e_rn m_init m_put m_put0 m_row m_obj m_strip m_stripA m_stripX An.strip e_none e_set e_newp e_newr e_app e_obj e_mk K.run CB.get xA AV.leaf AV.whole AV.cells WJ Z9 GL pT SA DG Cl.okPtr Cl.okMem GS fin B4 objAt uK ZW AV.free AV.free0 AV.back AV.backN AV.isObj AV.named U1 IE gG JD wQ AV.capOk qT NJ EK AV.elems CB.an rB elsOk_nil PR X4 rD PX elsOk_drop a6
attribute [simp ↓] bind_some2 seqK_nrm seqK_exit seqK_ret regK_at blkK_nrm blkK_exit blkK_ret condC_true z7 P7 guardC_tup r_skip r_seq r_reg r_cond r_block r_loop r_exit r_ret a_nrm a_exit a_ret o_nil o_cons s_plain s_guard
end
def tA:DB:=fun f args S =>
 if f=238 then (match args,S with
  | [.ptr 0 0 0,.str s],some (.tup [.undef,.undef,.int .i64 275,.int .i64 5,.str a])=>if a.size + s.size<=140737488355328 then some (.tup [.int .i64 s.size,.undef],some (iH 275 5 (a++s))) else none
  | _,_=>none)
 else if f=240 then (match args,S with
  | [.ptr 0 0 0],some (.tup [.undef,.undef,.int .i64 275,.int .i64 5,.str a])=>some (.str a,some (iH 275 5 a))
  | _,_=>none)
 else none
theorem Q2 {O:GI} (f:FuncId) (args:List AV) (S:Option AV) (r:RV) (h:tA f args S=some r):tD Tryz.prog O f args S r:=by
 unfold tA at h;split at h
 ·rename_i e;subst e;split at h
  ·rename_i s a;split at h
   ·rename_i hl;injection h with h;subst h;exact bld_write a s hl
   ·cases h
  ·cases h
 ·split at h
  ·rename_i e;subst e;split at h
   ·rename_i a;injection h with h;subst h;exact bld_string a
   ·cases h
  ·cases h
abbrev i6 (n:Int):AV:=.int .i64 n
abbrev f6:AV:=.bool false
abbrev t6:AV:=.bool true
abbrev n6:AV:=.sl true []
abbrev e6:AV:=.str ⟨#[]⟩
abbrev i0:AV:=.int .i64 0
def lU:AV:=(.sl false [[(i6 5),(.str (.mk #[65])),i0,i0,i0,n6,(.sl false [[(i6 1),(.str (.mk #[97])),i0,f6,f6,i0,f6,i0,e6,i0,n6,n6,n6]]),i0,i0,f6],[(i6 7),e6,i0,i0,(i6 3),n6,n6,i0,(i6 2),f6],[(i6 5),(.str (.mk #[66])),i0,i0,i0,n6,(.sl false [[(i6 1),(.str (.mk #[98])),(i6 1),f6,f6,i0,f6,i0,e6,i0,n6,n6,n6]]),i0,i0,f6],[(i6 2),e6,(i6 7),(i6 7),i0,n6,n6,i0,i0,f6],[(i6 6),(.str (.mk #[85])),i0,i0,i0,n6,(.sl false [[(i6 1),(.str (.mk #[120])),i0,f6,f6,i0,f6,i0,e6,i0,n6,n6,n6],[(i6 2),(.str (.mk #[121])),(i6 3),f6,f6,i0,f6,i0,e6,i0,n6,n6,n6]]),i0,i0,f6]])
def nM:AV:=(.agg [lU])
abbrev va:AV:=(.sl false [[(i6 2),f6,(i6 7),e6,i0,n6,n6,n6]])
abbrev vc:AV:=(.agg [(i6 6),(.str (.mk #[85])),i0,i0,i0,n6,(.sl false [[(i6 1),(.str (.mk #[120])),i0,f6,f6,i0,f6,i0,e6,i0,n6,n6,n6],[(i6 2),(.str (.mk #[121])),(i6 3),f6,f6,i0,f6,i0,e6,i0,n6,n6,n6]]),i0,i0,f6])
abbrev vf:AV:=(.sl false [[(i6 7),f6,i0,e6,i0,n6,n6,n6]])
abbrev vg:AV:=(.agg [(i6 5),(.str (.mk #[66])),i0,i0,i0,n6,(.sl false [[(i6 1),(.str (.mk #[98])),(i6 1),f6,f6,i0,f6,i0,e6,i0,n6,n6,n6]]),i0,i0,f6])
abbrev vh:AV:=(.agg [(i6 5),(.str (.mk #[65])),i0,i0,i0,n6,(.sl false [[(i6 1),(.str (.mk #[97])),i0,f6,f6,i0,f6,i0,e6,i0,n6,n6,n6]]),i0,i0,f6])
abbrev vj:AV:=(.agg [(i6 6),f6,i0,e6,(i6 2),n6,va,n6])
abbrev vk:AV:=(.agg [(i6 2),f6,(i6 7),e6,i0,n6,n6,n6])
abbrev vm:AV:=(.agg [t6,f6,(.str (.mk #[2,14])),(i6 6),f6,i0,e6,(i6 2),n6,va,n6])
abbrev vn:AV:=(.agg [t6,f6,(.str (.mk #[14])),(i6 2),f6,(i6 7),e6,i0,n6,n6,n6])
abbrev vo:AV:=(.agg [t6,f6,(.str (.mk #[2,0])),(i6 5),f6,i0,e6,i0,n6,vf,n6])
abbrev vp:AV:=(.agg [(i6 7),e6,i0,i0,(i6 3),n6,n6,i0,(i6 2),f6])
abbrev vq:AV:=(.agg [f6,f6,e6,i0,f6,i0,e6,i0,n6,n6,n6])
abbrev vr:AV:=(.agg [(i6 7),f6,i0,e6,i0,n6,n6,n6])
abbrev vt:AV:=(.agg [(i6 2),e6,(i6 7),(i6 7),i0,n6,n6,i0,i0,f6])
abbrev vu:AV:=(.agg [t6,f6,e6,(i6 7),f6,i0,e6,i0,n6,n6,n6])
abbrev vv:AV:=(.agg [(i6 5),f6,i0,e6,i0,n6,vf,n6])
abbrev vw:AV:=(.sl false [[(i6 (-1))],[i0],[(i6 1)],[i0],[(i6 1)]])
def awk_M0:List ME:=[]
theorem awk_k0:UA kA tA awk_M0:=UA.nil
def awk_M1:List ME:=⟨59,[],none,(nM,none)⟩ :: awk_M0
theorem awk_k1:UA kA tA awk_M1:=awk_k0.more 3000 _ (by kernel_rfl)
def awk_M2:List ME:=⟨108,[nM],none,(i0,none)⟩ :: awk_M1
theorem awk_k2:UA kA tA awk_M2:=awk_k1.more 3000 _ (by kernel_rfl)
def awk_M3:List ME:=⟨109,[nM],none,((.tup [i0,i0,i0]),none)⟩ :: awk_M2
theorem awk_k3:UA kA tA awk_M3:=awk_k2.more 3000 _ (by kernel_rfl)
def awk_M4:List ME:=⟨62,[nM],none,(i0,none)⟩ :: awk_M3
theorem awk_k4:UA kA tA awk_M4:=awk_k3.more 3000 _ (by kernel_rfl)
def awk_M5:List ME:=⟨110,[vh,(.bl [[i0],[i0],[i0],[i0],[i0]])],none,(i0,none)⟩ :: awk_M4
theorem awk_k5:UA kA tA awk_M5:=awk_k4.more 3000 _ (by kernel_rfl)
def awk_M6:List ME:=⟨110,[vp,(.bl [[i0],[i0],[i0],[i0],[i0]])],none,((i6 1),none)⟩ :: awk_M5
theorem awk_k6:UA kA tA awk_M6:=awk_k5.more 3000 _ (by kernel_rfl)
def awk_M7:List ME:=⟨110,[vg,(.bl [[i0],[(i6 1)],[i0],[i0],[i0]])],none,((i6 1),none)⟩ :: awk_M6
theorem awk_k7:UA kA tA awk_M7:=awk_k6.more 3000 _ (by kernel_rfl)
def awk_M8:List ME:=⟨110,[vt,(.bl [[i0],[(i6 1)],[(i6 1)],[i0],[i0]])],none,((i6 1),none)⟩ :: awk_M7
theorem awk_k8:UA kA tA awk_M8:=awk_k7.more 3000 _ (by kernel_rfl)
def awk_M9:List ME:=⟨110,[vc,(.bl [[i0],[(i6 1)],[(i6 1)],[(i6 1)],[i0]])],none,((i6 1),none)⟩ :: awk_M8
theorem awk_k9:UA kA tA awk_M9:=awk_k8.more 3000 _ (by kernel_rfl)
def awk_M10:List ME:=⟨110,[vh,(.bl [[i0],[(i6 1)],[(i6 1)],[(i6 1)],[(i6 1)]])],none,(i0,none)⟩ :: awk_M9
theorem awk_k10:UA kA tA awk_M10:=awk_k9.more 3000 _ (by kernel_rfl)
def awk_M11:List ME:=⟨110,[vp,(.bl [[i0],[(i6 1)],[(i6 1)],[(i6 1)],[(i6 1)]])],none,((i6 2),none)⟩ :: awk_M10
theorem awk_k11:UA kA tA awk_M11:=awk_k10.more 3000 _ (by kernel_rfl)
def awk_M12:List ME:=⟨110,[vg,(.bl [[i0],[(i6 2)],[(i6 1)],[(i6 1)],[(i6 1)]])],none,((i6 2),none)⟩ :: awk_M11
theorem awk_k12:UA kA tA awk_M12:=awk_k11.more 3000 _ (by kernel_rfl)
def awk_M13:List ME:=⟨110,[vt,(.bl [[i0],[(i6 2)],[(i6 2)],[(i6 1)],[(i6 1)]])],none,((i6 1),none)⟩ :: awk_M12
theorem awk_k13:UA kA tA awk_M13:=awk_k12.more 3000 _ (by kernel_rfl)
def awk_M14:List ME:=⟨110,[vc,(.bl [[i0],[(i6 2)],[(i6 2)],[(i6 1)],[(i6 1)]])],none,((i6 1),none)⟩ :: awk_M13
theorem awk_k14:UA kA tA awk_M14:=awk_k13.more 3000 _ (by kernel_rfl)
def awk_M15:List ME:=⟨110,[vh,(.bl [[i0],[(i6 2)],[(i6 2)],[(i6 1)],[(i6 1)]])],none,(i0,none)⟩ :: awk_M14
theorem awk_k15:UA kA tA awk_M15:=awk_k14.more 3000 _ (by kernel_rfl)
def awk_M16:List ME:=⟨110,[vp,(.bl [[i0],[(i6 2)],[(i6 2)],[(i6 1)],[(i6 1)]])],none,((i6 2),none)⟩ :: awk_M15
theorem awk_k16:UA kA tA awk_M16:=awk_k15.more 3000 _ (by kernel_rfl)
def awk_M17:List ME:=⟨110,[vg,(.bl [[i0],[(i6 2)],[(i6 2)],[(i6 1)],[(i6 1)]])],none,((i6 2),none)⟩ :: awk_M16
theorem awk_k17:UA kA tA awk_M17:=awk_k16.more 3000 _ (by kernel_rfl)
def awk_M18:List ME:=⟨63,[nM],none,((.sl false [[i0],[(i6 2)],[(i6 2)],[(i6 1)],[(i6 1)]]),none)⟩ :: awk_M17
theorem awk_k18:UA kA tA awk_M18:=awk_k17.more 3000 _ (by kernel_rfl)
def awk_M19:List ME:=⟨23,[nM],none,((.tup [(.sl false [[f6],[t6],[t6],[t6],[t6]]),i0]),none)⟩ :: awk_M18
theorem awk_k19:UA kA tA awk_M19:=awk_k18.more 3000 _ (by kernel_rfl)
def awk_M20:List ME:=⟨65,[nM,(i6 2)],none,(i0,none)⟩ :: awk_M19
theorem awk_k20:UA kA tA awk_M20:=awk_k19.more 3000 _ (by kernel_rfl)
def awk_M21:List ME:=⟨112,[nM,i0,vh,(.bl [[f6,f6,e6,i0,f6,i0,e6,i0,n6,n6,n6],[f6,f6,e6,i0,f6,i0,e6,i0,n6,n6,n6],[f6,f6,e6,i0,f6,i0,e6,i0,n6,n6,n6],[f6,f6,e6,i0,f6,i0,e6,i0,n6,n6,n6],[f6,f6,e6,i0,f6,i0,e6,i0,n6,n6,n6]])],none,(vq,none)⟩ :: awk_M20
theorem awk_k21:UA kA tA awk_M21:=awk_k20.more 3000 _ (by kernel_rfl)
def awk_M22:List ME:=⟨113,[vq,vq],none,(f6,none)⟩ :: awk_M21
theorem awk_k22:UA kA tA awk_M22:=awk_k21.more 3000 _ (by kernel_rfl)
def awk_M23:List ME:=⟨188,[nM,(i6 1),vr,f6],none,(t6,none)⟩ :: awk_M22
theorem awk_k23:UA kA tA awk_M23:=awk_k22.more 3000 _ (by kernel_rfl)
def awk_M24:List ME:=⟨217,[nM,(i6 1),vr],none,(i0,none)⟩ :: awk_M23
theorem awk_k24:UA kA tA awk_M24:=awk_k23.more 3000 _ (by kernel_rfl)
def awk_M25:List ME:=⟨218,[.undef,.undef,(.ptr 0 0 0),(i6 1),vr,(i6 1)],(some (.agg [lU,i0])),(e6,(some (.agg [lU,(i6 1)])))⟩ :: awk_M24
theorem awk_k25:UA kA tA awk_M25:=awk_k24.more 3000 _ (by kernel_rfl)
def awk_M26:List ME:=⟨189,[nM,(i6 1),vr],none,((.tup [i0,i0]),none)⟩ :: awk_M25
theorem awk_k26:UA kA tA awk_M26:=awk_k25.more 3000 _ (by kernel_rfl)
def awk_M27:List ME:=⟨219,[nM,(i6 1),vr],none,((.tup [e6,i0]),none)⟩ :: awk_M26
theorem awk_k27:UA kA tA awk_M27:=awk_k26.more 3000 _ (by kernel_rfl)
def awk_M28:List ME:=⟨190,[nM,(i6 1),vr],none,(e6,none)⟩ :: awk_M27
theorem awk_k28:UA kA tA awk_M28:=awk_k27.more 3000 _ (by kernel_rfl)
def awk_M29:List ME:=⟨153,[nM,(i6 1),vr],none,(vu,none)⟩ :: awk_M28
theorem awk_k29:UA kA tA awk_M29:=awk_k28.more 3000 _ (by kernel_rfl)
def awk_M30:List ME:=⟨112,[nM,(i6 1),vp,(.bl [[f6,f6,e6,i0,f6,i0,e6,i0,n6,n6,n6],[f6,f6,e6,i0,f6,i0,e6,i0,n6,n6,n6],[f6,f6,e6,i0,f6,i0,e6,i0,n6,n6,n6],[f6,f6,e6,i0,f6,i0,e6,i0,n6,n6,n6],[f6,f6,e6,i0,f6,i0,e6,i0,n6,n6,n6]])],none,(vu,none)⟩ :: awk_M29
theorem awk_k30:UA kA tA awk_M30:=awk_k29.more 3000 _ (by kernel_rfl)
def awk_M31:List ME:=⟨113,[vu,vq],none,(t6,none)⟩ :: awk_M30
theorem awk_k31:UA kA tA awk_M31:=awk_k30.more 3000 _ (by kernel_rfl)
def awk_M32:List ME:=⟨188,[nM,(i6 2),vv,f6],none,(t6,none)⟩ :: awk_M31
theorem awk_k32:UA kA tA awk_M32:=awk_k31.more 3000 _ (by kernel_rfl)
def awk_M33:List ME:=⟨217,[nM,(i6 2),vv],none,(i0,none)⟩ :: awk_M32
theorem awk_k33:UA kA tA awk_M33:=awk_k32.more 3000 _ (by kernel_rfl)
def awk_M34:List ME:=⟨218,[.undef,.undef,(.ptr 0 0 0),(i6 1),vr,(i6 2)],(some (.agg [lU,(i6 1)])),(e6,(some (.agg [lU,(i6 2)])))⟩ :: awk_M33
theorem awk_k34:UA kA tA awk_M34:=awk_k33.more 3000 _ (by kernel_rfl)
def awk_M35:List ME:=⟨218,[.undef,.undef,(.ptr 0 0 0),(i6 2),vv,(i6 1)],(some (.agg [lU,i0])),((.str (.mk #[2,0])),(some (.agg [lU,(i6 2)])))⟩ :: awk_M34
theorem awk_k35:UA kA tA awk_M35:=awk_k34.more 3000 _ (by kernel_rfl)
def awk_M36:List ME:=⟨189,[nM,(i6 2),vv],none,((.tup [(i6 2),i0]),none)⟩ :: awk_M35
theorem awk_k36:UA kA tA awk_M36:=awk_k35.more 3000 _ (by kernel_rfl)
def awk_M37:List ME:=⟨219,[nM,(i6 2),vv],none,((.tup [(.str (.mk #[2,0])),i0]),none)⟩ :: awk_M36
theorem awk_k37:UA kA tA awk_M37:=awk_k36.more 3000 _ (by kernel_rfl)
def awk_M38:List ME:=⟨190,[nM,(i6 2),vv],none,((.str (.mk #[2,0])),none)⟩ :: awk_M37
theorem awk_k38:UA kA tA awk_M38:=awk_k37.more 3000 _ (by kernel_rfl)
def awk_M39:List ME:=⟨153,[nM,(i6 2),vv],none,(vo,none)⟩ :: awk_M38
theorem awk_k39:UA kA tA awk_M39:=awk_k38.more 3000 _ (by kernel_rfl)
def awk_M40:List ME:=⟨112,[nM,(i6 2),vg,(.bl [[f6,f6,e6,i0,f6,i0,e6,i0,n6,n6,n6],[t6,f6,e6,(i6 7),f6,i0,e6,i0,n6,n6,n6],[f6,f6,e6,i0,f6,i0,e6,i0,n6,n6,n6],[f6,f6,e6,i0,f6,i0,e6,i0,n6,n6,n6],[f6,f6,e6,i0,f6,i0,e6,i0,n6,n6,n6]])],none,(vo,none)⟩ :: awk_M39
theorem awk_k40:UA kA tA awk_M40:=awk_k39.more 3000 _ (by kernel_rfl)
def awk_M41:List ME:=⟨113,[vo,vq],none,(t6,none)⟩ :: awk_M40
theorem awk_k41:UA kA tA awk_M41:=awk_k40.more 3000 _ (by kernel_rfl)
def awk_M42:List ME:=⟨188,[nM,(i6 3),vk,f6],none,(t6,none)⟩ :: awk_M41
theorem awk_k42:UA kA tA awk_M42:=awk_k41.more 3000 _ (by kernel_rfl)
def awk_M43:List ME:=⟨217,[nM,(i6 3),vk],none,(i0,none)⟩ :: awk_M42
theorem awk_k43:UA kA tA awk_M43:=awk_k42.more 3000 _ (by kernel_rfl)
def awk_M44:List ME:=⟨218,[.undef,.undef,(.ptr 0 0 0),(i6 3),vk,(i6 1)],(some (.agg [lU,i0])),((.str (.mk #[14])),(some (.agg [lU,(i6 1)])))⟩ :: awk_M43
theorem awk_k44:UA kA tA awk_M44:=awk_k43.more 3000 _ (by kernel_rfl)
def awk_M45:List ME:=⟨189,[nM,(i6 3),vk],none,((.tup [(i6 1),i0]),none)⟩ :: awk_M44
theorem awk_k45:UA kA tA awk_M45:=awk_k44.more 3000 _ (by kernel_rfl)
def awk_M46:List ME:=⟨219,[nM,(i6 3),vk],none,((.tup [(.str (.mk #[14])),i0]),none)⟩ :: awk_M45
theorem awk_k46:UA kA tA awk_M46:=awk_k45.more 3000 _ (by kernel_rfl)
def awk_M47:List ME:=⟨190,[nM,(i6 3),vk],none,((.str (.mk #[14])),none)⟩ :: awk_M46
theorem awk_k47:UA kA tA awk_M47:=awk_k46.more 3000 _ (by kernel_rfl)
def awk_M48:List ME:=⟨153,[nM,(i6 3),vk],none,(vn,none)⟩ :: awk_M47
theorem awk_k48:UA kA tA awk_M48:=awk_k47.more 3000 _ (by kernel_rfl)
def awk_M49:List ME:=⟨112,[nM,(i6 3),vt,(.bl [[f6,f6,e6,i0,f6,i0,e6,i0,n6,n6,n6],[t6,f6,e6,(i6 7),f6,i0,e6,i0,n6,n6,n6],[t6,f6,(.str (.mk #[2,0])),(i6 5),f6,i0,e6,i0,n6,vf,n6],[f6,f6,e6,i0,f6,i0,e6,i0,n6,n6,n6],[f6,f6,e6,i0,f6,i0,e6,i0,n6,n6,n6]])],none,(vn,none)⟩ :: awk_M48
theorem awk_k49:UA kA tA awk_M49:=awk_k48.more 3000 _ (by kernel_rfl)
def awk_M50:List ME:=⟨113,[vn,vq],none,(t6,none)⟩ :: awk_M49
theorem awk_k50:UA kA tA awk_M50:=awk_k49.more 3000 _ (by kernel_rfl)
def awk_M51:List ME:=⟨188,[nM,(i6 4),vj,f6],none,(t6,none)⟩ :: awk_M50
theorem awk_k51:UA kA tA awk_M51:=awk_k50.more 3000 _ (by kernel_rfl)
def awk_M52:List ME:=⟨217,[nM,(i6 4),vj],none,(i0,none)⟩ :: awk_M51
theorem awk_k52:UA kA tA awk_M52:=awk_k51.more 3000 _ (by kernel_rfl)
def awk_M53:List ME:=⟨218,[.undef,.undef,(.ptr 0 0 0),(i6 3),vk,(i6 2)],(some (.agg [lU,(i6 1)])),((.str (.mk #[14])),(some (.agg [lU,(i6 2)])))⟩ :: awk_M52
theorem awk_k53:UA kA tA awk_M53:=awk_k52.more 3000 _ (by kernel_rfl)
def awk_M54:List ME:=⟨218,[.undef,.undef,(.ptr 0 0 0),(i6 4),vj,(i6 1)],(some (.agg [lU,i0])),((.str (.mk #[2,14])),(some (.agg [lU,(i6 2)])))⟩ :: awk_M53
theorem awk_k54:UA kA tA awk_M54:=awk_k53.more 3000 _ (by kernel_rfl)
def awk_M55:List ME:=⟨189,[nM,(i6 4),vj],none,((.tup [(i6 2),i0]),none)⟩ :: awk_M54
theorem awk_k55:UA kA tA awk_M55:=awk_k54.more 3000 _ (by kernel_rfl)
def awk_M56:List ME:=⟨219,[nM,(i6 4),vj],none,((.tup [(.str (.mk #[2,14])),i0]),none)⟩ :: awk_M55
theorem awk_k56:UA kA tA awk_M56:=awk_k55.more 3000 _ (by kernel_rfl)
def awk_M57:List ME:=⟨190,[nM,(i6 4),vj],none,((.str (.mk #[2,14])),none)⟩ :: awk_M56
theorem awk_k57:UA kA tA awk_M57:=awk_k56.more 3000 _ (by kernel_rfl)
def awk_M58:List ME:=⟨153,[nM,(i6 4),vj],none,(vm,none)⟩ :: awk_M57
theorem awk_k58:UA kA tA awk_M58:=awk_k57.more 3000 _ (by kernel_rfl)
def awk_M59:List ME:=⟨113,[vm,vq],none,(t6,none)⟩ :: awk_M58
theorem awk_k59:UA kA tA awk_M59:=awk_k58.more 3000 _ (by kernel_rfl)
def awk_M60:List ME:=⟨112,[nM,(i6 4),vc,(.bl [[f6,f6,e6,i0,f6,i0,e6,i0,n6,n6,n6],[t6,f6,e6,(i6 7),f6,i0,e6,i0,n6,n6,n6],[t6,f6,(.str (.mk #[2,0])),(i6 5),f6,i0,e6,i0,n6,vf,n6],[t6,f6,(.str (.mk #[14])),(i6 2),f6,(i6 7),e6,i0,n6,n6,n6],[f6,f6,e6,i0,f6,i0,e6,i0,n6,n6,n6]])],none,(vm,none)⟩ :: awk_M59
theorem awk_k60:UA kA tA awk_M60:=awk_k59.more 3000 _ (by kernel_rfl)
def awk_M61:List ME:=⟨112,[nM,i0,vh,(.bl [[f6,f6,e6,i0,f6,i0,e6,i0,n6,n6,n6],[t6,f6,e6,(i6 7),f6,i0,e6,i0,n6,n6,n6],[t6,f6,(.str (.mk #[2,0])),(i6 5),f6,i0,e6,i0,n6,vf,n6],[t6,f6,(.str (.mk #[14])),(i6 2),f6,(i6 7),e6,i0,n6,n6,n6],[t6,f6,(.str (.mk #[2,14])),(i6 6),f6,i0,e6,(i6 2),n6,va,n6]])],none,(vq,none)⟩ :: awk_M60
theorem awk_k61:UA kA tA awk_M61:=awk_k60.more 3000 _ (by kernel_rfl)
def awk_M62:List ME:=⟨112,[nM,(i6 1),vp,(.bl [[f6,f6,e6,i0,f6,i0,e6,i0,n6,n6,n6],[t6,f6,e6,(i6 7),f6,i0,e6,i0,n6,n6,n6],[t6,f6,(.str (.mk #[2,0])),(i6 5),f6,i0,e6,i0,n6,vf,n6],[t6,f6,(.str (.mk #[14])),(i6 2),f6,(i6 7),e6,i0,n6,n6,n6],[t6,f6,(.str (.mk #[2,14])),(i6 6),f6,i0,e6,(i6 2),n6,va,n6]])],none,(vu,none)⟩ :: awk_M61
theorem awk_k62:UA kA tA awk_M62:=awk_k61.more 3000 _ (by kernel_rfl)
def awk_M63:List ME:=⟨113,[vu,vu],none,(f6,none)⟩ :: awk_M62
theorem awk_k63:UA kA tA awk_M63:=awk_k62.more 3000 _ (by kernel_rfl)
def awk_M64:List ME:=⟨112,[nM,(i6 2),vg,(.bl [[f6,f6,e6,i0,f6,i0,e6,i0,n6,n6,n6],[t6,f6,e6,(i6 7),f6,i0,e6,i0,n6,n6,n6],[t6,f6,(.str (.mk #[2,0])),(i6 5),f6,i0,e6,i0,n6,vf,n6],[t6,f6,(.str (.mk #[14])),(i6 2),f6,(i6 7),e6,i0,n6,n6,n6],[t6,f6,(.str (.mk #[2,14])),(i6 6),f6,i0,e6,(i6 2),n6,va,n6]])],none,(vo,none)⟩ :: awk_M63
theorem awk_k64:UA kA tA awk_M64:=awk_k63.more 3000 _ (by kernel_rfl)
def awk_M65:List ME:=⟨113,[vo,vo],none,(f6,none)⟩ :: awk_M64
theorem awk_k65:UA kA tA awk_M65:=awk_k64.more 3000 _ (by kernel_rfl)
def awk_M66:List ME:=⟨112,[nM,(i6 3),vt,(.bl [[f6,f6,e6,i0,f6,i0,e6,i0,n6,n6,n6],[t6,f6,e6,(i6 7),f6,i0,e6,i0,n6,n6,n6],[t6,f6,(.str (.mk #[2,0])),(i6 5),f6,i0,e6,i0,n6,vf,n6],[t6,f6,(.str (.mk #[14])),(i6 2),f6,(i6 7),e6,i0,n6,n6,n6],[t6,f6,(.str (.mk #[2,14])),(i6 6),f6,i0,e6,(i6 2),n6,va,n6]])],none,(vn,none)⟩ :: awk_M65
theorem awk_k66:UA kA tA awk_M66:=awk_k65.more 3000 _ (by kernel_rfl)
def awk_M67:List ME:=⟨113,[vn,vn],none,(f6,none)⟩ :: awk_M66
theorem awk_k67:UA kA tA awk_M67:=awk_k66.more 3000 _ (by kernel_rfl)
def awk_M68:List ME:=⟨112,[nM,(i6 4),vc,(.bl [[f6,f6,e6,i0,f6,i0,e6,i0,n6,n6,n6],[t6,f6,e6,(i6 7),f6,i0,e6,i0,n6,n6,n6],[t6,f6,(.str (.mk #[2,0])),(i6 5),f6,i0,e6,i0,n6,vf,n6],[t6,f6,(.str (.mk #[14])),(i6 2),f6,(i6 7),e6,i0,n6,n6,n6],[t6,f6,(.str (.mk #[2,14])),(i6 6),f6,i0,e6,(i6 2),n6,va,n6]])],none,(vm,none)⟩ :: awk_M67
theorem awk_k68:UA kA tA awk_M68:=awk_k67.more 3000 _ (by kernel_rfl)
def awk_M69:List ME:=⟨113,[vm,vm],none,(f6,none)⟩ :: awk_M68
theorem awk_k69:UA kA tA awk_M69:=awk_k68.more 3000 _ (by kernel_rfl)
def awk_M70:List ME:=⟨66,[nM],none,((.sl false [[f6,f6,e6,i0,f6,i0,e6,i0,n6,n6,n6],[t6,f6,e6,(i6 7),f6,i0,e6,i0,n6,n6,n6],[t6,f6,(.str (.mk #[2,0])),(i6 5),f6,i0,e6,i0,n6,vf,n6],[t6,f6,(.str (.mk #[14])),(i6 2),f6,(i6 7),e6,i0,n6,n6,n6],[t6,f6,(.str (.mk #[2,14])),(i6 6),f6,i0,e6,(i6 2),n6,va,n6]]),none)⟩ :: awk_M69
theorem awk_k70:UA kA tA awk_M70:=awk_k69.more 3000 _ (by kernel_rfl)
def awk_M71:List ME:=⟨25,[nM,(i6 2)],none,((.tup [(i6 2),i0]),none)⟩ :: awk_M70
theorem awk_k71:UA kA tA awk_M71:=awk_k70.more 3000 _ (by kernel_rfl)
def awk_M72:List ME:=⟨65,[nM,(i6 4)],none,(i0,none)⟩ :: awk_M71
theorem awk_k72:UA kA tA awk_M72:=awk_k71.more 3000 _ (by kernel_rfl)
def awk_M73:List ME:=⟨27,[nM,(i6 4)],none,((.tup [t6,i0]),none)⟩ :: awk_M72
theorem awk_k73:UA kA tA awk_M73:=awk_k72.more 3000 _ (by kernel_rfl)
def awk_M74:List ME:=⟨70,[vk],none,(vk,none)⟩ :: awk_M73
theorem awk_k74:UA kA tA awk_M74:=awk_k73.more 3000 _ (by kernel_rfl)
def awk_M75:List ME:=⟨70,[vj],none,(vj,none)⟩ :: awk_M74
theorem awk_k75:UA kA tA awk_M75:=awk_k74.more 3000 _ (by kernel_rfl)
def awk_M76:List ME:=⟨30,[nM,(i6 4)],none,((.tup [vj,i0]),none)⟩ :: awk_M75
theorem awk_k76:UA kA tA awk_M76:=awk_k75.more 3000 _ (by kernel_rfl)
def awk_M77:List ME:=⟨69,[vh,(.bl [[(i6 1073741824)],[(i6 1073741824)],[(i6 1073741824)],[(i6 1073741824)],[(i6 1073741824)]])],none,((i6 1073741824),none)⟩ :: awk_M76
theorem awk_k77:UA kA tA awk_M77:=awk_k76.more 3000 _ (by kernel_rfl)
def awk_M78:List ME:=⟨69,[vp,(.bl [[(i6 1073741824)],[(i6 1073741824)],[(i6 1073741824)],[(i6 1073741824)],[(i6 1073741824)]])],none,(i0,none)⟩ :: awk_M77
theorem awk_k78:UA kA tA awk_M78:=awk_k77.more 3000 _ (by kernel_rfl)
def awk_M79:List ME:=⟨69,[vg,(.bl [[(i6 1073741824)],[i0],[(i6 1073741824)],[(i6 1073741824)],[(i6 1073741824)]])],none,((i6 1),none)⟩ :: awk_M78
theorem awk_k79:UA kA tA awk_M79:=awk_k78.more 3000 _ (by kernel_rfl)
def awk_M80:List ME:=⟨69,[vt,(.bl [[(i6 1073741824)],[i0],[(i6 1)],[(i6 1073741824)],[(i6 1073741824)]])],none,(i0,none)⟩ :: awk_M79
theorem awk_k80:UA kA tA awk_M80:=awk_k79.more 3000 _ (by kernel_rfl)
def awk_M81:List ME:=⟨69,[vc,(.bl [[(i6 1073741824)],[i0],[(i6 1)],[i0],[(i6 1073741824)]])],none,((i6 1),none)⟩ :: awk_M80
theorem awk_k81:UA kA tA awk_M81:=awk_k80.more 3000 _ (by kernel_rfl)
def awk_M82:List ME:=⟨69,[vh,(.bl [[(i6 1073741824)],[i0],[(i6 1)],[i0],[(i6 1)]])],none,((i6 1073741824),none)⟩ :: awk_M81
theorem awk_k82:UA kA tA awk_M82:=awk_k81.more 3000 _ (by kernel_rfl)
def awk_M83:List ME:=⟨69,[vp,(.bl [[(i6 1073741824)],[i0],[(i6 1)],[i0],[(i6 1)]])],none,(i0,none)⟩ :: awk_M82
theorem awk_k83:UA kA tA awk_M83:=awk_k82.more 3000 _ (by kernel_rfl)
def awk_M84:List ME:=⟨69,[vg,(.bl [[(i6 1073741824)],[i0],[(i6 1)],[i0],[(i6 1)]])],none,((i6 1),none)⟩ :: awk_M83
theorem awk_k84:UA kA tA awk_M84:=awk_k83.more 3000 _ (by kernel_rfl)
def awk_M85:List ME:=⟨69,[vt,(.bl [[(i6 1073741824)],[i0],[(i6 1)],[i0],[(i6 1)]])],none,(i0,none)⟩ :: awk_M84
theorem awk_k85:UA kA tA awk_M85:=awk_k84.more 3000 _ (by kernel_rfl)
def awk_M86:List ME:=⟨69,[vc,(.bl [[(i6 1073741824)],[i0],[(i6 1)],[i0],[(i6 1)]])],none,((i6 1),none)⟩ :: awk_M85
theorem awk_k86:UA kA tA awk_M86:=awk_k85.more 3000 _ (by kernel_rfl)
def awk_M87:List ME:=⟨29,[nM],none,((.tup [vw,i0]),none)⟩ :: awk_M86
theorem awk_k87:UA kA tA awk_M87:=awk_k86.more 3000 _ (by kernel_rfl)
def awk_M88:List ME:=⟨33,[nM],none,((i6 10),none)⟩ :: awk_M87
theorem awk_k88:UA kA tA awk_M88:=awk_k87.more 3000 _ (by kernel_rfl)
def awk_M89:List ME:=⟨32,[(.sl false [[f6],[t6],[t6],[t6],[t6]]),(.sl false [[f6],[t6],[t6],[t6],[t6]])],none,(t6,none)⟩ :: awk_M88
theorem awk_k89:UA kA tA awk_M89:=awk_k88.more 3000 _ (by kernel_rfl)
def awk_M90:List ME:=⟨36,[vj,vj],none,(t6,none)⟩ :: awk_M89
theorem awk_k90:UA kA tA awk_M90:=awk_k89.more 3000 _ (by kernel_rfl)
def awk_M91:List ME:=⟨60,[vw,vw],none,(t6,none)⟩ :: awk_M90
theorem awk_k91:UA kA tA awk_M91:=awk_k90.more 3000 _ (by kernel_rfl)
theorem awk_knows:UA kA tA awk_M91:=awk_k91
section
open Go.ChangeShapes Go.WideShapes Go.ChangeAt Go.RowKit
theorem own:ownKnob Tryz.prog.godebug=none:=by kernel_rfl
theorem laidOut:laidOutB Tryz.prog=true:=by kernel_rfl
theorem nR {H:Type} {enc:TypeId × Value->H} {P:Program} {f:Func} {s:ChangeSpec} {apart fresh ux:Bool} {W W':World} {args:Array Value} {v:Value} {ds gs:List (DataW H)} {before pa pv:List MemPlace}
  (hW:DataW.Whole enc P f.params.toList s.vars apart W args.toList ds gs before)
  (ae:∀ (b:Nat) (sp:Nat->Bool) (hd:Bool),DataW.TrodAll enc P W' b sp hd f.resultTypes.toList (v.resultList f.resultTypes.size) (s.fn H (ds++gs)).results [])
  (fc:DataW.TrodAll enc P W' 0 (fun b=>decide (b<W.heap.size)) true f.params.toList args.toList (s.fn H (ds++gs)).args pa)
  (hvars:DataW.TrodVars enc P W' (fun b=>decide (b<W.heap.size)) s.vars (s.fn H (ds++gs)).vars pv)
  (hb:Below W.heap.size W W'):s.post enc P f apart fresh ux false W args v W' :=
 ⟨ds,gs,before,[],pa,pv,hW,ae _ _ _,fc,hvars,hb.frame _,fun h=>by cases h⟩
end
end Go.Proofs.YtjoaiabjebpbjaaGreat
