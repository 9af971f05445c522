/- A part of the proof. -/
import Derived.Test.YtbnlmgncbgaepaaGreatYb
import Derived.Deep.Slices
import Derived.Deep.Fields
import Derived.ChangeSame
import Derived.OpenShut
import Derived.Carry
import Derived.ChangeOld
import Derived.SizedLaws
import Derived.Test.YtbnlmgncbgaepaaGreatChecked
import Derived.Lib.Builder
import Derived.Lib.UnsafeStr
import Derived.Shelf.RegionOpenPlain
import Derived.ProofKit
import Derived.JoinedCond
set_option linter.all false
set_option maxRecDepth 100000
set_option maxHeartbeats 8000000
open Option renaming bind_some → V, bind_eq_some_iff → y7, map_eq_some_iff → yf
open List renaming getElem?_eq_getElem → y4, all_eq_true → y5, getElem_mem → y6, drop_eq_getElem_cons → y9, getElem?_eq_some_iff → yb, getElem?_map → yc, drop_eq_nil_of_le → ye, mem_cons → yh, mem_of_getElem? → yk, mem_cons_self → yl, map_congr_left → ym, length_map → yo, length_append → yp, mem_cons_of_mem → yr, mem_append → yw, length_take → yz, mem_map → yA, getElem_of_mem → yB, take_of_length_le → yD, length_cons → yE, flatten_cons → yF, mem_singleton → yO, map_append → yU, getElem?_append_right → yW, append_assoc → yY, mem_map_of_mem → Y01
open Bool renaming and_eq_true → y8, false_eq_true → yq
open Nat renaming le_refl → yn, succ_mul → yu, le_trans → yC, zero_add → yH, mul_le_mul_right → Y00
namespace Go.Proofs.YtbnlmgncbgaepaaGreat
open Go
section
section
variable {α:Type}
def xB (p:Nat->Prop):Prop:=∃ n,∀ m,n<=m->p m
theorem xB.and {p q:Nat->Prop} (h:xB p) (h':xB q):xB fun m=>p m/\q m:=by
 obtain ⟨n,h⟩:=h;obtain ⟨n',h'⟩:=h';exact ⟨max n n',fun m hm=>⟨h m (by omega),h' m (by omega)⟩⟩
theorem xB.imp {p q:Nat->Prop} (h:xB p) (hi:∀ m,p m->q m):xB q:=by
 obtain ⟨n,h⟩:=h;exact ⟨n,fun m hm=>hi m (h m hm)⟩
theorem xB.now {p:Prop} (h:p):xB fun _=>p:=⟨0,fun _ _=>h⟩
theorem xB.succ {p:Nat->Prop} (h:xB p):xB fun m=>p (m + 1):=by
 obtain ⟨n,h⟩:=h;exact ⟨n,fun m hm=>h (m + 1) (by omega)⟩
theorem xB.pred {p:Nat->Prop} (h:xB fun m=>p (m + 1)):xB p:=by
 obtain ⟨n,h⟩:=h;exact ⟨n + 1,fun m hm=>by have:=h (m - 1) (by omega); simp only at this; rwa [show m - 1 + 1=m from by omega] at this⟩
theorem xB.some {p:Nat->Prop} (h:xB p):∃ m,p m:=by
 obtain ⟨n,h⟩:=h;exact ⟨n,h n (yn _)⟩
theorem F8 {s:pA} {callA:aB} {callB:Nat->aB} (hc:∀ f args S r,callA f args S=some r->xB fun m=>callB m f args S=some r) (k:K) {xe:qA × tD} (h:k.run callA s=some xe):xB fun m=>k.run (callB m) s=some xe:=by
 cases k with
 | call cl f xs =>
  simp only [K.run] at h ⊢;cases hl:jE s cl xs with
  | none=>rw [hl] at h; cases h
  | some vs =>
   rw [hl] at h;simp only [V] at h ⊢;split at h
   ·obtain ⟨r,hr,h⟩:=y7.1 h;exact (hc f vs _ r hr).imp fun m hm=>by rw [hm]; exact h
   ·obtain ⟨r,hr,h⟩:=y7.1 h;exact (hc f vs _ r hr).imp fun m hm=>by rw [hm]; exact h
   ·cases h
 | callf cl f z xs =>
  simp only [K.run] at h ⊢;cases hl:jE s cl xs with
  | none=>rw [hl] at h; cases h
  | some vs =>
   rw [hl] at h;simp only [V] at h ⊢;split at h
   ·obtain ⟨r,hr,h⟩:=y7.1 h;exact (hc f (.undef :: vs) _ r hr).imp fun m hm=>by rw [hm]; exact h
   ·cases h
 | callv cl x xs =>
  simp only [K.run] at h ⊢;split at h
  ·rename_i f cs hx
   try simp only [hx]
   split at h
   ·rename_i vs ws hl hw ho
    try simp only [hl,hw,ho]
    obtain ⟨r,hr,h⟩:=y7.1 h;exact (hc f (vs++ws) _ r hr).imp fun m hm=>by rw [hm]; exact h
   ·cases h
  ·cases h
 | callr cl f xs =>
  simp only [K.run] at h ⊢;split at h
  ·rename_i t n hp
   try simp only [hp]
   split at h
   ·rename_i la;simp only [if_pos la];split at h
    ·rename_i r vs hr hv
     try simp only [hr,hv]
     split at h
     ·rename_i ta;simp only [if_pos ta];obtain ⟨q,hq,h⟩:=y7.1 h;exact (hc f _ _ q hq).imp fun m hm=>by rw [hm]; exact h
     ·cases h
    ·cases h
   ·cases h
  ·cases h
 | _=>exact xB.now h
theorem step_late {s s1:pA} {callA:aB} {callB:Nat->aB} (hc:∀ f args S r,callA f args S=some r->xB fun m=>callB m f args S=some r) (o:EA) (h1:o.step callA s=some s1):xB fun m=>o.step (callB m) s=some s1:=by
 unfold EA.step at h1 ⊢;cases hg:o.guard with
 | none =>
  rw [hg] at h1;simp only at h1 ⊢;obtain ⟨xe,hx,he⟩:=y7.1 h1;exact (F8 hc o.op hx).imp fun m hm=>by rw [hm]; exact he
 | some p =>
  obtain ⟨t,want⟩:=p;rw [hg] at h1;simp only at h1 ⊢;cases hv:(s.env t).v with
  | bool b =>
   rw [hv] at h1;simp only at h1 ⊢;by_cases hb:b=want
   ·rw [if_pos hb] at h1;simp only [if_pos hb];obtain ⟨xe,hx,he⟩:=y7.1 h1;exact (F8 hc o.op hx).imp fun m hm=>by rw [hm]; exact he
   ·rw [if_neg hb] at h1;simp only [if_neg hb];exact xB.now h1
  | tup l=>rw [hv] at h1; cases l with
   | nil=>exact xB.now h1
   | cons=>cases h1
  | _=>rw [hv] at h1; cases h1
def DU (hA:HpT) (hB:Nat->HpT):Prop:=∀ f xs s k r (km:Nat->qA->pA->Option RV),(∀ y s' r',k y s'=some r'->xB fun m=>km m y s'=some r')->hA f xs s k=some r->xB fun m=>hB m f xs s (km m)=some r
theorem CW {s:pA} {lhA:LH} {lhB:Nat->LH} (hh:DU lhA.h fun m=>(lhB m).h) (d:Option Nat) (nt:Nat) (x:FB) (xs:List FB) {k:pA->Option RV} {r:RV} {km:Nat->pA->Option RV} (hk:∀ s' r',k s'=some r'->xB fun m=>km m s'=some r') (h:OO lhA d nt x xs s k=some r):xB fun m=>OO (lhB m) d nt x xs s (km m)=some r:=by
 unfold OO at h ⊢;split at h
 ·rename_i f cs hx
  try simp only [hx]
  exact hh _ _ _ _ _ (fun m y s'=>km m ((s'.leave nt).put d y)) (fun y s' r' h'=>hk _ _ h') h
 ·cases h
theorem xB.all {l:List Nat} {Q:Nat->Nat->Prop} (h:∀ i∈l,xB fun m=>Q i m):xB fun m=>∀ i∈l,Q i m:=by
 induction l with
 | nil=>exact ⟨0,fun m _ i hi=>by cases hi⟩
 | cons a r ih =>
  refine ((h a yl).and (ih fun i hi=>h i (yr _ hi))).imp fun m hm i hi=>?_
  rcases yh.1 hi with rfl | hi
  ·exact hm.1
  ·exact hm.2 i hi
theorem xX {s:pA} (d:Option Nat) (x:FB) {k:pA->Option RV} {r:RV} {km:Nat->pA->Option RV} (hk:∀ s' r',k s'=some r'->xB fun m=>km m s'=some r') (h:IS d x s k=some r):xB fun m=>IS d x s (km m)=some r:=by
 unfold IS at h ⊢;split at h
 ·rename_i t n hx
  try simp only [hx]
  split at h
  ·rename_i tm nm N seen hi
   try simp only [hi]
   split at h
   ·rename_i L hL
    try simp only [hL]
    split at h
    ·rename_i hN
     try simp only [hN,if_true]
     obtain ⟨h1,h2⟩:=qT _ h;have tl:=xB.all (Q:=fun i m=>(match L[i]? with | some [y,v]=>if y.flat&&v.flat then km m ((s.setObj t n (SY tm nm N (seen++[i]))).put d ⟨.tup [.bool true,y,v],.no⟩) else none | _=>none)=some r) fun i ac=>by
      have:=h2 i ac;split at this
      ·rename_i y v hy;split at this
       ·rename_i hf;simp only [hy,hf,if_true];exact hk _ _ this
       ·cases this
      ·cases this
     by_cases he:(List.range N).filter (fun i=>!seen.contains i)=[]
     ·refine (hk _ _ (h1 he)).imp fun m hm=>TR _ (fun _=>hm) fun i ac=>?_
      rw [he] at ac;cases ac
     ·exact tl.imp fun m hm=>TR _ (fun e=>absurd e he) hm
    ·cases h
   ·cases h
  ·cases h
 ·cases h
theorem nY {s:pA} {callA:aB} {callB:Nat->aB} {lhA:LH} {lhB:Nat->LH} (hc:∀ f args S r,callA f args S=some r->xB fun m=>callB m f args S=some r) (hh:DU lhA.h fun m=>(lhB m).h) (o:EA) {k:pA->Option RV} {r:RV} {km:Nat->pA->Option RV} (hk:∀ s' r',k s'=some r'->xB fun m=>km m s'=some r') (h:o.stepK callA lhA s k=some r):xB fun m=>o.stepK (callB m) (lhB m) s (km m)=some r:=by
 obtain ⟨d,op,g⟩:=o;by_cases eb:isH op=true
 ·cases op with
  | callh nt x xs =>
   simp only [EA.stepK,UH] at h ⊢;cases g with
   | none=>exact CW hh d nt x xs hk h
   | some p =>
    obtain ⟨t,want⟩:=p;simp only at h ⊢;cases hv:(s.env t).v with
    | bool b =>
     rw [hv] at h;simp only at h ⊢;by_cases hb:b=want
     ·rw [if_pos hb] at h;simp only [if_pos hb];exact CW hh d nt x xs hk h
     ·rw [if_neg hb] at h;simp only [if_neg hb];exact hk _ _ h
    | tup l=>rw [hv] at h; cases l with
     | nil=>exact hk _ _ h
     | cons=>cases h
    | _=>rw [hv] at h; cases h
  | nxt x =>
   simp only [EA.stepK,UH] at h ⊢;cases g with
   | none=>exact xX d x hk h
   | some p =>
    obtain ⟨t,want⟩:=p;simp only at h ⊢;cases hv:(s.env t).v with
    | bool b =>
     rw [hv] at h;simp only at h ⊢;by_cases hb:b=want
     ·rw [if_pos hb] at h;simp only [if_pos hb];exact xX d x hk h
     ·rw [if_neg hb] at h;simp only [if_neg hb];exact hk _ _ h
    | tup l=>rw [hv] at h; cases l with
     | nil=>exact hk _ _ h
     | cons=>cases h
    | _=>rw [hv] at h; cases h
  | _=>cases eb
 ·have eb:isH op=false:=by simpa using eb
  rw [rH eb] at h;obtain ⟨s1,h1,h2⟩:=y7.1 h;exact ((step_late hc ⟨d,op,g⟩ h1).and (hk _ _ h2)).imp fun m hm=>by rw [rH eb,hm.1]; exact hm.2
theorem s8 {callA:aB} {callB:Nat->aB} {lhA:LH} {lhB:Nat->LH} (hc:∀ f args S r,callA f args S=some r->xB fun m=>callB m f args S=some r) (hh:DU lhA.h fun m=>(lhB m).h):∀ (ops:List EA) {s:pA} {k:pA->Option RV} {r:RV} {km:Nat->pA->Option RV},(∀ s' r',k s'=some r'->xB fun m=>km m s'=some r')->IF callA lhA ops s k=some r->xB fun m=>IF (callB m) (lhB m) ops s (km m)=some r
 | [],s,k,r,km,hk,h=>hk _ _ h
 | o :: l,s,k,r,km,hk,h=>nY hc hh o (km:=fun m s=>IF (callB m) (lhB m) l s (km m)) (fun s' r' h'=>s8 hc hh l hk h') h
theorem FD {callA:aB} {lpA:LH} {callB:Nat->aB} {sV:Nat->LH} (hc:∀ f args S r,callA f args S=some r->xB fun m=>callB m f args S=some r) (hh:DU lpA.h fun m=>(sV m).h)
  (hl:∀ b s k r (km:Nat->Ex->pA->Option RV),(∀ e s' r',k e s'=some r'->xB fun m=>km m e s'=some r')->lpA b s k=some r->xB fun m=>sV m b s (km m)=some r) :
  ∀ (c:C) (s:pA) (k:Ex->pA->Option RV) (r:RV) (km:Nat->Ex->pA->Option RV),(∀ e s' r',k e s'=some r'->xB fun m=>km m e s'=some r')->c.run callA lpA s k=some r->xB fun m=>c.run (callB m) (sV m) s (km m)=some r
 | .skip,s,k,r,km,hk,h=>hk _ _ _ h
 | .exit id,s,k,r,km,hk,h=>hk _ _ _ h
 | .ret,s,k,r,km,hk,h=>hk _ _ _ h
 | .seq a b,s,k,r,km,hk,h=>by
  refine FD hc hh hl a s _ r (fun m e s'=>match e with | .nrm=>b.run (callB m) (sV m) s' (km m) | e=>km m e s') (fun e s' r' h'=>?_) h;cases e with
  | nrm=>exact FD hc hh hl b s' k r' km hk h'
  | exit id=>exact hk _ _ _ h'
  | ret=>exact hk _ _ _ h'
 | .reg ops,s,k,r,km,hk,h=>by
  simp only [C.run] at h ⊢;exact s8 hc hh ops (km:=fun m s=>km m .nrm { s with next:=s.next + 1 }) (fun s' r' h'=>hk _ _ _ h') h
 | .cond x t e,s,k,r,km,hk,h=>by
  simp only [C.run] at h ⊢;cases hv:x.get s with
  | bool b =>
   rw [hv] at h;cases b with
   | true=>exact FD hc hh hl t s k r km hk (by simpa using h)
   | false=>exact FD hc hh hl e s k r km hk (by simpa using h)
  | _=>rw [hv] at h; cases h
 | .block id b,s,k,r,km,hk,h=>by
  refine FD hc hh hl b s _ r (fun m e s'=>match e with | .exit j=>if j=id then km m .nrm s' else km m (.exit j) s' | e=>km m e s') (fun e s' r' h'=>?_) h;cases e with
  | nrm=>exact hk _ _ _ h'
  | ret=>exact hk _ _ _ h'
  | exit j =>
   simp only at h' ⊢;by_cases e:j=id
   ·rw [if_pos e] at h'; simp only [if_pos e]; exact hk _ _ _ h'
   ·rw [if_neg e] at h'; simp only [if_neg e]; exact hk _ _ _ h'
 | .loop b,s,k,r,km,hk,h=>hl b s k r km hk h
variable {T:Nat->Option qB} {ext:aB}
theorem l9 {ext':aB} (hx:∀ f args S r,ext f args S=some r->ext' f args S=some r):∀ N,(∀ f args S r,jD T ext N f args S=some r->xB fun m=>jD T ext' m f args S=some r) ∧
  (∀ b s k r (km:Nat->Ex->pA->Option RV),(∀ e s' r',k e s'=some r'->xB fun m=>km m e s'=some r')->OJ T ext N b s k=some r->xB fun m=>OJ T ext' m b s (km m)=some r) ∧
  DU (FL T ext N) (FL T ext')
 | 0=>by
  refine ⟨fun f args S r h=>⟨0,fun m _=>?_⟩,fun b s k r km _ h=>(by cases h),fun f xs s k r km _ h=>(by cases h)⟩;unfold jD at h;cases hT:T f with
  | none=>rw [hT] at h; cases m <;> (unfold jD; rw [hT]; exact hx _ _ _ _ h)
  | some c=>rw [hT] at h; cases h
 | N + 1=>by
  obtain ⟨dp,ml,jp⟩:=l9 hx N;refine ⟨?_,?_,?_⟩
  ·intro f args S0 r h;unfold jD at h;cases hT:T f with
   | none=>rw [hT] at h; exact ⟨0,fun m _=>by cases m <;> (unfold jD; rw [hT]; exact hx _ _ _ _ h)⟩
   | some c =>
    rw [hT] at h;cases hm:kP args with
    | some rest =>
     cases S0 with
     | none=>rw [hm] at h; cases h
     | some S =>
      cases S with
      | agg cs =>
       rw [hm] at h;simp only at h;split at h
       ·rename_i hl;refine xB.pred ((FD (lpA:=⟨OJ T ext N,FL T ext N⟩) (sV:=fun m=>⟨OJ T ext' m,FL T ext' m⟩) dp jp ml c.code _ _ r (fun _=>WL c cs.length) (fun e s' r' h'=>xB.now h') h).imp fun m jd=>?_);unfold jD;rw [hT];simp only [hm];rw [if_pos hl];exact jd
       ·cases h
      | _=>rw [hm] at h; cases h
    | none =>
     rw [hm] at h;simp only at h;split at h
     ·rename_i hl;refine xB.pred ((FD (lpA:=⟨OJ T ext N,FL T ext N⟩) (sV:=fun m=>⟨OJ T ext' m,FL T ext' m⟩) dp jp ml c.code _ _ r (fun _=>XN c S0) (fun e s' r' h'=>xB.now h') h).imp fun m jd=>?_);unfold jD;rw [hT];simp only [hm];rw [if_pos hl];exact jd
     ·cases h
  ·intro b s k r km hk h;unfold OJ at h;refine xB.pred ((FD (lpA:=⟨OJ T ext N,FL T ext N⟩) (sV:=fun m=>⟨OJ T ext' m,FL T ext' m⟩) dp jp ml b s _ r (fun m=>PJ (OJ T ext' m) b (km (m + 1))) (fun e s' r' h'=>?_) h).imp fun m hm=>?_)
   ·cases e with
    | nrm=>exact ml b s' k r' (fun m=>km (m + 1)) (fun e s'' r'' h''=>(hk e s'' r'' h'').succ) h'
    | exit id=>exact (hk _ _ _ h').succ
    | ret=>exact (hk _ _ _ h').succ
   ·unfold OJ;exact hm
  ·intro f xs s k r km hk h;unfold FL at h;cases hT:T f with
   | none=>rw [hT] at h; cases h
   | some c =>
    rw [hT] at h;simp only at h;split at h
    ·rename_i hl;refine xB.pred ((FD (lpA:=⟨OJ T ext N,FL T ext N⟩) (sV:=fun m=>⟨OJ T ext' m,FL T ext' m⟩) dp jp ml c.code _ _ r (fun m=>rL c (km (m + 1))) (fun e s' r' h'=>?_) h).imp fun m hm=>?_)
     ·cases e with
      | exit id=>cases h'
      | nrm =>
       simp only [rL] at h' ⊢;obtain ⟨y,hy,h'⟩:=y7.1 h';simp only [hy,V];exact (hk _ _ _ h').succ
      | ret =>
       simp only [rL] at h' ⊢;obtain ⟨y,hy,h'⟩:=y7.1 h';simp only [hy,V];exact (hk _ _ _ h').succ
     ·unfold FL;rw [hT];simp only;rw [if_pos hl];exact hm
    ·cases h
theorem XL:∀ N,(∀ f args S r,jD T ext N f args S=some r->xB fun m=>jD T ext m f args S=some r) ∧
  (∀ b s k r (km:Nat->Ex->pA->Option RV),(∀ e s' r',k e s'=some r'->xB fun m=>km m e s'=some r')->OJ T ext N b s k=some r->xB fun m=>OJ T ext m b s (km m)=some r)/\DU (FL T ext N) (FL T ext):=l9 fun _ _ _ _ h=>h
open Classical in
noncomputable def UF (T:Nat->Option qB) (ext:aB) (f:Nat) (args:List AV) (S0:Option AV):Option RV:=if h:∃ r n,jD T ext n f args S0=some r then some h.choose else none
open Classical in
noncomputable def TH (T:Nat->Option qB) (ext:aB):LpT:=fun b s k=>if h:∃ r n,OJ T ext n b s k=some r then some h.choose else none
open Classical in
noncomputable def i7 (T:Nat->Option qB) (ext:aB):HpT:=fun f xs s k=>if h:∃ r n,FL T ext n f xs s k=some r then some h.choose else none
noncomputable def KJ (T:Nat->Option qB) (ext:aB):LH:=⟨TH T ext,i7 T ext⟩
theorem dG {f:Nat} {args:List AV} {S0:Option AV} {r:RV}:UF T ext f args S0=some r ↔ ∃ n,jD T ext n f args S0=some r:=by
 unfold UF;constructor
 ·intro h;split at h
  ·rename_i hh; injection h with h; exact h ▸ hh.choose_spec
  ·cases h
 ·rintro ⟨n,hn⟩;have hh:∃ r n,jD T ext n f args S0=some r:=⟨r,n,hn⟩;rw [dif_pos hh];obtain ⟨n',zh⟩:=hh.choose_spec;obtain ⟨m,h1,h2⟩:=(((XL n).1 f args S0 r hn).and ((XL n').1 f args S0 _ zh)).some;rw [h1] at h2;exact h2.symm
theorem FW {b:C} {s:pA} {k:Ex->pA->Option RV} {r:RV}:TH T ext b s k=some r ↔ ∃ n,OJ T ext n b s k=some r:=by
 unfold TH;constructor
 ·intro h;split at h
  ·rename_i hh; injection h with h; exact h ▸ hh.choose_spec
  ·cases h
 ·rintro ⟨n,hn⟩;have hh:∃ r n,OJ T ext n b s k=some r:=⟨r,n,hn⟩;rw [dif_pos hh];obtain ⟨n',zh⟩:=hh.choose_spec;obtain ⟨m,h1,h2⟩:=(((XL n).2.1 b s k r (fun _=>k) (fun e s' r' h=>xB.now h) hn).and ((XL n').2.1 b s k _ (fun _=>k) (fun e s' r' h=>xB.now h) zh)).some;rw [h1] at h2;exact h2.symm
theorem DW {f:Nat} {xs:List qA} {s:pA} {k:qA->pA->Option RV} {r:RV}:i7 T ext f xs s k=some r ↔ ∃ n,FL T ext n f xs s k=some r:=by
 unfold i7;constructor
 ·intro h;split at h
  ·rename_i hh; injection h with h; exact h ▸ hh.choose_spec
  ·cases h
 ·rintro ⟨n,hn⟩;have hh:∃ r n,FL T ext n f xs s k=some r:=⟨r,n,hn⟩;rw [dif_pos hh];obtain ⟨n',zh⟩:=hh.choose_spec;obtain ⟨m,h1,h2⟩:=(((XL n).2.2 f xs s k r (fun _=>k) (fun e s' r' h=>xB.now h) hn).and ((XL n').2.2 f xs s k _ (fun _=>k) (fun e s' r' h=>xB.now h) zh)).some;rw [h1] at h2;exact h2.symm
theorem SW {ext':aB} (hx:∀ f args S r,ext f args S=some r->ext' f args S=some r) {f:Nat} {args:List AV} {S0:Option AV} {r:RV} (h:UF T ext f args S0=some r):UF T ext' f args S0=some r:=by
 obtain ⟨n,hn⟩:=dG.1 h;exact dG.2 ((l9 hx n).1 f args S0 r hn).some
theorem iS (f:Nat) (args:List AV) (S0:Option AV) (r:RV) (h:UF T ext f args S0=some r):xB fun m=>jD T ext m f args S0=some r:=by
 obtain ⟨n,hn⟩:=dG.1 h;exact (XL n).1 f args S0 r hn
theorem o7 (b:C) (s:pA) (k:Ex->pA->Option RV) (r:RV) (km:Nat->Ex->pA->Option RV) (hk:∀ e s' r',k e s'=some r'->xB fun m=>km m e s'=some r') (h:TH T ext b s k=some r):xB fun m=>OJ T ext m b s (km m)=some r:=by
 obtain ⟨n,hn⟩:=FW.1 h;exact (XL n).2.1 b s k r km hk hn
theorem ev_late3:DU (i7 T ext) (FL T ext):=fun f xs s k r km hk h=>by
 obtain ⟨n,hn⟩:=DW.1 h;exact (XL n).2.2 f xs s k r km hk hn
theorem uS (c:C) (s:pA) (k:Ex->pA->Option RV) (r:RV) (km:Nat->Ex->pA->Option RV) (hk:∀ e s' r',k e s'=some r'->xB fun m=>km m e s'=some r') (h:c.run (UF T ext) (KJ T ext) s k=some r):xB fun m=>c.run (jD T ext m) ⟨OJ T ext m,FL T ext m⟩ s (km m)=some r :=
 FD (lpA:=KJ T ext) (sV:=fun m=>⟨OJ T ext m,FL T ext m⟩) iS ev_late3 o7 c s k r km hk h
theorem PT {f:Nat} {args:List AV} {S0:Option AV} {r:RV} (c:qB) (hT:T f=some c) (hl:args.length=c.np) (h:c.code.run (UF T ext) (KJ T ext) (pA.init args S0) (XN c S0)=some r) (hm:UI args=false:=by rfl) (hS:noItO S0=true:=by rfl):UF T ext f args S0=some r:=by
 obtain ⟨m,jd⟩:=(uS c.code _ _ r (fun _=>XN c S0) (fun e s' r' h'=>xB.now h') h).some;refine dG.2 ⟨m + 1,?_⟩;have hR:kP args=none:=by
  unfold kP;split
  ·cases hm
  ·rfl
 unfold jD;rw [hT];simp only [hR];rw [if_pos ⟨hl,hm,hS⟩];exact jd
theorem sR {f:Nat} {args cs:List AV} {r:RV} (c:qB) (hT:T f=some c) (hl:args.length=c.np) (h:c.code.run (UF T ext) (KJ T ext) (pA.initR args cs) (WL c cs.length)=some r) (hm:UI args=false:=by rfl):UF T ext f (.undef :: .undef :: args) (some (.agg cs))=some r:=by
 obtain ⟨m,jd⟩:=(uS c.code _ _ r (fun _=>WL c cs.length) (fun e s' r' h'=>xB.now h') h).some;refine dG.2 ⟨m + 1,?_⟩;unfold jD;rw [hT];simp only [kP];rw [if_pos ⟨hl,hm⟩];exact jd
theorem zH {f:Nat} {xs:List qA} {s:pA} {k:qA->pA->Option RV} {r:RV} (c:qB) (hT:T f=some c) (hl:xs.length=c.np) (h:c.code.run (UF T ext) (KJ T ext) (s.initH xs) (rL c k)=some r):i7 T ext f xs s k=some r:=by
 obtain ⟨m,jd⟩:=(uS c.code _ _ r (fun _=>rL c k) (fun e s' r' h'=>xB.now h') h).some;refine DW.2 ⟨m + 1,?_⟩;unfold FL;rw [hT];simp only;rw [if_pos hl];exact jd
theorem evC_ext {f:Nat} {args:List AV} {S0:Option AV} {r:RV} (hT:T f=none) (h:ext f args S0=some r):UF T ext f args S0=some r:=by
 refine dG.2 ⟨0,?_⟩;unfold jD;rw [hT];exact h
theorem tA {b:C} {s:pA} {k:Ex->pA->Option RV} {r:RV} (h:b.run (UF T ext) (KJ T ext) s (PJ (TH T ext) b k)=some r):TH T ext b s k=some r:=by
 have:=uS b s _ r (fun m=>PJ (OJ T ext m) b k) (fun e s' r' h'=>by
  cases e with
  | nrm=>exact o7 b s' k r' (fun _=>k) (fun e s'' r'' h''=>xB.now h'') h'
  | exit id=>exact xB.now h'
  | ret=>exact xB.now h') h
 obtain ⟨m,hm⟩:=this.some;refine FW.2 ⟨m + 1,?_⟩;unfold OJ;exact hm
theorem pS {P:Program} {O:uH} (hm:P.follows .mixedOrders=true) (hT:∀ f c,T f=some c->nA P f c) (nr:∀ f args S r,ext f args S=some r->rD P O f args S r) {f:Nat} {args:List AV} {S0:Option AV} {r:RV} (h:UF T ext f args S0=some r):rD P O f args S0 r:=by
 obtain ⟨n,hn⟩:=dG.1 h;exact (EW hm hT nr n).1 f args S0 r hn
end
end
section
open Go Go.RowKit Go.ChangeShapes Go.WideShapes Go.Deep
section
variable {H:Type} {enc:TypeId × Value->H} {P:Program} {w:World} {base:Nat} {spare:Nat->Bool} {held:Bool}
theorem Rows_of {av:Av} {b sz:Nat}:∀ {els:List (List AV)} {off:Nat},(∀ kc∈els,kc.length=sz)->(∀ (i:Nat) (kc:List AV),els[i]?=some kc->lE av w kc b (off + i * sz))->aH av w els b off
 | [],_,_,_=>by simp [aH]
 | kc :: r,off,hl,h=>by
  simp only [aH];have h0:=h 0 kc rfl;rw [Nat.zero_mul,Nat.add_zero] at h0;refine ⟨h0,Rows_of (fun x hx=>hl x (yr _ hx)) fun i x hx=>?_⟩;have:=h (i + 1) x (by simpa using hx);rw [hl kc yl,show off + sz + i * sz=off + (i + 1) * sz from by rw [yu]; omega];exact this
abbrev Av0:Av:=fun _ _=>False
end
end
section
open Go Go.RowKit Go.ChangeShapes Go.WideShapes Go.Deep
def kM (P:Program) (t:TypeId):Bool:=match P.underlying t with
 | some (.struct _) | some (.array ..)=>true
 | _=>false
section
variable {H:Type} {enc:TypeId × Value->H} {P:Program} {w:World} {base:Nat} {spare:Nat->Bool} {held:Bool}
theorem zZ (hl:laidOutB P=true) {W W':World} (hb:Below W.heap.size W W'):∀ {ts:List TypeId} {vs:List Value} {ds:List (DataW H)} {p:List MemPlace},DataW.TrodAll enc P W 0 (fun _=>true) true ts vs ds p->ts.all (fun t=>P.readableRec t&&decide (t<P.types.size))=true →
  DataW.TrodAll enc P W' 0 (fun b=>decide (b<W.heap.size)) true ts vs ds p
 | [],vs,ds,p,h,_=>by
  cases vs with
  | nil=>cases ds with
   | nil=>exact h
   | cons=>exact h.elim
  | cons=>cases ds <;> exact h.elim
 | t :: ts,vs,ds,p,h,hs=>by
  have fa:=DataW.TrodAll.lt h;obtain ⟨v,bv,d,ds',p',q',rfl,rfl,rfl,h0,h⟩:=trodAll_cons h;simp only [List.all_cons,y8,decide_eq_true_eq] at hs;exact trodAll_cons_mk (Below.trod hl hs.1.1 hs.1.2 h0 hb fun x hx=>fa x (List.mem_append_left _ hx)) (zZ hl hb h hs.2)
end
end
section
open Go Go.RowKit Go.ChangeShapes Go.WideShapes Go.Deep
def NO (P:Program) (r:TypeId->List AV->Prop):List Field->List AV->Prop
 | [],kc=>kc=[]
 | f :: fs,kc=>∃ a b,kc=a++b/\a.length=P.cellsOf f.type/\r f.type a/\NO P r fs b
def ArrT (P:Program) (r:TypeId->List AV->Prop) (e:TypeId):Nat->List AV->Prop
 | 0,kc=>kc=[]
 | n + 1,kc=>∃ a b,kc=a++b/\a.length=P.cellsOf e/\r e a/\ArrT P r e n b
def lM (P:Program):Nat->TypeId->List AV->Prop
 | 0,_,_=>False
 | n + 1,t,kc=>match P.underlying t with
  | some .bool=>∃ b,kc=[.bool b]
  | some (.int k)=>∃ i,kc=[.int k i]/\(Lit.int k i).wf=true
  | some .string=>∃ s,kc=[.str s]/\s.size<=maxLen
  | some (.slice e)=>∃ nl els,kc=[.sl nl els]/\els.length<=maxLen/\els.length * P.bytesOf e<=reachBytes/\(nl=true->els=[])/\∀ x∈els,x.length=P.cellsOf e/\lM P n e x
  | some (.struct fs)=>NO P (lM P n) fs.toList kc
  | some (.array k e)=>ArrT P (lM P n) e k kc
  | _=>False
def KW (P:Program) (ts:List TypeId):Nat->Nat->List Field->Bool
 | off,total,[]=>decide (off=total)
 | off,total,f :: fs=>decide (f.offset=off)&&ts.contains f.type&&KW P ts (off + P.cellsOf f.type) total fs
def sP (P:Program) (ts:List TypeId) (t:TypeId):Bool:=match P.underlying t with
 | some .bool | some (.int _) | some .string=>decide (P.cellsOf t=1)
 | some (.slice e)=>ts.contains e&&decide (0<P.cellsOf e)&&decide (P.cellsOf t=1)
 | some (.struct fs)=>KW P ts 0 (P.cellsOf t) fs.toList
 | some (.array k e)=>ts.contains e&&decide (0<P.cellsOf e)&&decide (k * P.cellsOf e=P.cellsOf t)
 | _=>false
section
variable {H:Type} {enc:TypeId × Value->H} {P:Program} {w:World} {base:Nat} {spare:Nat->Bool} {held:Bool}
theorem p8 {t e:TypeId} {fuel:Nat} {cs:List Value} {x:DataW H × List MemPlace} (ht:P.underlying t=some (.slice e)) (h:DataW.trod enc P w base spare held fuel t cs=some x) :
  (∃ n,fuel=n + 1)/\((cs=[.slice none 0 0]) ∨
  ∃ (a:Addr) (len cap n:Nat) (y:Nat->DataW H × List MemPlace) (D sp:List (DataW H)),cs=[.slice (some a) len cap]/\fuel=n + 1/\len<=cap/\cap<=maxLen/\x.1=.slice D sp/\D.length=len/\(∀ i,i<len->(y i).1∈D) ∧
   ∀ i,i<len->∃ cv,w.cells? base (a.add (i * P.cellsOf e)) (P.cellsOf e)=some cv/\DataW.trod enc P w base spare held n e cv=some (y i)):=by
 refine ⟨?_,?_⟩
 ·cases fuel with
  | zero=>simp [DataW.trod] at h
  | succ n=>exact ⟨n,rfl⟩
 rcases DataW.trod_slice ht h with h0 | ⟨a,len,cap,elems,rest,n,az,rfl,rfl,hb,hl,hm,ia,lc,rh,hns⟩
 ·exact Or.inl h0.1
 right;refine ⟨a,len,cap,n,fun i=>elems.getD i (.nil,[]),elems.map (·.1),rest.map (·.1),rfl,az,hl,hm,rfl,by simpa using ia,fun i hi=>?_,fun i hi=>?_⟩
 ·have e:elems.getD i (.nil,[])=elems[i]'(by omega):=by simp [List.getD,y4 (show i<elems.length by omega)]
  show (elems.getD i (.nil,[])).1∈_;rw [e];exact Y01 (y6 _)
 have key:=lc i hi;rw [y4 (by omega)] at key;obtain ⟨cv,h1,h2⟩:=y7.1 key;refine ⟨cv,h1,?_⟩;rw [h2];simp [List.getD,y4 (show i<elems.length by omega)]
theorem JP {e:TypeId}:∀ {D:List (DataW H)} {d:DataW H},d∈D->∀ m∈d.weights P e,m∈DataW.weightsAll P e D
 | d0 :: r,d,h,m,hm=>by
  simp only [DataW.weightsAll,yw];rcases yh.1 h with rfl | h
  ·exact .inl hm
  ·exact .inr (JP h m hm)
def pM (P:Program) (t:TypeId) (d:DataW H):Prop:=∀ m∈d.weights P t,m<=reachBytes
section
variable {t e:TypeId} {D sp:List (DataW H)} (ht:P.underlying t=some (.slice e)) (h:pM P t (.slice D sp))
include t e D sp ht h
theorem light_elem {d:DataW H} (hd:d∈D):pM P e d:=fun m hm=>h m (by
 simp only [DataW.weights,ht,yh,yw];exact .inr (.inl (JP hd m hm)))
theorem light_len:D.length * P.bytesOf e<=reachBytes:=by
 have:=h ((D.length + sp.length) * P.bytesOf e) (by simp [DataW.weights,ht]);exact yC (Y00 _ (by omega)) this
end
theorem light_arr {t e:TypeId} {k:Nat} {D:List (DataW H)} (ht:P.underlying t=some (.array k e)) (h:pM P t (.agg D)) {d:DataW H} (hd:d∈D):pM P e d:=fun m hm=>h m (by
 simp only [DataW.weights,ht];exact JP hd m hm)
theorem S7 {t:TypeId} {fs:Array Field} {D:List (DataW H)} (ht:P.underlying t=some (.struct fs)) (h:pM P t (.agg D)) {i:Nat} {f:Field} {d:DataW H} (hf:fs.toList[i]?=some f) (hd:D[i]?=some d):pM P f.type d:=fun m hm=>h m (by
 simp only [DataW.weights,ht];exact DataW.weights_mem_each (j:=i) (by rw [yc,hf]; rfl) hd m hm)
theorem p7 {ts:List TypeId} {n:Nat} {cs:List Value}
  (ih:∀ (t:TypeId) (cs:List Value) (x:DataW H × List MemPlace),ts.contains t=true->pM P t x.1->DataW.trod enc P w base spare held n t cs=some x->∃ kc,aD Av0 w kc cs/\lM P n t kc/\kc.length=P.cellsOf t) :
  ∀ (fs:List Field) (off:Nat),KW P ts off cs.length fs=true->(∀ f∈fs,∃ x,pM P f.type x.1/\DataW.trod enc P w base spare held n f.type ((cs.drop f.offset).take (P.cellsOf f.type))=some x)->∃ kc,aD Av0 w kc (cs.drop off)/\NO P (lM P n) fs kc
 | [],off,h,_=>by
  simp only [KW,decide_eq_true_eq] at h;refine ⟨[],?_,rfl⟩;rw [ye (by omega)];rfl
 | f :: fs,off,h,hx=>by
  simp only [KW,y8,decide_eq_true_eq] at h;obtain ⟨⟨ho,ht⟩,h⟩:=h;obtain ⟨x,fa,i9⟩:=hx f yl;obtain ⟨kc,h1,h2,tl⟩:=ih _ _ _ ht fa i9;obtain ⟨bs,h3,h4⟩:=p7 ih fs (off + P.cellsOf f.type) h fun g hg=>hx g (yr _ hg)
  refine ⟨kc++bs,?_,kc,bs,rfl,tl,h2,h4⟩;have:cs.drop off=(cs.drop off).take (P.cellsOf f.type)++cs.drop (off + P.cellsOf f.type):=by rw [<- List.drop_drop,List.take_append_drop]
  rw [this];rw [ho] at h1;exact IM h1 h3
theorem array_T {e:TypeId} {n:Nat} {cs:List Value} (f:∀ i:Nat,i * P.cellsOf e<cs.length->∃ kc,aD Av0 w kc ((cs.drop (i * P.cellsOf e)).take (P.cellsOf e))/\lM P n e kc/\kc.length=P.cellsOf e) (hp:0<P.cellsOf e) :
  ∀ (m i:Nat),(i + m) * P.cellsOf e=cs.length->∃ kc,aD Av0 w kc (cs.drop (i * P.cellsOf e))/\ArrT P (lM P n) e m kc
 | 0,i,h=>by
  refine ⟨[],?_,rfl⟩;rw [ye (by simp at h; omega)];rfl
 | m + 1,i,h=>by
  have h1:(i + 1 + m) * P.cellsOf e=cs.length:=by rw [<- h]; congr 1; omega
  have hs:(i + 1) * P.cellsOf e=i * P.cellsOf e + P.cellsOf e:=yu i _;have fa:i * P.cellsOf e<cs.length:=by
   have:(i + 1) * P.cellsOf e<=(i + (m + 1)) * P.cellsOf e:=Y00 _ (by omega);omega
  obtain ⟨kc,g1,g2,g2'⟩:=f i fa;obtain ⟨av2,g3,g4⟩:=array_T f hp m (i + 1) h1;refine ⟨kc++av2,?_,kc,av2,rfl,g2',g2,g4⟩;have:cs.drop (i * P.cellsOf e)=(cs.drop (i * P.cellsOf e)).take (P.cellsOf e)++cs.drop ((i + 1) * P.cellsOf e):=by rw [hs,<- List.drop_drop,List.take_append_drop]
  rw [this];exact IM g1 g3
theorem OM {av:Av}:∀ {l:List AV} {us:List Value},aD av w l us->l.length=us.length
 | [],us,h=>by simp only [aD] at h; subst h; rfl
 | a :: r,us,h=>by
  simp only [aD] at h;obtain ⟨u,sa,rfl,_,_,h⟩:=h;simp [OM h]
theorem F3 {ts:List TypeId} (hg:ts.all (sP P ts)=true):∀ (n:Nat) (t:TypeId) (cs:List Value) (x:DataW H × List MemPlace),ts.contains t=true->pM P t x.1->DataW.trod enc P w base spare held n t cs=some x->∃ kc,aD Av0 w kc cs/\lM P n t kc/\kc.length=P.cellsOf t
 | 0,t,cs,x,_,_,hx=>by simp [DataW.trod] at hx
 | n + 1,t,cs,x,ra,xz,hx=>by
  have h:sP P ts t=true:=y5.1 hg t (by simpa using ra);unfold sP at h;split at h
  ·rename_i ht;simp only [decide_eq_true_eq] at h;obtain ⟨b,rfl,_⟩:=DataW.trod_bool ht hx;exact ⟨[.bool b],⟨_,_,rfl,rfl,rfl,rfl⟩,by simp only [lM,ht]; exact ⟨b,rfl⟩,by simp [h]⟩
  ·rename_i kk ht;simp only [decide_eq_true_eq] at h;obtain ⟨b,rfl,_,hw⟩:=DataW.trod_int ht hx;exact ⟨[.int kk b],⟨_,_,rfl,rfl,rfl,rfl⟩,by simp only [lM,ht]; exact ⟨b,rfl,hw⟩,by simp [h]⟩
  ·rename_i ht;simp only [decide_eq_true_eq] at h;obtain ⟨b,rfl,_,hw⟩:=DataW.trod_string ht hx;exact ⟨[.str b],⟨_,_,rfl,rfl,rfl,rfl⟩,by simp only [lM,ht]; exact ⟨b,rfl,hw⟩,by simp [h]⟩
  ·rename_i e ht;simp only [y8,decide_eq_true_eq] at h;obtain ⟨⟨he,db⟩,pq⟩:=h;rcases (p8 ht hx).2 with rfl | ⟨a,len,cap,n',y,D,sp,rfl,hn,sb,kr,hxe,hDl,hyD,hi⟩
   ·exact ⟨[.sl true []],⟨_,_,rfl,⟨none,0,rfl,yn _,(fun _ h=>by cases h),fun _=>⟨rfl,rfl,rfl⟩,fun h=>by cases h⟩,rfl,rfl⟩,by simp only [lM,ht]; exact ⟨true,[],rfl,Nat.zero_le _,by simp,fun _=>rfl,(fun _ h=>by cases h)⟩,by simp [pq]⟩
   ·have zh:n'=n:=by omega
    subst zh;rw [hxe] at xz;have fk:=light_len ht xz;rw [hDl] at fk;have ka:∀ i:Nat,∃ kc:List AV,i<len->((kc.length=P.cellsOf e/\lM P n' e kc)/\∃ us,aD Av0 w kc us/\us.length=P.cellsOf e/\∀ j,j<P.cellsOf e->w.cell? ((a.add (i * P.cellsOf e)).add j)=us[j]?):=fun i=>by
     by_cases fa:i<len
     ·obtain ⟨us,pq,hc2⟩:=hi i (by omega);obtain ⟨kc,h1,h2,tl⟩:=F3 hg n' e us _ he (light_elem ht xz (hyD i fa)) hc2;obtain ⟨_,g1,g2⟩:=World.cells?_some pq;exact ⟨kc,fun _=>⟨⟨tl,h2⟩,us,h1,g1,g2⟩⟩
     ·exact ⟨[],fun h=>absurd h fa⟩
    have xh:=Classical.axiomOfChoice ka;obtain ⟨f,hf⟩:=xh;have ud:∀ kc∈(List.range len).map f,kc.length=P.cellsOf e/\lM P n' e kc:=fun kc ha=>by
     obtain ⟨i,ac,rfl⟩:=yA.1 ha;exact (hf i (List.mem_range.1 ac)).1
    refine ⟨[.sl false ((List.range len).map f)],⟨_,_,rfl,⟨some a,cap,by simp,by simpa using sb,fun x hx y hy=>((ud x hx).1).trans ((ud y hy).1).symm,(fun h=>by cases h),fun _=>⟨fun h=>(by cases h),fun h0=>?_⟩⟩,rfl,rfl⟩,by simp only [lM,ht]; exact ⟨false,_,rfl,by simp; omega,by simpa using fk,(fun h=>by cases h),ud⟩,by simp [pq]⟩;have nf:0<len:=by simpa using h0
    have hspot:∃ b off,a=⟨b,off,none⟩:=by
     obtain ⟨_,us,_,g1,g2⟩:=hf 0 nf;have g3:=g2 0 db;simp only [Nat.zero_mul,Addr.add,if_true] at g3;rw [y4 (by omega)] at g3;obtain ⟨b,off,sp⟩:=a;cases sp with
     | none=>exact ⟨b,off,rfl⟩
     | some q =>
      simp only [World.cell?] at g3;split at g3
      ·simp at g3
      ·cases g3
    obtain ⟨b,off,rfl⟩:=hspot;refine ⟨b,off,rfl,Rows_of (fun x hx=>(ud x hx).1) fun i kc ci=>?_⟩;rw [yc] at ci;obtain ⟨i',ac,rfl⟩:=yf.1 ci;rw [yb] at ac;obtain ⟨fa,wg⟩:=ac;simp at fa wg;subst wg;obtain ⟨_,us,g0,g1,g2⟩:=hf i fa;refine DK g0 fun j u hu=>⟨?_,fun h=>h⟩
    have hj:j<P.cellsOf e:=by rw [<- g1]; exact (yb.1 hu).1
    have:=g2 j hj;rw [Addr.add_lit,Addr.add_lit,hu] at this;exact this
  ·rename_i fs ht;obtain ⟨xs,n',hn,rfl,ia,hxl,hf⟩:=DataW.trod_struct ht hx;have zh:n'=n:=by omega
   subst zh;rw [<- ia] at h;obtain ⟨kc,h1,h2⟩:=p7 (cs:=cs) (n:=n') (fun t cs x=>F3 hg n' t cs x) fs.toList 0 h fun g hg=>by
    obtain ⟨i,hi,he⟩:=yB hg;have ac:i<fs.size:=by simpa using hi
    have h1:=hf i g (by rw [<- he]; simp [ac]);refine ⟨xs[i]'(by omega),S7 ht xz (i:=i) (f:=g) (by rw [<- he]; simp [ac]) ?_,by rw [h1]; exact y4 (by omega)⟩;rw [yc,y4 (by omega)];rfl
   rw [List.drop_zero] at h1;exact ⟨kc,h1,by simp only [lM,ht]; exact h2,(OM h1).trans ia⟩
  ·rename_i k e ht;simp only [y8,decide_eq_true_eq] at h;obtain ⟨⟨he,db⟩,pq⟩:=h;obtain ⟨xs,m,hm,rfl,ia,hxl,hf⟩:=DataW.trod_array ht hx;have jd:m=n:=by omega
   subst jd;obtain ⟨kc,h1,h2⟩:=array_T (cs:=cs) (n:=m) (e:=e) (fun i hi=>by
    have hik:i<k:=by
     rw [ia,<- pq] at hi;exact Nat.lt_of_mul_lt_mul_right hi
    have h1:=hf i hik;rw [y4 (by omega)] at h1;exact F3 hg m e _ _ he (light_arr ht xz (Y01 (y6 _))) h1) db k 0 (by rw [yH,ia,pq])
   rw [Nat.zero_mul,List.drop_zero] at h1;exact ⟨kc,h1,by simp only [lM,ht]; exact h2,(OM h1).trans ia⟩
  ·cases h
def ParT (P:Program) (t:TypeId) (a:AV):Prop:=∃ n,(kM P t=true/\∃ cs,a=.agg cs/\lM P n t cs)\/(kM P t=false/\lM P n t [a])
def ArgsT (P:Program):List TypeId->List AV->Prop
 | [],xs=>xs=[]
 | t :: ts,xs=>∃ a r,xs=a :: r/\ParT P t a/\ArgsT P ts r
theorem par_T {ts:List TypeId} (hg:ts.all (sP P ts)=true) {t:TypeId} {r:Reach} {b0:Nat} {v:Value} {d:DataW H} {p:List MemPlace} (hs:ts.contains t=true) (hv:Value.okWide P w r b0 t v) (xz:pM P t d) (h:DataW.Trod enc P w base spare held t v d p) :
  ∃ a,MA Ix.none Av0 Av0 w a v/\ParT P t a:=by
 obtain ⟨fuel,hf⟩:=h;obtain ⟨xs,h1,h2,_⟩:=F3 hg fuel t _ _ hs xz hf;have one:∀ (u:Value),v=u->v.cells.toList=[u]->kM P t=false->(∀ a,lM P fuel t [a]->a.leaf=true)->∃ a,MA Ix.none Av0 Av0 w a v/\ParT P t a:=fun u hu hc hw js=>by
  rw [hc] at h1;have hl:=OM h1
  match xs,hl with
  | [a],_ =>
   simp only [aD] at h1;obtain ⟨u',_,e,h0,_,_⟩:=h1;injection e with e;subst e;exact ⟨a,by rw [hu]; exact HU h0 (js a h2),fuel,.inr ⟨hw,h2⟩⟩
 cases fuel with
 | zero=>exact h2.elim
 | succ k =>
  have hgt:sP P ts t=true:=y5.1 hg t (by simpa using hs);unfold sP at hgt;split at hgt
  ·rename_i ht;obtain ⟨b,rfl⟩:=okWide_bool ht hv;refine one _ rfl rfl (by simp [kM,ht]) fun a ha=>?_
   simp only [lM,ht] at ha;obtain ⟨b',e⟩:=ha;injection e with e;subst e;rfl
  ·rename_i kk ht;obtain ⟨b,rfl⟩:=okWide_int ht hv;refine one _ rfl rfl (by simp [kM,ht]) fun a ha=>?_
   simp only [lM,ht] at ha;obtain ⟨b',e,_⟩:=ha;injection e with e;subst e;rfl
  ·rename_i ht;obtain ⟨b,rfl⟩:=okWide_string ht hv;refine one _ rfl rfl (by simp [kM,ht]) fun a ha=>?_
   simp only [lM,ht] at ha;obtain ⟨b',e,_⟩:=ha;injection e with e;subst e;rfl
  ·rename_i e' ht;obtain ⟨A,n,c,rfl⟩:=okWide_slice ht hv;refine one _ rfl rfl (by simp [kM,ht]) fun a ha=>?_
   simp only [lM,ht] at ha;obtain ⟨nl,els,e,_⟩:=ha;injection e with e;subst e;rfl
  ·rename_i fs ht;have:∃ cs,v=.agg cs:=by
    simp only [Value.okWide,ht] at hv;obtain ⟨cs,hv,_⟩:=hv;exact ⟨cs,hv⟩
   obtain ⟨cs,rfl⟩:=this;exact ⟨.agg xs,⟨cs,rfl,ID h1⟩,k + 1,.inl ⟨by simp [kM,ht],xs,rfl,h2⟩⟩
  ·rename_i n' e' ht;have:∃ cs,v=.agg cs:=by
    simp only [Value.okWide,ht] at hv;obtain ⟨cs,hv,_⟩:=hv;exact ⟨cs,hv⟩
   obtain ⟨cs,rfl⟩:=this;exact ⟨.agg xs,⟨cs,rfl,ID h1⟩,k + 1,.inl ⟨by simp [kM,ht],xs,rfl,h2⟩⟩
  ·cases hgt
theorem args_T {T:List TypeId} (hg:T.all (sP P T)=true) {r:Reach} {b0:Nat}:∀ {ts:List TypeId} {vs:List Value} {ds:List (DataW H)} {p:List MemPlace},DataW.TrodAll enc P w base spare held ts vs ds p->(∀ (j:Nat) t v,ts[j]?=some t->vs[j]?=some v->Value.okWide P w r b0 t v)->(∀ m∈DataW.weightsEach P ts ds,m<=reachBytes)->ts.all (fun t=>T.contains t)=true →
  ∃ xs,CL Ix.none Av0 Av0 w xs vs/\ArgsT P ts xs
 | [],vs,ds,p,h,_,_,_=>by
  cases vs with
  | nil=>exact ⟨[],rfl,rfl⟩
  | cons=>cases ds <;> exact h.elim
 | t :: ts,vs,ds,p,h,hv,hw,hs=>by
  obtain ⟨v,bv,d,ds',p',q',rfl,rfl,rfl,h0,h⟩:=trodAll_cons h;simp only [DataW.weightsEach,yw] at hw;simp only [List.all_cons,y8] at hs;obtain ⟨a,h1,h2⟩:=par_T hg hs.1 (hv 0 t v rfl rfl) (fun m hm=>hw m (.inl hm)) h0;obtain ⟨xs,h3,h4⟩:=args_T hg h (fun j t' v' e e'=>hv (j + 1) t' v' (by simpa using e) (by simpa using e')) (fun m hm=>hw m (.inr hm)) hs.2;exact ⟨a :: xs,⟨v,bv,rfl,h1,h3⟩,a,xs,rfl,h2,h4⟩
end
end
section
open Go Go.RowKit
section
variable {P:Program}
end
set_option maxHeartbeats 1000000
end
section
open Go Go.RowKit
variable {O:uH}
end
abbrev oM (d n:Nat):EA:=⟨some d,.mv (.t n),none⟩
abbrev oF (d a n:Nat):EA:=⟨some d,.faddr a (.t n),none⟩
abbrev oL (d n:Nat):EA:=⟨some d,.load .any false 1 (.t n),none⟩
abbrev oA (d z n:Nat):EA:=⟨some d,.load .any true z (.t n),none⟩
abbrev oB (d:Nat)(o:BinOp)(a b:Nat):EA:=⟨some d,.bin o false (.t a) (.t b),none⟩
abbrev oC (d:Nat)(o:BinOp)(a:Nat)(n:Int):EA:=⟨some d,.bin o false (.t a) (.c (.int .i64 n)),none⟩
abbrev oX (d n i:Nat):EA:=⟨some d,.ext (.t n) i,none⟩
abbrev oV (z a b:Nat):EA:=⟨none,.store .any true z (.t a) (.t b),none⟩
abbrev oW (a b:Nat):EA:=⟨none,.store .any false 1 (.t a) (.t b),none⟩
abbrev oI (d z a b:Nat):EA:=⟨some d,.iaddr z (.t a) (.t b),none⟩
abbrev oJ (d:Nat)(n:Int):EA:=⟨some d,.mv (.c (.int .i64 n)),none⟩
abbrev oH (d n:Nat):EA:=⟨some d,.len false (.t n),none⟩
abbrev oU (d n:Nat):EA:=⟨some d,.un .not (.t n),none⟩
abbrev oZ (d:Nat)(b:Bool):EA:=⟨some d,.mv (.c (.bool b)),none⟩
abbrev oK (d n:Nat):EA:=⟨some d,.nilchk (.t n),none⟩
abbrev oY (d:Nat)(l:List AV):EA:=⟨some d,.alloc l,none⟩
abbrev oQ (d z n:Nat):EA:=⟨some d,.box z (.t n),none⟩
abbrev oS (d:Nat)(k:K):EA:=⟨some d,k,none⟩
abbrev oN (k:K):EA:=⟨none,k,none⟩
abbrev oG (d:Nat)(k:K)(g:Nat)(b:Bool):EA:=⟨some d,k,some (g,b)⟩
abbrev oP (d n g:Nat)(b:Bool):EA:=⟨some d,.load .any false 1 (.t n),some (g,b)⟩
abbrev oR (l:List EA)(c:C):C:=.seq (.reg l) c
abbrev oD (n:Nat)(a b:C):C:=.cond (.t n) a b
abbrev oFg (d o n g:Nat)(b:Bool):EA:=⟨some d,.faddr o (.t n),some (g,b)⟩
abbrev oPa (d a b:Nat):EA:=⟨some d,.pick (.t a) (.t b) (.c (.bool false)),none⟩
abbrev oPo (d a b:Nat):EA:=⟨some d,.pick (.t a) (.c (.bool true)) (.t b),none⟩
abbrev oMg (d n g:Nat)(b:Bool):EA:=⟨some d,.mv (.t n),some (g,b)⟩
abbrev oC1 (d f a:Nat):EA:=⟨some d,.call .any f [.t a],none⟩
abbrev oC2 (d f a b:Nat):EA:=⟨some d,.call .any f [.t a,.t b],none⟩
abbrev oC4 (d f a b c e:Nat):EA:=⟨some d,.call .any f [.t a,.t b,.t c,.t e],none⟩
abbrev oLr (d r z n:Nat):EA:=⟨some d,.load (.root r) false z (.t n),none⟩
abbrev oLg (d z n g:Nat)(b:Bool):EA:=⟨some d,.load .any true z (.t n),some (g,b)⟩
abbrev oBg (d:Nat)(o:BinOp)(a b g:Nat)(w:Bool):EA:=⟨some d,.bin o false (.t a) (.t b),some (g,w)⟩
abbrev oCi (d:Nat)(o:BinOp)(a:Nat)(n:Int)(g:Nat)(w:Bool):EA:=⟨some d,.bin o false (.t a) (.c (.int .i64 n)),some (g,w)⟩
abbrev oHg (d n g:Nat)(b:Bool):EA:=⟨some d,.len false (.t n),some (g,b)⟩
abbrev oUg (d n g:Nat)(b:Bool):EA:=⟨some d,.un .not (.t n),some (g,b)⟩
abbrev oIg (d z a b g:Nat)(w:Bool):EA:=⟨some d,.iaddr z (.t a) (.t b),some (g,w)⟩
abbrev oAp (d e z y a b:Nat):EA:=⟨some d,.app .any e z y (.t a) (.t b),none⟩
abbrev oPb (d a b g:Nat)(w:Bool):EA:=⟨some d,.pick (.t a) (.t b) (.c (.bool false)),some (g,w)⟩
abbrev oCg (d f a b g:Nat)(w:Bool):EA:=⟨some d,.call .any f [.t a,.t b],some (g,w)⟩
abbrev zza:List AV:=[(.int .i64 0),(.bool false),(.int .i64 0),(.str (ByteArray.mk #[])),(.int .i64 0),(.sl true []),(.sl true []),(.sl true [])]
abbrev zzb:List AV:=[(.int .i64 0),(.bool false),(.int .i64 0),(.str (ByteArray.mk #[])),(.int .i64 0),(.sl true []),(.sl true []),(.sl true []),(.sl true []),(.bool false)]
abbrev zzc:List AV:=[(.int .i64 0),(.str (ByteArray.mk #[]))]
abbrev zzd:List AV:=[(.int .u8 0),(.int .u8 0),(.int .u8 0),(.int .u8 0),(.sl true [])]
abbrev zze:List AV:=[(.int .i64 0),(.str (ByteArray.mk #[])),(.int .i64 0),(.int .i64 0),(.int .i64 0),(.sl true []),(.sl true []),(.int .i64 0),(.int .i64 0),(.bool false)]
abbrev zzf:List AV:=[(.int .u8 0),(.int .u8 0),(.int .u8 0),(.int .u8 0)]
abbrev zzg:List AV:=[(.int .u8 0),(.int .u8 0),(.int .u8 0)]
abbrev zzh:List AV:=[(.int .i64 0),(.str (ByteArray.mk #[])),(.int .i64 0),(.bool false),(.bool false),(.int .i64 0),(.bool false),(.int .i64 0),(.str (ByteArray.mk #[])),(.int .i64 0),(.sl true []),(.sl true []),(.sl true [])]
abbrev zzi:List AV:=[(.sl true []),(.sl true []),(.sl true []),(.sl true [])]
abbrev zzj:List AV:=[(.str (ByteArray.mk #[])),(.int .i64 0)]
noncomputable def cF (l:List Nat) (f:Func):qB:=(BU Tryz.prog l f).getD ⟨.skip,[],0,[]⟩
def JG:qB:=⟨(oR [oQ 1 4 0,oZ 2 false] (oR [oA 21 4 1,oC1 22 18 21,oM 20 22,oX 23 20 0,oX 24 20 1,oX 25 20 2,oS 3 (.alloc [(.sl true []),(.int .i64 0)]),oS 4 (.alloc [(.sl true []),(.int .i64 0)]),oV 2 3 23,oV 2 4 24,oM 5 25] (.seq (oR [oS 26 (.call .any 19 []),oU 27 26,oM 28 27,oMg 29 5 28 false,oUg 30 29 28 false,oPo 31 28 30] (oD 31 (oR [oS 32 (.call .any 19 []),oM 2 32] .ret) .skip)) (oR [oA 34 2 3,oA 35 2 4,oC2 36 21 34 35,oM 33 36,oX 37 33 0,oX 38 33 1,oM 6 37,oM 7 38] (oR [oA 40 2 3,oA 41 2 4,oC2 42 29 40 41,oM 39 42,oX 43 39 0,oX 44 39 1,oM 8 43,oM 9 44] (oR [oA 46 2 3,oA 47 2 4,oC2 48 30 46 47,oM 45 48,oX 49 45 0,oX 50 45 1,oM 10 49,oM 11 50] (oR [oA 52 2 3,oA 53 2 4,oC2 54 31 52 53,oM 51 54,oX 55 51 0,oX 56 51 1,oM 12 55,oM 13 56] (oR [oA 58 2 3,oA 59 2 4,oC2 60 32 58 59,oM 57 60,oX 61 57 0,oX 62 57 1,oX 63 57 2,oM 14 61,oM 15 62,oM 16 63] (oR [oA 65 2 3,oA 66 2 4,oC2 67 33 65 66,oM 64 67,oX 68 64 0,oX 69 64 1,oX 70 64 2,oM 17 68,oM 18 69,oM 19 70] (oR [oM 71 6,oM 72 8,oS 73 (.bin .eql true (.t 71) (.t 72)),oM 74 73,oMg 75 7 74 true,oMg 76 9 74 true,oBg 77 .eql 75 76 74 true,oPa 78 74 77,oM 79 78,oMg 80 10 79 true,oMg 81 12 79 true,oCg 82 28 80 81 79 true,oPa 83 79 82,oM 84 83,oMg 85 11 84 true,oMg 86 13 84 true,oBg 87 .eql 85 86 84 true,oPa 88 84 87,oM 89 88,oMg 90 14 89 true,oMg 91 17 89 true,oCg 92 28 90 91 89 true,oPa 93 89 92,oM 94 93,oMg 95 15 94 true,oMg 96 18 94 true,oBg 97 .eql 95 96 94 true,oPa 98 94 97,oM 99 98,oMg 100 16 99 true,oMg 101 19 99 true,oBg 102 .eql 100 101 99 true,oPa 103 99 102,oM 2 103] .ret)))))))))),[(.tmp 2)],1,[]⟩
theorem okF {n:Nat} {f:Func} {c:qB} (h:Tryz.prog.funcs[n]?=some f) (a:∀ xs w,(callFunc n xs).run Tryz.prog w=.ok (.enter n xs) w:=by intro _ _;kernel_rfl) (b:BU Tryz.prog c.mu f=some c:=by kernel_rfl):nA Tryz.prog n c:=⟨a,f,h,b⟩
theorem UL:nA Tryz.prog 5 JG:=okF Tryz.func5
def HK:qB:=⟨(oR [oQ 2 1 0,oZ 4 false] (oR [oA 13 1 2,oC1 14 34 13,oM 12 14,oX 15 12 0,oX 16 12 1,oS 5 (.alloc [(.sl true [])]),oV 1 5 15,oM 6 16] (.seq (oR [oS 17 (.call .any 19 []),oU 18 17,oM 19 18,oMg 20 6 19 false,oUg 21 20 19 false,oPo 22 19 21] (oD 22 (oR [oS 23 (.call .any 19 []),oM 4 23] .ret) .skip)) (oR [oS 24 (.load (.root 5) true 1 (.t 5)),oM 25 1,oS 26 (.conv (.some .i64) (.t 25)),oF 27 0 5,oLr 28 5 1 27,oH 29 28,oB 30 .rem 26 29,oS 31 (.build [(.sl true []),(.int .i64 0)] [(0,(1,(.t 24))),(1,(1,(.t 30)))]),oS 7 (.alloc [(.sl true []),(.int .i64 0)]),oN (.store (.root 7) true 2 (.t 7) (.t 31))] (oR [oA 33 2 7,oA 34 2 7,oC2 35 21 33 34,oM 32 35,oX 36 32 0,oX 37 32 1,oM 8 36,oM 9 37] (oR [oA 39 2 7,oA 40 2 7,oC2 41 30 39 40,oM 38 41,oX 42 38 0,oX 43 38 1,oM 10 42,oM 11 43] (.seq (oR [oM 44 9,oC 45 .neq 44 0,oM 46 45,oMg 47 11 46 false,oCi 48 .neq 47 0 46 false,oPo 49 46 48,oM 50 49,oMg 51 8 50 false,oUg 52 51 50 false,oPo 53 50 52,oM 54 53,oMg 55 10 54 false,oFg 56 1 7 54 false,oP 57 56 54 false,oFg 58 1 7 54 false,oP 59 58 54 false,oG 60 (.build [(.int .i64 0),(.int .i64 0)] [(0,(1,(.t 57))),(1,(1,(.t 59)))]) 54 false,oCg 61 35 55 60 54 false,oUg 62 61 54 false,oPo 63 54 62] (oD 63 (oR [oZ 4 false] .ret) .skip)) (oR [oM 64 10,oS 65 (.call .any 36 [(.t 64),(.c (.fn 37 []))]),oU 66 65,oM 4 66] .ret)))))))),[(.tmp 4)],2,[]⟩
theorem KO:nA Tryz.prog 6 HK:=okF Tryz.func6
def bM:C:=oR [oB 123 .lss 122 121] (.seq (oD 123 .skip (.exit 2)) (.seq (.block 3 (oR [oI 124 2 120 122,oA 125 2 124,oY 15 [(.int .i64 0),(.int .i64 0)],oV 2 15 125] (oR [oM 126 6,oA 127 2 15,oC2 128 35 126 127,oU 129 128] (oD 129 (oR [oZ 2 false] .ret) .skip)))) (.reg [oC 130 .add 122 1,oM 122 130])))
def nM:C:=oR [oB 47 .lss 46 45] (.seq (oD 47 .skip (.exit 0)) (.seq (.block 1 (oR [oM 48 46,oI 49 2 44 46,oA 50 2 49,oY 9 [(.int .i64 0),(.int .i64 0)],oM 8 48,oV 2 9 50] (oR [oF 52 0 3,oA 53 1 52,oS 54 (.aaddr 2 1 (.t 9) (.c (.int .i64 0))),oL 55 54,oF 56 0 4,oA 57 1 56,oS 58 (.aaddr 2 1 (.t 9) (.c (.int .i64 1))),oL 59 58,oC4 60 24 53 55 57 59,oM 51 60,oX 61 51 0,oX 62 51 1,oM 10 61,oM 11 62] (oR [oF 64 0 3,oA 65 1 64,oS 66 (.aaddr 2 1 (.t 9) (.c (.int .i64 0))),oL 67 66,oF 68 0 4,oA 69 1 68,oS 70 (.aaddr 2 1 (.t 9) (.c (.int .i64 1))),oL 71 70,oC4 72 26 65 67 69 71,oM 63 72,oX 73 63 0,oX 74 63 1,oM 12 73,oM 13 74] (.seq (oR [oM 75 10,oC 76 .neq 75 0,oM 77 76,oMg 78 11 77 false,oCi 79 .neq 78 0 77 false,oPo 80 77 79,oM 81 80,oMg 82 13 81 false,oCi 83 .neq 82 0 81 false,oPo 84 81 83] (oD 84 (oR [oZ 2 false] .ret) .skip)) (.seq (oR [oM 85 8,oC 86 .gtr 85 0,oM 87 86,oG 88 (.aaddr 2 1 (.t 9) (.c (.int .i64 0))) 87 true,oP 89 88 87 true,oMg 90 6 87 true,oMg 91 8 87 true,oCi 92 .sub 91 1 87 true,oIg 93 2 90 92 87 true,oG 94 (.aaddr 2 1 (.t 93) (.c (.int .i64 0))) 87 true,oP 95 94 87 true,oBg 96 .lss 89 95 87 true,oMg 97 96 87 true,oG 98 (.aaddr 2 1 (.t 9) (.c (.int .i64 0))) 97 false,oP 99 98 97 false,oMg 100 6 97 false,oMg 101 8 97 false,oCi 102 .sub 101 1 97 false,oIg 103 2 100 102 97 false,oG 104 (.aaddr 2 1 (.t 103) (.c (.int .i64 0))) 97 false,oP 105 104 97 false,oBg 106 .eql 99 105 97 false,oMg 107 106 97 false,oG 108 (.aaddr 2 1 (.t 9) (.c (.int .i64 1))) 107 true,oP 109 108 107 true,oMg 110 6 107 true,oMg 111 8 107 true,oCi 112 .sub 111 1 107 true,oIg 113 2 110 112 107 true,oG 114 (.aaddr 2 1 (.t 113) (.c (.int .i64 1))) 107 true,oP 115 114 107 true,oBg 116 .leq 109 115 107 true,oPb 117 107 116 97 false,oG 118 (.pick (.t 97) (.c (.bool true)) (.t 117)) 87 true,oPa 119 87 118] (oD 119 (oR [oZ 2 false] .ret) .skip)) (oR [oM 120 12,oH 121 120,oJ 122 0] (.block 2 (.loop bM))))))))) (.reg [oC 131 .add 46 1,oM 46 131])))
def XI:qB:=⟨(oR [oQ 1 4 0,oZ 2 false] (oR [oA 17 4 1,oC1 18 18 17,oM 16 18,oX 19 16 0,oX 20 16 1,oX 21 16 2,oS 3 (.alloc [(.sl true []),(.int .i64 0)]),oS 4 (.alloc [(.sl true []),(.int .i64 0)]),oV 2 3 19,oV 2 4 20,oM 5 21] (.seq (oR [oS 22 (.call .any 19 []),oU 23 22,oM 24 23,oMg 25 5 24 false,oUg 26 25 24 false,oPo 27 24 26] (oD 27 (oR [oS 28 (.call .any 19 []),oM 2 28] .ret) .skip)) (oR [oA 30 2 3,oA 31 2 4,oC2 32 30 30 31,oM 29 32,oX 33 29 0,oX 34 29 1,oM 6 33,oM 7 34] (.seq (oR [oM 35 7,oC 36 .neq 35 0] (oD 36 (oR [oM 37 7,oC 38 .eql 37 12,oM 39 38,oMg 40 6 39 true,oHg 41 40 39 true,oCi 42 .eql 41 0 39 true,oPa 43 39 42,oM 2 43] .ret) .skip)) (.seq (oR [oM 44 6,oH 45 44,oJ 46 0] (.block 0 (.loop nM))) (oR [oM 132 6,oF 133 1 3,oL 134 133,oF 135 1 4,oL 136 135,oS 137 (.build [(.int .i64 0),(.int .i64 0)] [(0,(1,(.t 134))),(1,(1,(.t 136)))]),oC2 138 35 132 137,oM 2 138] .ret))))))),[(.tmp 2)],1,[]⟩
theorem EN:nA Tryz.prog 9 XI:=okF Tryz.func9
noncomputable def DJ:qB:=cF [] Tryz.f11
theorem oO:nA Tryz.prog 11 DJ:=okF Tryz.func11
noncomputable def GJ:qB:=cF [] Tryz.f12
theorem aO:nA Tryz.prog 12 GJ:=okF Tryz.func12
def pL:qB:=⟨(oR [oQ 1 3 0,oZ 2 false] (oR [oA 18 3 1,oC1 19 44 18,oM 17 19,oX 20 17 0,oX 21 17 1,oM 3 20,oM 4 21] (.seq (oR [oS 22 (.call .any 45 []),oU 23 22,oM 24 23,oMg 25 4 24 false,oUg 26 25 24 false,oPo 27 24 26] (oD 27 (oR [oS 28 (.call .any 45 []),oM 2 28] .ret) .skip)) (oR [oM 30 3,oC1 31 50 30,oM 29 31,oX 32 29 0,oX 33 29 1,oM 5 32,oM 6 33] (oR [oM 35 3,oC1 36 51 35,oM 34 36,oX 37 34 0,oX 38 34 1,oM 7 37,oM 8 38] (oR [oM 40 3,oC1 41 52 40,oM 39 41,oX 42 39 0,oX 43 39 1,oM 9 42,oM 10 43] (oR [oM 45 3,oC1 46 53 45,oM 44 46,oX 47 44 0,oX 48 44 1,oM 11 47,oM 12 48] (oR [oM 50 3,oC1 51 54 50,oM 49 51,oX 52 49 0,oX 53 49 1,oM 13 52,oM 14 53] (oR [oM 55 3,oC1 56 55 55,oM 54 56,oX 57 54 0,oX 58 54 1,oM 15 57,oM 16 58] (oR [oM 59 5,oM 60 7,oS 61 (.bin .eql true (.t 59) (.t 60)),oM 62 61,oMg 63 6 62 true,oMg 64 8 62 true,oBg 65 .eql 63 64 62 true,oPa 66 62 65,oM 67 66,oMg 68 9 67 true,oMg 69 11 67 true,oG 70 (.bin .eql true (.t 68) (.t 69)) 67 true,oPa 71 67 70,oM 72 71,oMg 73 10 72 true,oMg 74 12 72 true,oBg 75 .eql 73 74 72 true,oPa 76 72 75,oM 77 76,oMg 78 13 77 true,oMg 79 15 77 true,oCg 80 28 78 79 77 true,oPa 81 77 80,oM 82 81,oMg 83 14 82 true,oMg 84 16 82 true,oBg 85 .eql 83 84 82 true,oPa 86 82 85,oM 87 86,oMg 88 5 87 true,oUg 89 88 87 true,oMg 90 89 87 true,oMg 91 13 90 false,oHg 92 91 90 false,oCi 93 .eql 92 0 90 false,oG 94 (.pick (.t 90) (.c (.bool true)) (.t 93)) 87 true,oPa 95 87 94,oM 2 95] .ret)))))))))),[(.tmp 2)],1,[]⟩
theorem xP:nA Tryz.prog 13 pL:=okF Tryz.func13
noncomputable def AJ:qB:=cF [] Tryz.f14
theorem uO:nA Tryz.prog 14 AJ:=okF Tryz.func14
noncomputable def iL:qB:=cF [] Tryz.f15
theorem zP:nA Tryz.prog 15 iL:=okF Tryz.func15
noncomputable def SJ:qB:=cF [] Tryz.f16
theorem iO:nA Tryz.prog 16 SJ:=okF Tryz.func16
noncomputable def FJ:qB:=cF [] Tryz.f17
theorem pO:nA Tryz.prog 17 FJ:=okF Tryz.func17
def WW:qB:=⟨(oR [oQ 1 4 0,oS 2 (.alloc [(.sl true []),(.int .i64 0)]),oS 3 (.alloc [(.sl true []),(.int .i64 0)]),oZ 4 false] (oR [oF 11 0 1,oA 12 1 11,oC1 13 34 12,oM 10 13,oX 14 10 0,oX 15 10 1,oS 5 (.alloc [(.sl true [])]),oV 1 5 14,oM 6 15] (oR [oF 17 0 1,oA 18 1 17,oF 19 1 1,oL 20 19,oC2 21 69 18 20,oC1 22 34 21,oM 16 22,oX 23 16 0,oX 24 16 1,oS 7 (.alloc [(.sl true [])]),oV 1 7 23,oM 8 24] (.seq (oR [oM 25 6,oU 26 25,oM 27 26,oMg 28 8 27 false,oUg 29 28 27 false,oPo 30 27 29,oM 31 30,oFg 32 1 1 31 false,oP 33 32 31 false,oHg 34 33 31 false,oCi 35 .gtr 34 5 31 false,oPo 36 31 35] (oD 36 (oR [oS 37 (.build [(.sl true []),(.int .i64 0)] []),oS 38 (.build [(.sl true []),(.int .i64 0)] []),oV 2 2 37,oV 2 3 38,oZ 4 false] .ret) .skip)) (oR [oS 39 (.load (.root 5) true 1 (.t 5)),oF 40 2 1,oLr 41 1 1 40,oS 42 (.conv (.some .i64) (.t 41)),oF 43 0 5,oLr 44 5 1 43,oH 45 44,oB 46 .rem 42 45,oS 47 (.build [(.sl true []),(.int .i64 0)] [(0,(1,(.t 39))),(1,(1,(.t 46)))]),oS 9 (.alloc [(.sl true []),(.int .i64 0)]),oN (.store (.root 9) true 2 (.t 9) (.t 47))] (oR [oS 48 (.load (.root 9) true 2 (.t 9)),oS 49 (.load (.root 7) true 1 (.t 7)),oF 50 1 9,oLr 51 9 1 50,oF 52 3 1,oLr 53 1 1 52,oS 54 (.conv (.some .i64) (.t 53)),oB 55 .add 51 54,oF 56 0 7,oLr 57 7 1 56,oH 58 57,oB 59 .rem 55 58,oS 60 (.build [(.sl true []),(.int .i64 0)] [(0,(1,(.t 49))),(1,(1,(.t 59)))]),oN (.store (.root 2) true 2 (.t 2) (.t 48)),oN (.store (.root 3) true 2 (.t 3) (.t 60)),oZ 4 true] .ret)))))),[(.cell 2 true 2),(.cell 3 true 2),(.tmp 4)],1,[]⟩
theorem r8:nA Tryz.prog 18 WW:=okF Tryz.func18
def JC:qB:=⟨(oR [oQ 2 2 0,oQ 3 2 1,oZ 4 false,oJ 5 0] (oR [oA 10 2 2,oA 11 2 3,oC2 12 32 10 11,oM 9 12,oX 13 9 0,oX 14 9 1,oX 15 9 2,oM 6 13,oM 7 14,oM 8 15] (.seq (oR [oM 16 8] (.block 0 (oR [oC 18 .eql 16 15,oM 17 18] (oD 17 (oR [oZ 4 true,oJ 5 0] .ret) (oR [oC 20 .eql 16 0,oM 19 20] (oD 19 (oR [oZ 4 false,oJ 5 0] .ret) .skip)))))) (oR [oM 21 8,oZ 4 false,oM 5 21] .ret)))),[(.tmp 4),(.tmp 5)],2,[]⟩
theorem sO:nA Tryz.prog 21 JC:=okF Tryz.func21
def iG:qB:=⟨(oR [oQ 5 1 0,oQ 7 8 2,oQ 8 1 3,oY 10 zza,oJ 11 0] (.seq (oR [oA 14 1 5,oM 15 1,oA 16 8 7,oA 17 1 8,oM 18 4,oS 19 (.call .any 74 [(.t 14),(.t 15),(.t 16),(.t 17),(.t 18)]),oM 12 19] (oR [oM 20 12,oC 21 .neq 20 0] (oD 21 (oR [oS 22 (.build zza []),oM 23 12,oV 8 10 22,oM 11 23] .ret) .skip))) (oR [oA 24 1 5,oM 25 1,oA 26 8 7,oA 27 1 8,oM 28 4,oS 29 (.call .any 75 [(.t 24),(.t 25),(.t 26),(.t 27),(.t 28),(.c (.sl true []))]),oY 13 zzb,oV 10 13 29] (.seq (oR [oF 30 9 13,oL 31 30,oU 32 31] (oD 32 (oR [oS 33 (.build zza []),oV 8 10 33,oJ 11 12] .ret) .skip)) (oR [oF 34 0 13,oA 35 8 34,oV 8 10 35,oJ 11 0] .ret))))),[(.cell 10 true 8),(.tmp 11)],5,[]⟩
theorem kU:nA Tryz.prog 23 iG:=okF Tryz.func23
def kN:qB:=⟨(oR [oQ 4 1 0,oQ 6 1 2,oJ 8 0,oJ 9 0] (.seq (oR [oA 11 1 4,oM 12 1,oS 13 (.build [(.sl true []),(.int .i64 0)] [(0,(1,(.t 11))),(1,(1,(.t 12)))]),oA 14 1 6,oM 15 3,oS 16 (.build [(.sl true []),(.int .i64 0)] [(0,(1,(.t 14))),(1,(1,(.t 15)))]),oC2 17 76 13 16,oM 10 17] (oR [oM 18 10,oC 19 .neq 18 0] (oD 19 (oR [oM 20 10,oJ 8 0,oM 9 20] .ret) .skip))) (oR [oA 21 1 4,oM 22 1,oA 23 1 6,oM 24 3,oC4 25 77 21 22 23 24,oM 8 25,oJ 9 0] .ret))),[(.tmp 8),(.tmp 9)],4,[]⟩
theorem CS:nA Tryz.prog 24 kN:=okF Tryz.func24
def NQ:qB:=⟨(oR [oQ 4 1 0,oQ 6 1 2,oJ 8 0,oJ 9 0] (.seq (oR [oA 11 1 4,oM 12 1,oS 13 (.build [(.sl true []),(.int .i64 0)] [(0,(1,(.t 11))),(1,(1,(.t 12)))]),oA 14 1 6,oM 15 3,oS 16 (.build [(.sl true []),(.int .i64 0)] [(0,(1,(.t 14))),(1,(1,(.t 15)))]),oC2 17 43 13 16,oM 10 17] (oR [oM 18 10,oC 19 .neq 18 0] (oD 19 (oR [oM 20 10,oJ 8 0,oM 9 20] .ret) .skip))) (oR [oA 21 1 4,oM 22 1,oA 23 1 6,oM 24 3,oC4 25 78 21 22 23 24,oM 8 25,oJ 9 0] .ret))),[(.tmp 8),(.tmp 9)],4,[]⟩
theorem KX:nA Tryz.prog 25 NQ:=okF Tryz.func25
def HJ:qB:=⟨(oR [oQ 4 1 0,oQ 6 1 2,oS 8 (.mv (.c (.sl true []))),oJ 9 0] (.seq (oR [oA 11 1 4,oM 12 1,oS 13 (.build [(.sl true []),(.int .i64 0)] [(0,(1,(.t 11))),(1,(1,(.t 12)))]),oA 14 1 6,oM 15 3,oS 16 (.build [(.sl true []),(.int .i64 0)] [(0,(1,(.t 14))),(1,(1,(.t 15)))]),oC2 17 76 13 16,oM 10 17] (oR [oM 18 10,oC 19 .neq 18 0] (oD 19 (oR [oM 20 10,oS 8 (.mv (.c (.sl true []))),oM 9 20] .ret) .skip))) (oR [oA 21 1 4,oM 22 1,oA 23 1 6,oM 24 3,oC4 25 79 21 22 23 24,oM 8 25,oJ 9 0] .ret))),[(.tmp 8),(.tmp 9)],4,[]⟩
theorem dO:nA Tryz.prog 26 HJ:=okF Tryz.func26
def wM:qB:=⟨(oR [oQ 4 1 0,oQ 6 1 2,oS 8 (.mv (.c (.sl true []))),oJ 9 0] (.seq (oR [oA 11 1 4,oM 12 1,oS 13 (.build [(.sl true []),(.int .i64 0)] [(0,(1,(.t 11))),(1,(1,(.t 12)))]),oA 14 1 6,oM 15 3,oS 16 (.build [(.sl true []),(.int .i64 0)] [(0,(1,(.t 14))),(1,(1,(.t 15)))]),oC2 17 43 13 16,oM 10 17] (oR [oM 18 10,oC 19 .neq 18 0] (oD 19 (oR [oM 20 10,oS 8 (.mv (.c (.sl true []))),oM 9 20] .ret) .skip))) (oR [oA 21 1 4,oM 22 1,oA 23 1 6,oM 24 3,oC4 25 41 21 22 23 24,oM 8 25,oJ 9 0] .ret))),[(.tmp 8),(.tmp 9)],4,[]⟩
theorem TQ:nA Tryz.prog 27 wM:=okF Tryz.func27
def cE:C:=.seq (oR [oM 11 5,oM 12 0,oH 13 12,oB 14 .lss 11 13] (oD 14 .skip (.exit 0))) (.seq (.block 1 (oR [oM 17 0,oM 18 5,oI 19 2 17 18,oA 20 2 19,oM 21 1,oM 22 5,oI 23 2 21 22,oA 24 2 23,oS 25 (.eqa true [0,0] (.t 20) (.t 24))] (oD 25 (oR [oZ 4 false] .ret) .skip))) (.reg [oM 15 5,oC 16 .add 15 1,oM 5 16]))
def EK:qB:=⟨(oR [oZ 4 false] (.seq (oR [oM 6 0,oH 7 6,oM 8 1,oH 9 8,oB 10 .neq 7 9] (oD 10 (oR [oZ 4 false] .ret) .skip)) (.seq (oR [oJ 5 0] (.block 0 (.loop cE))) (oR [oZ 4 true] .ret)))),[(.tmp 4)],2,[]⟩
theorem LX:nA Tryz.prog 28 EK:=okF Tryz.func28
def RE:qB:=⟨(oR [oQ 2 2 0,oQ 3 2 1,oZ 4 false,oJ 5 0] (.seq (oR [oA 7 2 2,oA 8 2 3,oC2 9 43 7 8,oM 6 9] (oR [oM 10 6,oC 11 .neq 10 0] (oD 11 (oR [oM 12 6,oZ 4 false,oM 5 12] .ret) .skip))) (oR [oF 13 0 2,oA 14 1 13,oF 15 1 2,oL 16 15,oF 17 0 3,oA 18 1 17,oF 19 1 3,oL 20 19,oC4 21 80 14 16 18 20,oM 4 21,oJ 5 0] .ret))),[(.tmp 4),(.tmp 5)],2,[]⟩
theorem RQ:nA Tryz.prog 29 RE:=okF Tryz.func29
def fE:C:=.seq (oR [oM 44 10,oC 45 .geq 44 0] (oD 45 .skip (.exit 2))) (.seq (.block 3 (.reg [oM 50 13,oM 51 8,oM 52 10,oI 53 2 51 52,oA 54 2 53,oS 55 (.bsl [(.int .i64 0),(.int .i64 0)] 1 [(0,(.t 54))]),oS 56 (.appm .any 63 2 16 (.t 50) (.t 55)),oM 13 56])) (.reg [oM 46 9,oM 47 10,oI 48 1 46 47,oL 49 48,oM 10 49]))
def zF:C:=oR [oB 29 .lss 28 27] (.seq (oD 29 .skip (.exit 0)) (.seq (.block 1 (oR [oM 30 28,oI 31 2 26 28,oA 32 2 31,oY 11 [(.int .i64 0),(.int .i64 0)],oM 10 30,oV 2 11 32] (oR [oF 33 0 2,oA 34 1 33,oS 35 (.aaddr 2 1 (.t 11) (.c (.int .i64 0))),oL 36 35,oF 37 0 3,oA 38 1 37,oS 39 (.aaddr 2 1 (.t 11) (.c (.int .i64 1))),oL 40 39,oC4 41 77 34 36 38 40,oM 12 41] (.seq (oR [oM 42 12,oC 43 .eql 42 0] (oD 43 (.exit 1) .skip)) (oR [oS 13 (.mv (.c (.sl true [])))] (.seq (.block 2 (.loop fE)) (oR [oM 57 13,oS 58 (.callh 62 (.c (.fn 86 [])) [(.t 57)])] (oR [oM 59 13,oM 60 12,oM 4 59,oM 5 60,oJ 6 0] .ret)))))))) (.reg [oC 61 .add 28 1,oM 28 61])))
def RF:qB:=⟨(oR [oQ 2 2 0,oQ 3 2 1,oS 4 (.mv (.c (.sl true []))),oJ 5 0,oJ 6 0] (.seq (oR [oA 14 2 2,oA 15 2 3,oC2 16 76 14 15,oM 7 16] (oR [oM 17 7,oC 18 .neq 17 0] (oD 18 (oR [oM 19 7,oS 4 (.mv (.c (.sl true []))),oJ 5 0,oM 6 19] .ret) .skip))) (oR [oA 21 2 2,oA 22 2 3,oC2 23 81 21 22,oM 20 23,oX 24 20 0,oX 25 20 1,oM 8 24,oM 9 25] (.seq (oR [oM 26 8,oH 27 26,oJ 28 0] (.block 0 (.loop zF))) (oR [oS 4 (.mv (.c (.sl true []))),oJ 5 0,oJ 6 15] .ret))))),[(.tmp 4),(.tmp 5),(.tmp 6)],2,[113,1000000 + 86]⟩
theorem XS:nA Tryz.prog 32 RF:=okF Tryz.func32
def ET:C:=.seq (oR [oM 69 14,oM 70 13,oH 71 70,oB 72 .lss 69 71] (oD 72 .skip (.exit 2))) (.seq (.block 3 (oR [oM 75 9,oM 76 13,oM 77 14,oI 78 2 76 77,oA 79 2 78,oC2 80 35 75 79,oU 81 80] (oD 81 (oR [oM 82 9,oM 83 13,oM 84 14,oI 85 2 83 84,oA 86 2 85,oS 87 (.bsl [(.int .i64 0),(.int .i64 0)] 1 [(0,(.t 86))]),oAp 88 63 2 16 82 87,oM 9 88] (.reg [oM 89 8,oS 90 (.bsl [(.int .i64 0),(.int .i64 0)] 0 []),oM 91 8,oM 92 10,oI 93 1 91 92,oL 94 93,oAp 95 63 2 16 90 94,oM 96 13,oM 97 14,oI 98 2 96 97,oA 99 2 98,oS 100 (.bsl [(.int .i64 0),(.int .i64 0)] 1 [(0,(.t 99))]),oAp 101 63 2 16 95 100,oS 102 (.bsl [(.sl true [])] 1 [(0,(.t 101))]),oAp 103 51 1 24 89 102,oM 8 103])) .skip))) (.reg [oM 73 14,oC 74 .add 73 1,oM 14 74]))
def RT:C:=.seq (oR [oM 34 10,oM 35 8,oH 36 35,oB 37 .lss 34 36] (oD 37 .skip (.exit 0))) (.seq (.block 1 (oR [oM 40 9,oM 41 10,oI 42 2 40 41,oA 43 2 42,oY 11 [(.int .i64 0),(.int .i64 0)],oV 2 11 43] (.seq (oR [oF 44 0 2,oA 45 1 44,oS 46 (.aaddr 2 1 (.t 11) (.c (.int .i64 0))),oL 47 46,oF 48 0 3,oA 49 1 48,oS 50 (.aaddr 2 1 (.t 11) (.c (.int .i64 1))),oL 51 50,oC4 52 78 45 47 49 51,oM 12 52] (oR [oM 53 12,oC 54 .neq 53 0] (oD 54 (oR [oM 55 8,oM 56 10,oI 57 1 55 56,oL 58 57,oM 59 12,oM 4 58,oM 5 59,oJ 6 0] .ret) .skip))) (oR [oF 60 0 2,oA 61 1 60,oS 62 (.aaddr 2 1 (.t 11) (.c (.int .i64 0))),oL 63 62,oF 64 0 3,oA 65 1 64,oS 66 (.aaddr 2 1 (.t 11) (.c (.int .i64 1))),oL 67 66,oC4 68 41 61 63 65 67,oM 13 68] (oR [oJ 14 0] (.block 2 (.loop ET))))))) (.reg [oM 38 10,oC 39 .add 38 1,oM 10 39]))
def CQ:qB:=⟨(oR [oQ 2 2 0,oQ 3 2 1,oS 4 (.mv (.c (.sl true []))),oJ 5 0,oJ 6 0] (.seq (oR [oA 15 2 2,oA 16 2 3,oC2 17 43 15 16,oM 7 17] (oR [oM 18 7,oC 19 .neq 18 0] (oD 19 (oR [oM 20 7,oS 4 (.mv (.c (.sl true []))),oJ 5 0,oM 6 20] .ret) .skip))) (oR [oF 21 1 2,oL 22 21,oF 23 1 3,oL 24 23,oS 25 (.build [(.int .i64 0),(.int .i64 0)] [(0,(1,(.t 22))),(1,(1,(.t 24)))]),oS 26 (.bsl [(.int .i64 0),(.int .i64 0)] 1 [(0,(.t 25))]),oS 27 (.bsl [(.sl true [])] 1 [(0,(.t 26))]),oM 8 27] (oR [oF 28 1 2,oL 29 28,oF 30 1 3,oL 31 30,oS 32 (.build [(.int .i64 0),(.int .i64 0)] [(0,(1,(.t 29))),(1,(1,(.t 31)))]),oS 33 (.bsl [(.int .i64 0),(.int .i64 0)] 1 [(0,(.t 32))]),oM 9 33] (.seq (oR [oJ 10 0] (.block 0 (.loop RT))) (oR [oS 4 (.mv (.c (.sl true []))),oJ 5 0,oJ 6 15] .ret)))))),[(.tmp 4),(.tmp 5),(.tmp 6)],2,[]⟩
theorem GX:nA Tryz.prog 33 CQ:=okF Tryz.func33
def cG:C:=.seq (oR [oM 69 10,oM 70 9,oH 71 70,oB 72 .lss 69 71] (oD 72 .skip (.exit 3))) (.seq (.block 4 (.reg [oF 75 5 8,oLr 76 8 1 75,oM 77 9,oM 78 10,oI 79 1 77 78,oL 80 79,oM 81 9,oM 82 10,oI 83 1 81 82,oL 84 83,oS 85 (.bin .add false (.c (.int .i64 97)) (.t 84)),oS 86 (.conv (.some .i32) (.t 85)),oS 87 (.rstr (.t 86)),oS 88 (.bin .add false (.c (.str (ByteArray.mk #[115]))) (.t 87)),oS 89 (.build zzc [(0,(1,(.t 80))),(1,(1,(.t 88)))]),oS 90 (.bsl zzc 1 [(0,(.t 89))]),oAp 91 137 2 24 76 90,oF 92 5 8,oN (.store (.root 8) false 1 (.t 92) (.t 91))])) (.reg [oM 73 10,oC 74 .add 73 1,oM 10 74]))
def ZQ:C:=.seq (oR [oM 21 6,oM 22 4,oB 23 .lss 21 22] (oD 23 .skip (.exit 0))) (.seq (.block 1 (oR [oF 26 0 1,oL 27 26,oM 28 6,oI 29 5 27 28,oA 30 5 29,oY 7 zzd,oV 5 7 30] (oR [oA 31 1 1,oM 32 6,oC2 33 87 31 32,oS 34 (.build zze [(0,(1,(.t 33)))]),oY 8 zze,oV 10 8 34] (.seq (oR [oF 35 0 8,oL 36 35,oC1 37 88 36] (oD 37 (.reg [oM 38 6,oS 39 (.bin .add false (.c (.int .i64 65)) (.t 38)),oS 40 (.conv (.some .i32) (.t 39)),oS 41 (.rstr (.t 40)),oF 42 1 8,oW 42 41]) .skip)) (.seq (oR [oF 43 0 8,oL 44 43] (.block 2 (oR [oC 46 .eql 44 2,oM 45 46] (oD 45 (.reg [oS 47 (.load (.root 7) true 5 (.t 7)),oC1 48 89 47,oS 49 (.load (.root 7) true 5 (.t 7)),oC1 50 90 49,oF 51 2 8,oN (.store (.root 8) false 1 (.t 51) (.t 48)),oF 52 3 8,oN (.store (.root 8) false 1 (.t 52) (.t 50))]) (oR [oC 54 .eql 44 3,oM 53 54] (oD 53 (.reg [oF 55 1 7,oL 56 55,oS 57 (.bin .rem false (.t 56) (.c (.int .u8 4))),oS 58 (.conv (.some .i64) (.t 57)),oF 59 4 8,oW 59 58]) (oR [oC 61 .eql 44 4,oM 60 61] (oD 60 (oR [oF 62 2 7,oL 63 62,oS 64 (.bin .rem false (.t 63) (.c (.int .u8 2))),oS 65 (.bin .eql false (.t 64) (.c (.int .u8 1))),oF 66 9 8,oW 66 65] (oR [oA 67 5 7,oC1 68 91 67,oM 9 68] (oR [oJ 10 0] (.block 3 (.loop cG))))) (oR [oC 94 .eql 44 5,oM 93 94] (oD 93 (.reg [oA 95 1 1,oM 96 6,oS 97 (.callh 171 (.c (.fn 92 [])) [(.t 95),(.t 96),(.c (.bool true))]),oF 98 6 8,oW 98 97]) (oR [oC 100 .eql 44 6,oM 99 100] (oD 99 (oR [oF 101 2 7,oL 102 101,oS 103 (.bin .rem false (.t 102) (.c (.int .u8 2))),oS 104 (.bin .eql false (.t 103) (.c (.int .u8 1))),oF 105 9 8,oW 105 104] (oR [oA 106 1 1,oM 107 6,oS 108 (.callh 171 (.c (.fn 92 [])) [(.t 106),(.t 107),(.c (.bool false))]),oF 109 6 8,oW 109 108] (oR [oF 110 6 8,oL 111 110,oH 112 111,oC 113 .eql 112 0] (oD 113 (.reg [oF 114 1 8,oL 115 114,oS 116 (.build zze [(0,(1,(.c (.int .i64 5)))),(1,(1,(.t 115)))]),oV 10 8 116]) .skip)))) (oR [oC 118 .eql 44 7,oM 117 118] (oD 117 (.reg [oF 119 1 7,oLr 120 7 1 119,oS 121 (.bin .rem false (.t 120) (.c (.int .u8 4))),oS 122 (.conv (.some .i64) (.t 121)),oF 123 3 7,oLr 124 7 1 123,oS 125 (.conv (.some .i64) (.t 124)),oM 126 4,oB 127 .rem 125 126,oF 128 4 8,oN (.store (.root 8) false 1 (.t 128) (.t 122)),oF 129 8 8,oN (.store (.root 8) false 1 (.t 129) (.t 127))]) (oR [oC 131 .eql 44 8,oM 130 131] (oD 130 (oR [oF 132 1 7,oLr 133 7 1 132,oS 134 (.bin .rem false (.t 133) (.c (.int .u8 4))),oS 135 (.conv (.some .i64) (.t 134)),oS 136 (.load (.root 1) true 1 (.t 1)),oF 137 2 7,oLr 138 7 1 137,oC2 139 93 136 138,oF 140 3 7,oLr 141 7 1 140,oS 142 (.conv (.some .i64) (.t 141)),oM 143 4,oB 144 .rem 142 143,oF 145 4 8,oN (.store (.root 8) false 1 (.t 145) (.t 135)),oF 146 7 8,oN (.store (.root 8) false 1 (.t 146) (.t 139)),oF 147 8 8,oN (.store (.root 8) false 1 (.t 147) (.t 144))] (oR [oF 148 7 8,oL 149 148,oC 150 .lss 149 0] (oD 150 (.reg [oF 151 4 8,oL 152 151,oF 153 8 8,oL 154 153,oS 155 (.build zze [(0,(1,(.c (.int .i64 7)))),(4,(1,(.t 152))),(8,(1,(.t 154)))]),oV 10 8 155]) .skip))) (oR [oC 157 .eql 44 9,oM 156 157] (oD 156 (.reg [oF 158 3 7,oL 159 158,oS 160 (.conv (.some .i64) (.t 159)),oM 161 4,oB 162 .rem 160 161,oF 163 8 8,oW 163 162]) .skip)))))))))))))))))) (.reg [oF 164 0 5,oL 165 164,oA 166 10 8,oS 167 (.bslr 10 zze 1 [(0,(.t 166))]),oS 168 (.appn .any 132 10 120 (.t 165) (.t 167)),oF 169 0 5,oW 169 168])))))) (.reg [oM 24 6,oC 25 .add 24 1,oM 6 25]))
def iF:qB:=⟨(oR [oQ 1 1 0,oS 2 (.alloc [(.sl true [])]),oZ 3 false] (oR [oF 11 0 1,oL 12 11,oH 13 12,oM 4 13] (.seq (oR [oM 14 4,oC 15 .lss 14 1,oM 16 15,oMg 17 4 16 false,oCi 18 .gtr 17 5 16 false,oPo 19 16 18] (oD 19 (oR [oS 20 (.build [(.sl true [])] []),oV 1 2 20,oZ 3 false] .ret) .skip)) (oR [oS 5 (.alloc [(.sl true [])])] (.seq (oR [oJ 6 0] (.block 0 (.loop ZQ))) (oR [oA 170 1 5,oV 1 2 170,oZ 3 true] .ret)))))),[(.cell 2 true 1),(.tmp 3)],1,[5000000,337,334,1000000 + 92]⟩
theorem M7:nA Tryz.prog 34 iF:=okF Tryz.func34
def JH:C:=.seq (oR [oM 6 5,oM 7 0,oH 8 7,oB 9 .lss 6 8] (oD 9 .skip (.exit 0))) (.seq (.block 1 (oR [oM 12 0,oM 13 5,oI 14 2 12 13,oA 15 2 14,oA 16 2 3,oS 17 (.eqa false [0,0] (.t 15) (.t 16))] (oD 17 (oR [oZ 4 true] .ret) .skip))) (.reg [oM 10 5,oC 11 .add 10 1,oM 5 11]))
def HN:qB:=⟨(oR [oQ 3 2 1,oZ 4 false] (.seq (oR [oJ 5 0] (.block 0 (.loop JH))) (oR [oZ 4 false] .ret))),[(.tmp 4)],2,[]⟩
theorem w8:nA Tryz.prog 35 HN:=okF Tryz.func35
noncomputable def BQ:qB:=cF [] Tryz.f40
theorem HX:nA Tryz.prog 40 BQ:=okF Tryz.func40
def JE:C:=.seq (oR [oM 109 16,oM 110 11,oH 111 110,oB 112 .lss 109 111] (oD 112 .skip (.exit 2))) (.seq (.block 3 (oR [oM 115 15,oM 116 11,oM 117 16,oI 118 2 116 117,oA 119 2 118,oC2 120 35 115 119,oU 121 120] (oD 121 (.reg [oM 122 15,oM 123 11,oM 124 16,oI 125 2 123 124,oA 126 2 125,oS 127 (.bsl [(.int .i64 0),(.int .i64 0)] 1 [(0,(.t 126))]),oAp 128 63 2 16 122 127,oM 15 128]) .skip))) (.reg [oM 113 16,oC 114 .add 113 1,oM 16 114]))
def pG:C:=.seq (oR [oM 32 12,oF 33 6 9,oL 34 33,oH 35 34,oB 36 .lss 32 35] (oD 36 .skip (.exit 0))) (.seq (.block 1 (oR [oA 40 10 10,oF 41 6 9,oL 42 41,oM 43 12,oI 44 13 42 43,oF 45 0 44,oL 46 45,oC2 47 99 40 46,oM 39 47,oX 48 39 0,oX 49 39 1,oM 13 48,oM 14 49] (oR [oM 50 14] (oD 50 (.reg [oM 51 11,oF 52 6 9,oL 53 52,oM 54 12,oI 55 13 53 54,oF 56 2 55,oL 57 56,oF 58 6 10,oL 59 58,oM 60 13,oI 61 13 59 60,oF 62 2 61,oL 63 62,oS 64 (.build [(.int .i64 0),(.int .i64 0)] [(0,(1,(.t 57))),(1,(1,(.t 63)))]),oS 65 (.bsl [(.int .i64 0),(.int .i64 0)] 1 [(0,(.t 64))]),oAp 66 63 2 16 51 65,oM 11 66]) .skip)))) (.reg [oM 37 12,oC 38 .add 37 1,oM 12 38]))
def sJ:qB:=⟨(oR [oQ 4 1 0,oQ 6 1 2,oS 8 (.mv (.c (.sl true [])))] (oR [oF 17 0 4,oLr 18 4 1 17,oM 19 1,oI 20 10 18 19,oS 21 (.load .imm true 10 (.t 20)),oF 22 0 6,oLr 23 6 1 22,oM 24 3,oI 25 10 23 24,oS 26 (.load .imm true 10 (.t 25)),oY 9 zze,oY 10 zze,oN (.store (.root 9) true 10 (.t 9) (.t 21)),oN (.store (.root 10) true 10 (.t 10) (.t 26))] (.seq (oR [oF 27 0 9,oL 28 27,oF 29 0 10,oL 30 29,oB 31 .neq 28 30] (oD 31 (oR [oS 8 (.mv (.c (.sl true [])))] .ret) .skip)) (oR [oS 11 (.mv (.c (.sl true [])))] (.seq (oR [oJ 12 0] (.block 0 (.loop pG))) (.seq (oR [oF 67 0 9,oL 68 67,oC 69 .eql 68 8,oM 70 69,oFg 71 4 9 70 true,oP 72 71 70 true,oCi 73 .gtr 72 0 70 true,oPa 74 70 73] (oD 74 (.reg [oM 75 11,oF 76 7 9,oL 77 76,oF 78 7 10,oL 79 78,oS 80 (.build [(.int .i64 0),(.int .i64 0)] [(0,(1,(.t 77))),(1,(1,(.t 79)))]),oS 81 (.bsl [(.int .i64 0),(.int .i64 0)] 1 [(0,(.t 80))]),oAp 82 63 2 16 75 81,oM 11 82]) .skip)) (.seq (oR [oF 83 0 9,oL 84 83,oC 85 .eql 84 9,oM 86 85,oFg 87 0 9 86 false,oP 88 87 86 false,oCi 89 .eql 88 7 86 false,oMg 90 89 86 false,oFg 91 0 9 90 false,oP 92 91 90 false,oCi 93 .eql 92 8 90 false,oG 94 (.pick (.t 90) (.c (.bool true)) (.t 93)) 86 false,oMg 95 94 86 false,oFg 96 4 9 95 true,oP 97 96 95 true,oCi 98 .gtr 97 0 95 true,oPb 99 95 98 86 false,oPo 100 86 99] (oD 100 (.reg [oM 101 11,oF 102 8 9,oL 103 102,oF 104 8 10,oL 105 104,oS 106 (.build [(.int .i64 0),(.int .i64 0)] [(0,(1,(.t 103))),(1,(1,(.t 105)))]),oS 107 (.bsl [(.int .i64 0),(.int .i64 0)] 1 [(0,(.t 106))]),oAp 108 63 2 16 101 107,oM 11 108]) .skip)) (oR [oS 15 (.mv (.c (.sl true [])))] (.seq (oR [oJ 16 0] (.block 2 (.loop JE))) (oR [oM 129 15,oM 8 129] .ret)))))))))),[(.tmp 8)],4,[]⟩
theorem XY:nA Tryz.prog 41 sJ:=okF Tryz.func41
def HH:qB:=⟨(oR [oQ 2 2 0,oQ 3 2 1,oJ 4 0] (.seq (oR [oF 6 0 2,oA 7 1 6,oF 8 1 2,oL 9 8,oC2 10 101 7 9,oM 5 10] (oR [oM 11 5,oC 12 .neq 11 0] (oD 12 (oR [oM 13 5,oM 4 13] .ret) .skip))) (oR [oF 14 0 3,oA 15 1 14,oF 16 1 3,oL 17 16,oC2 18 101 15 17,oM 4 18] .ret))),[(.tmp 4)],2,[]⟩
theorem JX:nA Tryz.prog 43 HH:=okF Tryz.func43
def pF:C:=.seq (oR [oM 37 9,oF 38 1 1,oL 39 38,oH 40 39,oB 41 .lss 37 40] (oD 41 .skip (.exit 0))) (.seq (.block 1 (.seq (oR [oF 44 1 1,oL 45 44,oM 46 9,oI 47 1 45 46,oL 48 47,oH 49 48,oC 50 .gtr 49 3] (oD 50 (oR [oS 2 (.mv (.c (.sl true []))),oZ 3 false] .ret) .skip)) (oR [oS 51 (.load (.root 8) true 1 (.t 8)),oF 52 1 1,oLr 53 1 1 52,oM 54 9,oI 55 1 53 54,oS 56 (.load .imm false 1 (.t 55)),oS 57 (.call .imm 69 [(.t 51),(.t 56)]),oN (.store (.root 8) true 1 (.t 8) (.t 57))] (oR [oA 59 1 8,oC1 60 34 59,oM 58 60,oX 61 58 0,oX 62 58 1,oV 1 4 61,oM 5 62] (.seq (oR [oM 63 5,oU 64 63] (oD 64 (oR [oS 2 (.mv (.c (.sl true []))),oZ 3 false] .ret) .skip)) (.reg [oM 65 7,oA 66 1 4,oM 67 6,oS 68 (.build [(.sl true []),(.int .i64 0)] [(0,(1,(.t 66))),(1,(1,(.t 67)))]),oS 69 (.bsl [(.sl true []),(.int .i64 0)] 1 [(0,(.t 68))]),oAp 70 33 2 32 65 69,oM 7 70])))))) (.reg [oM 42 9,oC 43 .add 42 1,oM 9 43]))
def tK:qB:=⟨(oR [oQ 1 3 0,oS 2 (.mv (.c (.sl true []))),oZ 3 false] (oR [oF 11 0 1,oA 12 1 11,oC1 13 34 12,oM 10 13,oX 14 10 0,oX 15 10 1,oS 4 (.alloc [(.sl true [])]),oV 1 4 14,oM 5 15] (.seq (oR [oM 16 5,oU 17 16,oM 18 17,oFg 19 1 1 18 false,oP 20 19 18 false,oHg 21 20 18 false,oCi 22 .gtr 21 4 18 false,oPo 23 18 22] (oD 23 (oR [oS 2 (.mv (.c (.sl true []))),oZ 3 false] .ret) .skip)) (oR [oF 24 2 1,oL 25 24,oS 26 (.conv (.some .i64) (.t 25)),oF 27 0 4,oL 28 27,oH 29 28,oB 30 .rem 26 29,oM 6 30] (oR [oA 31 1 4,oM 32 6,oS 33 (.build [(.sl true []),(.int .i64 0)] [(0,(1,(.t 31))),(1,(1,(.t 32)))]),oS 34 (.bsl [(.sl true []),(.int .i64 0)] 1 [(0,(.t 33))]),oM 7 34] (oR [oF 35 0 1,oA 36 1 35,oS 8 (.alloc [(.sl true [])]),oV 1 8 36] (.seq (oR [oJ 9 0] (.block 0 (.loop pF))) (oR [oM 71 7,oM 2 71,oZ 3 true] .ret)))))))),[(.tmp 2),(.tmp 3)],1,[]⟩
theorem i8:nA Tryz.prog 44 tK:=okF Tryz.func44
noncomputable def LQ:qB:=cF [] Tryz.f45
theorem bX:nA Tryz.prog 45 LQ:=okF Tryz.func45
def aE:C:=oR [oB 30 .lss 29 28] (.seq (oD 30 .skip (.exit 2)) (.seq (.block 3 (oR [oI 31 2 27 29,oA 32 2 31,oS 9 (.alloc [(.sl true []),(.int .i64 0)]),oV 2 9 32] (oR [oA 34 2 7,oA 35 2 9,oC2 36 21 34 35,oM 33 36,oX 37 33 0,oX 38 33 1,oM 10 37,oM 11 38] (.reg [oM 39 5,oM 40 6,oM 41 5,oM 42 6,oI 43 1 41 42,oL 44 43,oM 45 10,oS 46 (.bsl [(.bool false)] 1 [(0,(.t 45))]),oAp 47 4 1 1 44 46,oI 48 1 39 40,oW 48 47])))) (.reg [oC 49 .add 29 1,oM 29 49])))
def fF:C:=oR [oB 23 .lss 22 21] (.seq (oD 23 .skip (.exit 0)) (.seq (.block 1 (oR [oM 24 22,oI 25 2 20 22,oA 26 2 25,oS 7 (.alloc [(.sl true []),(.int .i64 0)]),oM 6 24,oV 2 7 26] (oR [oM 27 0,oH 28 27,oJ 29 0] (.block 2 (.loop aE))))) (.reg [oC 50 .add 22 1,oM 22 50])))
def zE:qB:=⟨(oR [oS 2 (.mv (.c (.sl true []))),oJ 3 0] (.seq (oR [oM 12 0,oC1 13 103 12,oM 4 13] (oR [oM 14 4,oC 15 .neq 14 0] (oD 15 (oR [oM 16 4,oS 2 (.mv (.c (.sl true []))),oM 3 16] .ret) .skip))) (oR [oM 17 0,oH 18 17,oS 19 (.mks 1 24 [(.sl true [])] (.t 18) (.t 18)),oM 5 19] (.seq (oR [oM 20 0,oH 21 20,oJ 22 0] (.block 0 (.loop fF))) (oR [oM 51 5,oM 2 51,oJ 3 0] .ret))))),[(.tmp 2),(.tmp 3)],1,[]⟩
theorem OS:nA Tryz.prog 46 zE:=okF Tryz.func46
def qS:C:=.seq (oR [oM 20 8,oM 21 0,oH 22 21,oB 23 .lss 20 22] (oD 23 .skip (.exit 2))) (.seq (.block 3 (.reg [oM 26 7,oM 27 0,oM 28 6,oM 29 8,oS 30 (.call .any 104 [(.t 27),(.t 28),(.t 29)]),oS 31 (.bsl [(.bool false)] 1 [(0,(.t 30))]),oAp 32 4 1 1 26 31,oM 7 32])) (.reg [oM 24 8,oC 25 .add 24 1,oM 8 25]))
def wS:C:=.seq (oR [oM 14 6,oM 15 0,oH 16 15,oB 17 .lss 14 16] (oD 17 .skip (.exit 0))) (.seq (.block 1 (oR [oS 7 (.mv (.c (.sl true [])))] (.seq (oR [oJ 8 0] (.block 2 (.loop qS))) (.reg [oM 33 5,oM 34 7,oS 35 (.bsl [(.sl true [])] 1 [(0,(.t 34))]),oAp 36 71 1 24 33 35,oM 5 36])))) (.reg [oM 18 6,oC 19 .add 18 1,oM 6 19]))
def uP:qB:=⟨(oR [oS 2 (.mv (.c (.sl true []))),oJ 3 0] (.seq (oR [oM 9 0,oC1 10 58 9,oM 4 10] (oR [oM 11 4,oC 12 .neq 11 0] (oD 12 (oR [oM 13 4,oS 2 (.mv (.c (.sl true []))),oM 3 13] .ret) .skip))) (oR [oS 5 (.mv (.c (.sl true [])))] (.seq (oR [oJ 6 0] (.block 0 (.loop wS))) (oR [oM 37 5,oM 2 37,oJ 3 0] .ret))))),[(.tmp 2),(.tmp 3)],1,[]⟩
theorem DV:nA Tryz.prog 47 uP:=okF Tryz.func47
def DO:C:=oR [oB 20 .lss 19 18] (.seq (oD 20 .skip (.exit 2)) (.seq (.block 3 (oR [oM 21 19,oM 7 21] (oR [oM 22 4,oM 23 7,oI 24 1 22 23,oL 25 24,oM 26 6,oI 27 1 25 26,oL 28 27,oU 29 28] (oD 29 (oR [oM 30 5,oZ 2 false,oM 3 30] .ret) .skip)))) (.reg [oC 31 .add 19 1,oM 19 31])))
def FO:C:=oR [oB 16 .lss 15 14] (.seq (oD 16 .skip (.exit 0)) (.seq (.block 1 (oR [oM 17 15,oM 6 17] (oR [oM 18 6,oJ 19 0] (.block 2 (.loop DO))))) (.reg [oC 32 .add 15 1,oM 15 32])))
def qM:qB:=⟨(oR [oZ 2 false,oJ 3 0] (oR [oM 9 0,oC1 10 46 9,oM 8 10,oX 11 8 0,oX 12 8 1,oM 4 11,oM 5 12] (.seq (oR [oM 13 4,oH 14 13,oJ 15 0] (.block 0 (.loop FO))) (oR [oM 33 5,oC 34 .eql 33 0,oM 35 5,oM 2 34,oM 3 35] .ret)))),[(.tmp 2),(.tmp 3)],1,[]⟩
theorem QQ:nA Tryz.prog 50 qM:=okF Tryz.func50
def zQ:C:=.seq (oR [oM 18 6,oM 19 5,oB 20 .lss 18 19] (oD 20 .skip (.exit 2))) (.seq (.block 3 (oR [oM 23 0,oM 24 6,oM 25 5,oS 26 (.call .any 104 [(.t 23),(.t 24),(.t 25)]),oU 27 26] (oD 27 (oR [oZ 2 false,oJ 3 0] .ret) .skip))) (.reg [oM 21 6,oC 22 .add 21 1,oM 6 22]))
def xQ:C:=.seq (oR [oM 12 5,oM 13 0,oH 14 13,oB 15 .lss 12 14] (oD 15 .skip (.exit 0))) (.seq (.block 1 (oR [oJ 6 0] (.block 2 (.loop zQ)))) (.reg [oM 16 5,oC 17 .add 16 1,oM 5 17]))
def jN:qB:=⟨(oR [oZ 2 false,oJ 3 0] (.seq (oR [oM 7 0,oC1 8 58 7,oM 4 8] (oR [oM 9 4,oC 10 .neq 9 0] (oD 10 (oR [oM 11 4,oZ 2 false,oM 3 11] .ret) .skip))) (.seq (oR [oJ 5 0] (.block 0 (.loop xQ))) (oR [oZ 2 true,oJ 3 0] .ret)))),[(.tmp 2),(.tmp 3)],1,[]⟩
theorem KS:nA Tryz.prog 51 jN:=okF Tryz.func51
def eP:C:=oR [oB 20 .lss 19 18] (.seq (oD 20 .skip (.exit 2)) (.seq (.block 3 (oR [oM 21 19,oM 7 21] (oR [oM 22 4,oM 23 6,oI 24 1 22 23,oL 25 24,oM 26 7,oI 27 1 25 26,oL 28 27,oU 29 28] (oD 29 (oR [oM 30 5,oZ 2 false,oM 3 30] .ret) .skip)))) (.reg [oC 31 .add 19 1,oM 19 31])))
def rP:C:=oR [oB 16 .lss 15 14] (.seq (oD 16 .skip (.exit 0)) (.seq (.block 1 (oR [oM 17 15,oM 6 17] (oR [oM 18 6,oJ 19 0] (.block 2 (.loop eP))))) (.reg [oC 32 .add 15 1,oM 15 32])))
def DM:qB:=⟨(oR [oZ 2 false,oJ 3 0] (oR [oM 9 0,oC1 10 46 9,oM 8 10,oX 11 8 0,oX 12 8 1,oM 4 11,oM 5 12] (.seq (oR [oM 13 4,oH 14 13,oJ 15 0] (.block 0 (.loop rP))) (oR [oM 33 5,oC 34 .eql 33 0,oM 35 5,oM 2 34,oM 3 35] .ret)))),[(.tmp 2),(.tmp 3)],1,[]⟩
theorem bR:nA Tryz.prog 52 DM:=okF Tryz.func52
def iR:C:=.seq (oR [oM 18 6,oM 19 5,oB 20 .lss 18 19] (oD 20 .skip (.exit 2))) (.seq (.block 3 (oR [oM 23 0,oM 24 5,oM 25 6,oS 26 (.call .any 104 [(.t 23),(.t 24),(.t 25)]),oU 27 26] (oD 27 (oR [oZ 2 false,oJ 3 0] .ret) .skip))) (.reg [oM 21 6,oC 22 .add 21 1,oM 6 22]))
def pR:C:=.seq (oR [oM 12 5,oM 13 0,oH 14 13,oB 15 .lss 12 14] (oD 15 .skip (.exit 0))) (.seq (.block 1 (oR [oJ 6 0] (.block 2 (.loop iR)))) (.reg [oM 16 5,oC 17 .add 16 1,oM 5 17]))
def RO:qB:=⟨(oR [oZ 2 false,oJ 3 0] (.seq (oR [oM 7 0,oC1 8 58 7,oM 4 8] (oR [oM 9 4,oC 10 .neq 9 0] (oD 10 (oR [oM 11 4,oZ 2 false,oM 3 11] .ret) .skip))) (.seq (oR [oJ 5 0] (.block 0 (.loop pR))) (oR [oZ 2 true,oJ 3 0] .ret)))),[(.tmp 2),(.tmp 3)],1,[]⟩
theorem xU:nA Tryz.prog 53 RO:=okF Tryz.func53
def BR:C:=.seq (oR [oM 21 8,oM 22 4,oH 23 22,oB 24 .lss 21 23,oM 25 24,oMg 26 4 25 true,oMg 27 8 25 true,oCi 28 .sub 27 1 25 true,oIg 29 1 26 28 25 true,oP 30 29 25 true,oMg 31 8 25 true,oIg 32 1 30 31 25 true,oP 33 32 25 true,oPa 34 25 33] (oD 34 .skip (.exit 2))) (.seq (.block 3 (oR [oM 37 4,oM 38 7,oI 39 1 37 38,oL 40 39,oM 41 8,oI 42 1 40 41,oL 43 42,oU 44 43] (oD 44 (.reg [oM 45 6,oM 46 7,oM 47 8,oS 48 (.build [(.int .i64 0),(.int .i64 0)] [(0,(1,(.t 46))),(1,(1,(.t 47)))]),oS 49 (.bsl [(.int .i64 0),(.int .i64 0)] 1 [(0,(.t 48))]),oAp 50 63 2 16 45 49,oM 6 50]) .skip))) (.reg [oM 35 8,oC 36 .add 35 1,oM 8 36]))
def NR:C:=oR [oB 17 .lss 16 15] (.seq (oD 17 .skip (.exit 0)) (.seq (.block 1 (oR [oM 18 16,oM 7 18] (oR [oM 19 7,oC 20 .add 19 1,oM 8 20] (.block 2 (.loop BR))))) (.reg [oC 51 .add 16 1,oM 16 51])))
def tP:qB:=⟨(oR [oS 2 (.mv (.c (.sl true []))),oJ 3 0] (oR [oM 10 0,oC1 11 46 10,oM 9 11,oX 12 9 0,oX 13 9 1,oM 4 12,oM 5 13] (oR [oS 6 (.mv (.c (.sl true [])))] (.seq (oR [oM 14 4,oH 15 14,oJ 16 0] (.block 0 (.loop NR))) (oR [oM 52 6,oM 53 5,oM 2 52,oM 3 53] .ret))))),[(.tmp 2),(.tmp 3)],1,[]⟩
theorem cV:nA Tryz.prog 54 tP:=okF Tryz.func54
def lV:C:=.seq (oR [oM 21 7,oM 22 0,oH 23 22,oB 24 .lss 21 23,oM 25 24,oMg 26 0 25 true,oMg 27 7 25 true,oCi 28 .sub 27 1 25 true,oMg 29 7 25 true,oG 30 (.call .any 104 [(.t 26),(.t 28),(.t 29)]) 25 true,oPa 31 25 30] (oD 31 .skip (.exit 2))) (.seq (.block 3 (oR [oM 34 0,oM 35 6,oM 36 7,oS 37 (.call .any 104 [(.t 34),(.t 35),(.t 36)]),oU 38 37] (oD 38 (.reg [oM 39 5,oM 40 6,oM 41 7,oS 42 (.build [(.int .i64 0),(.int .i64 0)] [(0,(1,(.t 40))),(1,(1,(.t 41)))]),oS 43 (.bsl [(.int .i64 0),(.int .i64 0)] 1 [(0,(.t 42))]),oAp 44 63 2 16 39 43,oM 5 44]) .skip))) (.reg [oM 32 7,oC 33 .add 32 1,oM 7 33]))
def zV:C:=.seq (oR [oM 13 6,oM 14 0,oH 15 14,oB 16 .lss 13 15] (oD 16 .skip (.exit 0))) (.seq (.block 1 (oR [oM 19 6,oC 20 .add 19 1,oM 7 20] (.block 2 (.loop lV)))) (.reg [oM 17 6,oC 18 .add 17 1,oM 6 18]))
def MR:qB:=⟨(oR [oS 2 (.mv (.c (.sl true []))),oJ 3 0] (.seq (oR [oM 8 0,oC1 9 58 8,oM 4 9] (oR [oM 10 4,oC 11 .neq 10 0] (oD 11 (oR [oM 12 4,oS 2 (.mv (.c (.sl true []))),oM 3 12] .ret) .skip))) (oR [oS 5 (.mv (.c (.sl true [])))] (.seq (oR [oJ 6 0] (.block 0 (.loop zV))) (oR [oM 45 5,oM 2 45,oJ 3 0] .ret))))),[(.tmp 2),(.tmp 3)],1,[]⟩
theorem NY:nA Tryz.prog 55 MR:=okF Tryz.func55
noncomputable def OH:qB:=cF [] Tryz.f57
theorem mM:nA Tryz.prog 57 OH:=okF Tryz.func57
def TT:C:=.seq (oR [oM 8 3,oM 9 0,oH 10 9,oB 11 .lss 8 10] (oD 11 .skip (.exit 0))) (.seq (.block 1 (.seq (oR [oM 14 0,oM 15 3,oI 16 2 14 15,oF 17 0 16,oA 18 1 17,oC1 19 97 18,oM 4 19] (oR [oM 20 4,oC 21 .neq 20 0] (oD 21 (oR [oM 22 4,oM 2 22] .ret) .skip))) (oR [oM 23 0,oM 24 3,oI 25 2 23 24,oF 26 1 25,oL 27 26,oC 28 .lss 27 0,oM 29 28,oMg 30 0 29 false,oMg 31 3 29 false,oIg 32 2 30 31 29 false,oFg 33 1 32 29 false,oP 34 33 29 false,oMg 35 0 29 false,oMg 36 3 29 false,oIg 37 2 35 36 29 false,oFg 38 0 37 29 false,oFg 39 0 38 29 false,oP 40 39 29 false,oHg 41 40 29 false,oBg 42 .geq 34 41 29 false,oPo 43 29 42] (oD 43 (oR [oJ 2 4] .ret) .skip)))) (.reg [oM 12 3,oC 13 .add 12 1,oM 3 13]))
def MQ:qB:=⟨(oR [oJ 2 0] (.seq (oR [oM 5 0,oH 6 5,oC 7 .gtr 6 8] (oD 7 (oR [oJ 2 3] .ret) .skip)) (.seq (oR [oJ 3 0] (.block 0 (.loop TT))) (oR [oJ 2 0] .ret)))),[(.tmp 2)],1,[]⟩
theorem ZX:nA Tryz.prog 58 MQ:=okF Tryz.func58
noncomputable def CI:qB:=cF [] Tryz.f60
theorem RN:nA Tryz.prog 60 CI:=okF Tryz.func60
noncomputable def FM:qB:=cF [] Tryz.f61
theorem nR:nA Tryz.prog 61 FM:=okF Tryz.func61
noncomputable def PH:qB:=cF [] Tryz.f65
theorem QM:nA Tryz.prog 65 PH:=okF Tryz.func65
def BF:C:=oR [oB 14 .lss 13 12] (.seq (oD 14 .skip (.exit 0)) (.seq (.block 1 (oR [oM 15 13,oM 5 15] (oR [oM 16 0,oM 17 5,oI 18 1 16 17,oL 19 18,oM 20 1,oM 21 5,oI 22 1 20 21,oL 23 22,oS 24 (.bin .neq true (.t 19) (.t 23))] (oD 24 (oR [oZ 4 false] .ret) .skip)))) (.reg [oC 25 .add 13 1,oM 13 25])))
def xF:qB:=⟨(oR [oZ 4 false] (.seq (oR [oM 6 0,oH 7 6,oM 8 1,oH 9 8,oB 10 .neq 7 9] (oD 10 (oR [oZ 4 false] .ret) .skip)) (.seq (oR [oM 11 0,oH 12 11,oJ 13 0] (.block 0 (.loop BF))) (oR [oZ 4 true] .ret)))),[(.tmp 4)],2,[]⟩
theorem nP:nA Tryz.prog 66 xF:=okF Tryz.func66
def LC:qB:=⟨(oR [oQ 2 2 0,oZ 3 false] (oR [oS 4 (.aaddr 2 1 (.t 2) (.c (.int .i64 1))),oL 5 4,oL 6 1,oB 7 .geq 5 6,oM 3 7] .ret)),[(.tmp 3)],2,[]⟩
theorem mH:nA Tryz.prog 68 LC:=okF Tryz.func68
def cC:C:=.seq (oR [oM 15 6,oM 16 1,oH 17 16,oB 18 .lss 15 17,oM 19 18,oFg 20 0 5 19 true,oP 21 20 19 true,oHg 22 21 19 true,oCi 23 .gtr 22 0 19 true,oPa 24 19 23] (oD 24 .skip (.exit 0))) (.seq (.block 1 (oR [oM 27 1,oM 28 6,oI 29 4 27 28,oA 30 4 29,oY 7 zzf,oV 4 7 30] (oR [oF 31 0 5,oLr 32 5 1 31,oF 33 1 7,oLr 34 7 1 33,oS 35 (.conv (.some .i64) (.t 34)),oF 36 0 5,oLr 37 5 1 36,oH 38 37,oB 39 .rem 35 38,oI 40 5 32 39,oM 8 40] (oR [oM 41 8,oS 42 (.bsl zzg 0 []),oM 43 8,oK 44 43,oF 45 4 44,oL 46 45,oS 47 (.appf .any 165 3 3 (.t 42) (.t 46)),oK 48 41,oF 49 4 48,oW 49 47] (oR [oJ 9 0] (.seq (oR [oM 50 8,oK 51 50,oF 52 4 51,oL 53 52,oH 54 53,oC 55 .gtr 54 0] (oD 55 (.reg [oF 56 2 7,oLr 57 7 1 56,oS 58 (.conv (.some .i64) (.t 57)),oM 59 8,oK 60 59,oF 61 4 60,oL 62 61,oH 63 62,oB 64 .rem 58 63,oM 9 64]) .skip)) (oR [oF 65 0 7,oL 66 65,oS 67 (.bin .rem false (.t 66) (.c (.int .u8 8)))] (.block 2 (oR [oS 93 (.bin .eql false (.t 67) (.c (.int .u8 0))),oM 92 93] (oD 92 (.reg [oM 94 8,oM 95 8,oK 96 95,oF 97 1 96,oL 98 97,oF 99 2 7,oLr 100 7 1 99,oS 101 (.bin .rem false (.t 100) (.c (.int .u8 5))),oB 102 .add 98 101,oS 103 (.bin .sub false (.t 102) (.c (.int .u8 2))),oK 104 94,oF 105 1 104,oW 105 103]) (oR [oS 107 (.bin .eql false (.t 67) (.c (.int .u8 1))),oM 106 107] (oD 106 (.reg [oM 108 8,oM 109 8,oK 110 109,oF 111 2 110,oL 112 111,oF 113 3 7,oLr 114 7 1 113,oS 115 (.bin .rem false (.t 114) (.c (.int .u8 5))),oB 116 .add 112 115,oS 117 (.bin .sub false (.t 116) (.c (.int .u8 2))),oK 118 108,oF 119 2 118,oW 119 117]) (oR [oS 121 (.bin .eql false (.t 67) (.c (.int .u8 2))),oM 120 121] (oD 120 (.reg [oM 122 8,oM 123 8,oK 124 123,oF 125 1 124,oL 126 125,oF 127 2 7,oLr 128 7 1 127,oS 129 (.bin .rem false (.t 128) (.c (.int .u8 6))),oS 130 (.bin .shl false (.c (.int .u8 1)) (.t 129)),oB 131 .xor 126 130,oK 132 122,oF 133 1 132,oW 133 131]) (oR [oS 135 (.bin .eql false (.t 67) (.c (.int .u8 3))),oM 134 135] (oD 134 (.reg [oM 136 8,oM 137 8,oK 138 137,oF 139 3 138,oL 140 139,oF 141 2 7,oLr 142 7 1 141,oB 143 .add 140 142,oK 144 136,oF 145 3 144,oW 145 143]) (oR [oS 147 (.bin .eql false (.t 67) (.c (.int .u8 4))),oM 146 147] (oD 146 (oR [oM 148 8,oK 149 148,oF 150 4 149,oL 151 150,oH 152 151,oC 153 .lss 152 8] (oD 153 (.reg [oM 154 8,oM 155 8,oK 156 155,oF 157 4 156,oL 158 157,oF 159 2 7,oLr 160 7 1 159,oF 161 3 7,oLr 162 7 1 161,oF 163 2 7,oLr 164 7 1 163,oS 165 (.bin .quo false (.t 164) (.c (.int .u8 12))),oS 166 (.build zzg [(0,(1,(.t 160))),(1,(1,(.t 162))),(2,(1,(.t 165)))]),oS 167 (.bsl zzg 1 [(0,(.t 166))]),oS 168 (.appm .any 165 3 3 (.t 158) (.t 167)),oK 169 154,oF 170 4 169,oW 170 168]) .skip)) (oR [oS 172 (.bin .eql false (.t 67) (.c (.int .u8 5))),oM 171 172] (oD 171 (oR [oM 173 8,oK 174 173,oF 175 4 174,oL 176 175,oH 177 176,oC 178 .gtr 177 0] (oD 178 (.reg [oM 179 8,oM 180 8,oK 181 180,oF 182 4 181,oL 183 182,oM 184 9,oS 185 (.slc false 3 (.t 183) .none (.some (.t 184)) .none),oM 186 8,oK 187 186,oF 188 4 187,oL 189 188,oM 190 9,oC 191 .add 190 1,oS 192 (.slc false 3 (.t 189) (.some (.t 191)) .none .none),oS 193 (.appm .any 165 3 3 (.t 185) (.t 192)),oK 194 179,oF 195 4 194,oW 195 193]) .skip)) (oR [oS 197 (.bin .eql false (.t 67) (.c (.int .u8 6))),oM 196 197] (oD 196 (oR [oM 198 8,oK 199 198,oF 200 4 199,oL 201 200,oH 202 201,oC 203 .gtr 202 0] (oD 203 (.reg [oM 204 8,oK 205 204,oF 206 4 205,oL 207 206,oM 208 9,oF 209 3 7,oLr 210 7 1 209,oI 211 3 207 208,oF 212 2 211,oW 212 210]) .skip)) (oR [oM 68 8,oK 69 68,oF 70 4 69,oL 71 70,oH 72 71,oC 73 .gtr 72 0] (oD 73 (.reg [oM 74 8,oK 75 74,oF 76 4 75,oL 77 76,oM 78 9,oM 79 8,oK 80 79,oF 81 4 80,oL 82 81,oM 83 9,oI 84 3 82 83,oF 85 1 84,oL 86 85,oF 87 3 7,oLr 88 7 1 87,oB 89 .add 86 88,oI 90 3 77 78,oF 91 1 90,oW 91 89]) .skip)))))))))))))))))))))))) (.reg [oM 25 6,oC 26 .add 25 1,oM 6 26]))
def tE:qB:=⟨(oR [oQ 2 1 0,oS 4 (.alloc [(.sl true [])])] (oR [oS 10 (.bsl zzd 0 []),oF 11 0 2,oL 12 11,oS 13 (.appf .any 127 5 32 (.t 10) (.t 12)),oS 14 (.build [(.sl true [])] [(0,(1,(.t 13)))]),oS 5 (.alloc [(.sl true [])]),oV 1 5 14] (.seq (oR [oJ 6 0] (.block 0 (.loop cC))) (oR [oA 213 1 5,oV 1 4 213] .ret)))),[(.cell 4 true 1)],2,[26,94,337,387]⟩
theorem aU:nA Tryz.prog 69 tE:=okF Tryz.func69
def WK:qB:=⟨(oR [oQ 5 1 0,oQ 7 8 2,oQ 8 1 3,oJ 10 0] (.seq (oR [oA 13 1 5,oM 14 1,oC2 15 120 13 14,oM 11 15] (oR [oM 16 11,oC 17 .neq 16 0] (oD 17 (oR [oM 18 11,oM 10 18] .ret) .skip))) (.seq (oR [oA 19 1 8,oM 20 4,oC2 21 120 19 20,oM 12 21] (oR [oM 22 12,oC 23 .neq 22 0] (oD 23 (oR [oM 24 12,oM 10 24] .ret) .skip))) (.seq (oR [oA 25 1 5,oM 26 1,oA 27 8 7,oS 28 (.call .any 121 [(.t 25),(.t 26),(.t 27)]),oU 29 28] (oD 29 (oR [oJ 10 1] .ret) .skip)) (oR [oJ 10 0] .ret))))),[(.tmp 10)],5,[]⟩
theorem DX:nA Tryz.prog 74 WK:=okF Tryz.func74
def qL:C:=.seq (oR [oM 164 20,oF 165 6 8,oL 166 165,oH 167 166,oB 168 .lss 164 167] (oD 168 .skip (.exit 2))) (.seq (.block 3 (oR [oS 171 (.load (.root 6) true 1 (.t 6)),oF 172 8 13,oLr 173 13 1 172,oF 174 6 8,oLr 175 8 1 174,oM 176 20,oI 177 8 175 176,oS 178 (.load .imm true 8 (.t 177)),oS 179 (.load (.root 9) true 1 (.t 9)),oF 180 8 14,oLr 181 14 1 180,oM 182 5,oM 183 20,oS 184 (.call .imm 126 [(.t 182),(.t 183)]),oS 185 (.call .imm 75 [(.t 171),(.t 173),(.t 178),(.t 179),(.t 181),(.t 184)]),oY 21 zzb,oN (.store (.root 21) true 10 (.t 21) (.t 185))] (.seq (oR [oF 186 9 21,oL 187 186,oU 188 187] (oD 188 (oR [oA 189 10 21,oV 10 12 189] .ret) .skip)) (.reg [oF 190 6 17,oL 191 190,oF 192 0 21,oA 193 8 192,oS 194 (.bsl zza 1 [(0,(.t 193))]),oAp 195 40 8 120 191 194,oF 196 6 17,oW 196 195])))) (.reg [oM 169 20,oC 170 .add 169 1,oM 20 170]))
def wL:C:=.seq (oR [oM 131 18,oF 132 5 8,oL 133 132,oH 134 133,oB 135 .lss 131 134] (oD 135 .skip (.exit 0))) (.seq (.block 1 (oR [oS 138 (.load (.root 6) true 1 (.t 6)),oF 139 7 13,oLr 140 13 1 139,oF 141 5 8,oLr 142 8 1 141,oM 143 18,oI 144 8 142 143,oS 145 (.load .imm true 8 (.t 144)),oS 146 (.load (.root 9) true 1 (.t 9)),oF 147 7 14,oLr 148 14 1 147,oM 149 5,oM 150 18,oS 151 (.call .imm 126 [(.t 149),(.t 150)]),oS 152 (.call .imm 75 [(.t 138),(.t 140),(.t 145),(.t 146),(.t 148),(.t 151)]),oY 19 zzb,oN (.store (.root 19) true 10 (.t 19) (.t 152))] (.seq (oR [oF 153 9 19,oL 154 153,oU 155 154] (oD 155 (oR [oA 156 10 19,oV 10 12 156] .ret) .skip)) (.reg [oF 157 5 17,oL 158 157,oF 159 0 19,oA 160 8 159,oS 161 (.bsl zza 1 [(0,(.t 160))]),oAp 162 40 8 120 158 161,oF 163 5 17,oW 163 162])))) (.reg [oM 136 18,oC 137 .add 136 1,oM 18 137]))
def BB:qB:=⟨(oR [oQ 6 1 0,oQ 8 8 2,oQ 9 1 3,oY 12 zzb] (oR [oF 22 0 6,oLr 23 6 1 22,oM 24 1,oI 25 10 23 24,oS 26 (.load .imm true 10 (.t 25)),oF 27 0 9,oLr 28 9 1 27,oM 29 4,oI 30 10 28 29,oS 31 (.load .imm true 10 (.t 30)),oY 13 zze,oY 14 zze,oN (.store (.root 13) true 10 (.t 13) (.t 26)),oN (.store (.root 14) true 10 (.t 14) (.t 31))] (.seq (oR [oF 32 0 13,oL 33 32,oF 34 0 14,oL 35 34,oB 36 .neq 33 35] (oD 36 (oR [oM 37 5,oC1 38 122 37,oV 10 12 38] .ret) .skip)) (.seq (oR [oF 39 0 13,oL 40 39,oC 41 .eql 40 2,oM 42 41,oFg 43 2 8 42 true,oP 44 43 42 true,oFg 45 2 14 42 true,oP 46 45 42 true,oBg 47 .lss 44 46 42 true,oMg 48 47 42 true,oFg 49 2 8 48 false,oP 50 49 48 false,oFg 51 3 14 48 false,oP 52 51 48 false,oBg 53 .gtr 50 52 48 false,oG 54 (.pick (.t 48) (.c (.bool true)) (.t 53)) 42 true,oPa 55 42 54] (oD 55 (oR [oM 56 5,oC1 57 122 56,oV 10 12 57] .ret) .skip)) (.seq (oR [oF 58 0 13,oL 59 58,oC 60 .eql 59 3,oM 61 60,oFg 62 3 8 61 true,oP 63 62 61 true,oG 64 (.len true (.t 63)) 61 true,oFg 65 4 14 61 true,oP 66 65 61 true,oBg 67 .gtr 64 66 61 true,oPa 68 61 67] (oD 68 (oR [oM 69 5,oC1 70 122 69,oV 10 12 70] .ret) .skip)) (.seq (oR [oF 71 0 13,oL 72 71,oC 73 .eql 72 4] (oD 73 (oR [oA 75 10 14,oF 76 4 8,oL 77 76,oC2 78 123 75 77,oM 74 78,oX 79 74 0,oX 80 74 1,oM 15 79,oM 16 80] (oR [oM 81 16,oU 82 81,oM 83 82,oFg 84 9 14 83 true,oP 85 84 83 true,oUg 86 85 83 true,oPa 87 83 86] (oD 87 (oR [oM 88 5,oC1 89 122 88,oV 10 12 89] .ret) .skip))) .skip)) (.seq (oR [oF 90 0 13,oL 91 90,oC 92 .eql 91 7,oM 93 92,oFg 94 0 13 93 false,oP 95 94 93 false,oCi 96 .eql 95 8 93 false,oPo 97 93 96,oM 98 97,oFg 99 6 8 98 true,oP 100 99 98 true,oHg 101 100 98 true,oFg 102 4 14 98 true,oP 103 102 98 true,oBg 104 .gtr 101 103 98 true,oPa 105 98 104] (oD 105 (oR [oM 106 5,oC1 107 122 106,oV 10 12 107] .ret) .skip)) (.seq (oR [oF 108 0 13,oL 109 108,oC 110 .eql 109 6] (oD 110 (oR [oA 111 1 6,oA 112 10 13,oA 113 8 8,oA 114 1 9,oA 115 10 14,oM 116 5,oS 117 (.call .any 124 [(.t 111),(.t 112),(.t 113),(.t 114),(.t 115),(.t 116)]),oV 10 12 117] .ret) .skip)) (.seq (oR [oF 118 0 13,oL 119 118,oC 120 .eql 119 5] (oD 120 (oR [oA 121 1 6,oA 122 10 13,oA 123 8 8,oA 124 1 9,oA 125 10 14,oM 126 5,oS 127 (.call .any 125 [(.t 121),(.t 122),(.t 123),(.t 124),(.t 125),(.t 126)]),oV 10 12 127] .ret) .skip)) (oR [oA 128 8 8,oY 17 zza,oV 8 17 128] (oR [oF 129 5 17,oN (.store .any false 1 (.t 129) (.c (.sl true []))),oF 130 6 17,oN (.store .any false 1 (.t 130) (.c (.sl true [])))] (.seq (oR [oJ 18 0] (.block 0 (.loop wL))) (.seq (oR [oJ 20 0] (.block 2 (.loop qL))) (oR [oA 197 8 17,oC1 198 127 197,oV 10 12 198] .ret)))))))))))))),[(.cell 12 true 10)],6,[]⟩
theorem LY:nA Tryz.prog 75 BB:=okF Tryz.func75
def aG:qB:=⟨(oR [oQ 2 2 0,oQ 3 2 1,oJ 4 0] (.seq (oR [oF 6 0 2,oA 7 1 6,oF 8 1 2,oL 9 8,oC2 10 128 7 9,oM 5 10] (oR [oM 11 5,oC 12 .neq 11 0] (oD 12 (oR [oM 13 5,oM 4 13] .ret) .skip))) (oR [oF 14 0 3,oA 15 1 14,oF 16 1 3,oL 17 16,oC2 18 128 15 17,oM 4 18] .ret))),[(.tmp 4)],2,[]⟩
theorem nU:nA Tryz.prog 76 aG:=okF Tryz.func76
def SA:qB:=⟨(oR [oQ 4 1 0,oQ 6 1 2,oJ 8 0] (oR [oF 11 0 4,oLr 12 4 1 11,oM 13 1,oI 14 10 12 13,oS 15 (.load .imm true 10 (.t 14)),oF 16 0 6,oLr 17 6 1 16,oM 18 3,oI 19 10 17 18,oS 20 (.load .imm true 10 (.t 19)),oY 9 zze,oY 10 zze,oN (.store (.root 9) true 10 (.t 9) (.t 15)),oN (.store (.root 10) true 10 (.t 10) (.t 20))] (.seq (oR [oF 21 0 9,oL 22 21,oF 23 0 10,oL 24 23,oB 25 .neq 22 24] (oD 25 (oR [oJ 8 9] .ret) .skip)) (.seq (.block 0 (oR [oF 27 0 9,oL 28 27,oC 29 .eql 28 2,oM 30 29,oFg 31 2 9 30 true,oP 32 31 30 true,oFg 33 2 10 30 true,oP 34 33 30 true,oBg 35 .lss 32 34 30 true,oMg 36 35 30 true,oFg 37 3 9 36 false,oP 38 37 36 false,oFg 39 3 10 36 false,oP 40 39 36 false,oBg 41 .gtr 38 40 36 false,oG 42 (.pick (.t 36) (.c (.bool true)) (.t 41)) 30 true,oPa 43 30 42,oM 26 43] (oD 26 (oR [oJ 8 2] .ret) (oR [oF 45 0 9,oL 46 45,oC 47 .eql 46 3,oM 48 47,oFg 49 0 9 48 false,oP 50 49 48 false,oCi 51 .eql 50 7 48 false,oPo 52 48 51,oM 53 52,oFg 54 4 9 53 true,oP 55 54 53 true,oFg 56 4 10 53 true,oP 57 56 53 true,oBg 58 .gtr 55 57 53 true,oPa 59 53 58,oM 44 59] (oD 44 (oR [oJ 8 3] .ret) (oR [oF 61 0 9,oL 62 61,oC 63 .eql 62 8,oM 64 63,oFg 65 4 9 64 true,oP 66 65 64 true,oFg 67 0 4 64 true,oP 68 67 64 true,oFg 69 7 9 64 true,oP 70 69 64 true,oIg 71 10 68 70 64 true,oLg 72 10 71 64 true,oG 73 (.call .any 129 [(.t 72)]) 64 true,oG 74 (.mm false (.t 66) (.t 73)) 64 true,oFg 75 4 10 64 true,oP 76 75 64 true,oBg 77 .gtr 74 76 64 true,oPa 78 64 77,oM 60 78] (oD 60 (oR [oJ 8 3] .ret) (oR [oF 80 0 9,oL 81 80,oC 82 .eql 81 4,oM 83 82,oLg 84 10 9 83 true,oLg 85 10 10 83 true,oCg 86 130 84 85 83 true,oUg 87 86 83 true,oPa 88 83 87,oM 79 88] (oD 79 (oR [oJ 8 4] .ret) (oR [oF 90 0 9,oL 91 90,oC 92 .eql 91 6,oM 93 92,oLg 94 10 9 93 true,oLg 95 10 10 93 true,oCg 96 130 94 95 93 true,oUg 97 96 93 true,oPa 98 93 97,oM 89 98] (oD 89 (oR [oJ 8 5] .ret) (oR [oF 100 0 9,oL 101 100,oC 102 .eql 101 5,oM 99 102] (oD 99 (oR [oA 103 1 4,oA 104 10 9,oA 105 1 6,oA 106 10 10,oC4 107 131 103 104 105 106,oM 8 107] .ret) .skip))))))))))))) (oR [oJ 8 0] .ret))))),[(.tmp 8)],4,[]⟩
theorem ER:nA Tryz.prog 77 SA:=okF Tryz.func77
def rB:qB:=⟨(oR [oQ 4 1 0,oQ 6 1 2,oJ 8 0] (oR [oF 11 0 4,oLr 12 4 1 11,oM 13 1,oI 14 10 12 13,oS 15 (.load .imm true 10 (.t 14)),oF 16 0 6,oLr 17 6 1 16,oM 18 3,oI 19 10 17 18,oS 20 (.load .imm true 10 (.t 19)),oY 9 zze,oY 10 zze,oN (.store (.root 9) true 10 (.t 9) (.t 15)),oN (.store (.root 10) true 10 (.t 10) (.t 20))] (.seq (oR [oF 21 0 9,oL 22 21,oF 23 0 10,oL 24 23,oB 25 .neq 22 24] (oD 25 (oR [oJ 8 9] .ret) .skip)) (.seq (oR [oF 26 0 9,oL 27 26] (.block 0 (oR [oC 29 .eql 27 2,oM 28 29] (oD 28 (oR [oF 30 2 9,oL 31 30,oF 32 2 10,oL 33 32,oB 34 .lss 31 33,oM 35 34,oFg 36 3 9 35 false,oP 37 36 35 false,oFg 38 3 10 35 false,oP 39 38 35 false,oBg 40 .gtr 37 39 35 false,oPo 41 35 40] (oD 41 (oR [oJ 8 2] .ret) .skip)) (.seq (oR [oC 43 .eql 27 3,oM 42 43] (oD 42 .skip (.reg [oC 44 .eql 27 7,oM 42 44]))) (oD 42 (oR [oF 45 4 9,oL 46 45,oF 47 4 10,oL 48 47,oB 49 .gtr 46 48] (oD 49 (oR [oJ 8 3] .ret) .skip)) (oR [oC 51 .eql 27 8,oM 50 51] (oD 50 (oR [oF 52 4 9,oL 53 52,oF 54 0 4,oL 55 54,oF 56 7 9,oL 57 56,oI 58 10 55 57,oA 59 10 58,oC1 60 132 59,oS 61 (.mm false (.t 53) (.t 60)),oF 62 4 10,oL 63 62,oB 64 .gtr 61 63] (oD 64 (oR [oJ 8 3] .ret) .skip)) (oR [oC 66 .eql 27 4,oM 65 66] (oD 65 (oR [oF 67 9 10,oL 68 67,oU 69 68,oM 70 69,oLg 71 10 9 70 true,oLg 72 10 10 70 true,oCg 73 133 71 72 70 true,oUg 74 73 70 true,oPa 75 70 74] (oD 75 (oR [oJ 8 4] .ret) .skip)) (oR [oC 77 .eql 27 6,oM 76 77] (oD 76 (oR [oF 78 9 10,oL 79 78,oU 80 79,oM 81 80,oLg 82 10 9 81 true,oLg 83 10 10 81 true,oCg 84 133 82 83 81 true,oUg 85 84 81 true,oPa 86 81 85] (oD 86 (oR [oJ 8 5] .ret) .skip)) (oR [oC 88 .eql 27 5,oM 87 88] (oD 87 (oR [oA 89 1 4,oA 90 10 9,oA 91 1 6,oA 92 10 10,oC4 93 134 89 90 91 92,oM 8 93] .ret) .skip)))))))))))))) (oR [oJ 8 0] .ret))))),[(.tmp 8)],4,[]⟩
theorem PV:nA Tryz.prog 78 rB:=okF Tryz.func78
def JD:C:=oR [oB 38 .lss 37 36] (.seq (oD 38 .skip (.exit 0)) (.seq (.block 1 (oR [oI 39 13 35 37,oA 40 13 39,oY 14 zzh,oV 13 14 40] (oR [oA 42 10 10,oF 43 0 14,oL 44 43,oC2 45 137 42 44,oM 41 45,oX 46 41 0,oX 47 41 1,oM 15 46,oM 16 47] (oR [oM 48 16] (oD 48 (.reg [oM 49 12,oF 50 2 14,oLr 51 14 1 50,oF 52 6 10,oLr 53 10 1 52,oM 54 15,oI 55 13 53 54,oF 56 2 55,oL 57 56,oS 58 (.callh 99 (.t 49) [(.t 51),(.t 57)])]) .skip))))) (.reg [oC 59 .add 37 1,oM 37 59])))
def UD:qB:=⟨(oR [oQ 4 1 0,oQ 6 1 2,oS 8 (.mv (.c (.sl true [])))] (oR [oF 17 0 4,oLr 18 4 1 17,oM 19 1,oI 20 10 18 19,oS 21 (.load .imm true 10 (.t 20)),oF 22 0 6,oLr 23 6 1 22,oM 24 3,oI 25 10 23 24,oS 26 (.load .imm true 10 (.t 25)),oY 9 zze,oY 10 zze,oN (.store (.root 9) true 10 (.t 9) (.t 21)),oN (.store (.root 10) true 10 (.t 10) (.t 26))] (oR [oS 11 (.alloc [(.sl true [])])] (.seq (oR [oF 27 0 9,oL 28 27,oF 29 0 10,oL 30 29,oB 31 .neq 28 30] (oD 31 (oR [oL 32 11,oM 8 32] .ret) .skip)) (oR [oS 33 (.mkf 135 [(.t 11)]),oM 12 33] (.seq (oR [oF 34 6 9,oL 35 34,oH 36 35,oJ 37 0] (.block 0 (.loop JD))) (.seq (oR [oF 60 0 9,oL 61 60,oC 62 .eql 61 8,oM 63 62,oFg 64 4 9 63 true,oP 65 64 63 true,oCi 66 .gtr 65 0 63 true,oPa 67 63 66] (oD 67 (.reg [oM 68 12,oF 69 7 9,oL 70 69,oF 71 7 10,oL 72 71,oS 73 (.callh 99 (.t 68) [(.t 70),(.t 72)])]) .skip)) (.seq (oR [oF 74 0 9,oL 75 74,oC 76 .eql 75 9,oM 77 76,oFg 78 0 9 77 false,oP 79 78 77 false,oCi 80 .eql 79 7 77 false,oMg 81 80 77 false,oFg 82 0 9 81 false,oP 83 82 81 false,oCi 84 .eql 83 8 81 false,oG 85 (.pick (.t 81) (.c (.bool true)) (.t 84)) 77 false,oMg 86 85 77 false,oFg 87 4 9 86 true,oP 88 87 86 true,oCi 89 .gtr 88 0 86 true,oPb 90 86 89 77 false,oPo 91 77 90] (oD 91 (.reg [oM 92 12,oF 93 8 9,oL 94 93,oF 95 8 10,oL 96 95,oS 97 (.callh 99 (.t 92) [(.t 94),(.t 96)])]) .skip)) (oR [oL 98 11,oM 8 98] .ret))))))))),[(.tmp 8)],4,[2000049,2000068,2000092]⟩
theorem fO:nA Tryz.prog 79 UD:=okF Tryz.func79
def fI:C:=.seq (oR [oM 16 10,oM 17 9,oH 18 17,oB 19 .lss 16 18] (oD 19 .skip (.exit 0))) (.seq (.block 1 (oR [oA 22 1 4,oM 23 9,oM 24 10,oI 25 2 23 24,oS 26 (.aaddr 2 1 (.t 25) (.c (.int .i64 0))),oL 27 26,oA 28 1 6,oM 29 9,oM 30 10,oI 31 2 29 30,oS 32 (.aaddr 2 1 (.t 31) (.c (.int .i64 1))),oL 33 32,oC4 34 78 22 27 28 33,oC 35 .neq 34 0] (oD 35 (oR [oZ 8 false] .ret) .skip))) (.reg [oM 20 10,oC 21 .add 20 1,oM 10 21]))
def bL:qB:=⟨(oR [oQ 4 1 0,oQ 6 1 2,oZ 8 false] (oR [oA 11 1 4,oM 12 1,oA 13 1 6,oM 14 3,oC4 15 85 11 12 13 14,oM 9 15] (.seq (oR [oJ 10 0] (.block 0 (.loop fI))) (oR [oZ 8 true] .ret)))),[(.tmp 8)],4,[]⟩
theorem CY:nA Tryz.prog 80 bL:=okF Tryz.func80
def TD:C:=oR [oB 47 .lss 46 45] (.seq (oD 47 .skip (.exit 2)) (.seq (.block 3 (oR [oI 48 2 44 46,oA 49 2 48,oY 11 [(.int .i64 0),(.int .i64 0)],oV 2 11 49] (oR [oM 50 8,oA 51 2 11,oS 52 (.mget false (.agg [(.some .i64),(.some .i64)]) (.bool false) (.t 50) (.t 51)),oU 53 52] (oD 53 (oR [oM 54 8,oA 55 2 11,oN (.mset (.agg [(.some .i64),(.some .i64)]) (.t 54) (.t 55) (.c (.bool true)))] (.reg [oM 56 6,oA 57 2 11,oS 58 (.bsl [(.int .i64 0),(.int .i64 0)] 1 [(0,(.t 57))]),oAp 59 63 2 16 56 58,oM 60 7,oM 61 9,oS 62 (.bsl [(.int .i64 0)] 1 [(0,(.t 61))]),oAp 63 3 1 8 60 62,oM 6 59,oM 7 63])) .skip)))) (.reg [oC 64 .add 46 1,oM 46 64])))
def EG:C:=.seq (oR [oM 24 9,oM 25 6,oH 26 25,oB 27 .lss 24 26] (oD 27 .skip (.exit 0))) (.seq (.block 1 (oR [oF 30 0 2,oA 31 1 30,oM 32 6,oM 33 9,oI 34 2 32 33,oS 35 (.aaddr 2 1 (.t 34) (.c (.int .i64 0))),oL 36 35,oF 37 0 3,oA 38 1 37,oM 39 6,oM 40 9,oI 41 2 39 40,oS 42 (.aaddr 2 1 (.t 41) (.c (.int .i64 1))),oL 43 42,oC4 44 79 31 36 38 43,oH 45 44,oJ 46 0] (.block 2 (.loop TD)))) (.reg [oM 28 9,oC 29 .add 28 1,oM 9 29]))
def XF:qB:=⟨(oR [oQ 2 2 0,oQ 3 2 1,oS 4 (.mv (.c (.sl true []))),oS 5 (.mv (.c (.sl true [])))] (oR [oF 12 1 2,oL 13 12,oF 14 1 3,oL 15 14,oS 16 (.build [(.int .i64 0),(.int .i64 0)] [(0,(1,(.t 13))),(1,(1,(.t 15)))]),oS 17 (.bsl [(.int .i64 0),(.int .i64 0)] 1 [(0,(.t 16))]),oS 18 (.bsl [(.int .i64 0)] 1 [(0,(.c (.int .i64 (-1))))]),oM 6 17,oM 7 18] (oR [oS 19 (.mkm),oM 20 6,oS 21 (.iaddr 2 (.t 20) (.c (.int .i64 0))),oA 22 2 21,oN (.mset (.agg [(.some .i64),(.some .i64)]) (.t 19) (.t 22) (.c (.bool true))),oM 23 19,oM 8 23] (.seq (oR [oJ 9 0] (.block 0 (.loop EG))) (oR [oM 65 6,oM 66 7,oM 4 65,oM 5 66] .ret))))),[(.tmp 4),(.tmp 5)],2,[]⟩
theorem SQ:nA Tryz.prog 81 XF:=okF Tryz.func81
noncomputable def KH:qB:=cF [] Tryz.f82
theorem RM:nA Tryz.prog 82 KH:=okF Tryz.func82
noncomputable def kJ:qB:=cF [] Tryz.f83
theorem TN:nA Tryz.prog 83 kJ:=okF Tryz.func83
def TE:C:=.seq (oR [oM 36 12,oM 37 11,oH 38 37,oB 39 .lss 36 38] (oD 39 .skip (.exit 2))) (.seq (.block 3 (oR [oM 42 9,oM 43 11,oM 44 12,oI 45 2 43 44,oA 46 2 45,oC2 47 35 42 46,oU 48 47] (oD 48 (.reg [oM 49 9,oM 50 11,oM 51 12,oI 52 2 50 51,oA 53 2 52,oS 54 (.bsl [(.int .i64 0),(.int .i64 0)] 1 [(0,(.t 53))]),oAp 55 63 2 16 49 54,oM 9 55]) .skip))) (.reg [oM 40 12,oC 41 .add 40 1,oM 12 41]))
def EI:C:=.seq (oR [oM 17 10,oM 18 9,oH 19 18,oB 20 .lss 17 19] (oD 20 .skip (.exit 0))) (.seq (.block 1 (oR [oA 23 1 4,oM 24 9,oM 25 10,oI 26 2 24 25,oS 27 (.aaddr 2 1 (.t 26) (.c (.int .i64 0))),oL 28 27,oA 29 1 6,oM 30 9,oM 31 10,oI 32 2 30 31,oS 33 (.aaddr 2 1 (.t 32) (.c (.int .i64 1))),oL 34 33,oC4 35 41 23 28 29 34,oM 11 35] (oR [oJ 12 0] (.block 2 (.loop TE))))) (.reg [oM 21 10,oC 22 .add 21 1,oM 10 22]))
def dI:qB:=⟨(oR [oQ 4 1 0,oQ 6 1 2,oS 8 (.mv (.c (.sl true [])))] (oR [oM 13 1,oM 14 3,oS 15 (.build [(.int .i64 0),(.int .i64 0)] [(0,(1,(.t 13))),(1,(1,(.t 14)))]),oS 16 (.bsl [(.int .i64 0),(.int .i64 0)] 1 [(0,(.t 15))]),oM 9 16] (.seq (oR [oJ 10 0] (.block 0 (.loop EI))) (oR [oM 56 9,oM 8 56] .ret)))),[(.tmp 8)],4,[]⟩
theorem zU:nA Tryz.prog 85 dI:=okF Tryz.func85
def IE:C:=.seq (oR [oM 7 2,oM 8 3,oB 9 .lss 7 8] (oD 9 .skip (.exit 0))) (.seq (.block 1 (.reg [oM 14 0,oM 15 2,oM 16 0,oM 17 3,oM 18 0,oM 19 3,oI 20 2 18 19,oA 21 2 20,oM 22 0,oM 23 2,oI 24 2 22 23,oA 25 2 24,oI 26 2 14 15,oV 2 26 21,oI 27 2 16 17,oV 2 27 25])) (.reg [oM 10 2,oC 11 .add 10 1,oM 12 3,oC 13 .sub 12 1,oM 2 11,oM 3 13]))
def wE:qB:=⟨(oR [oM 4 0,oH 5 4,oC 6 .sub 5 1,oJ 2 0,oM 3 6] (.block 0 (.loop IE))),[],1,[8000000]⟩
theorem eN:nA Tryz.prog 86 wE:=okF Tryz.func86
def lL:qB:=⟨(oR [oQ 2 1 0,oJ 4 0] (oR [oF 5 0 2,oL 6 5,oM 7 1,oI 8 5 6 7,oF 9 0 8,oL 10 9,oS 11 (.bin .rem false (.t 10) (.c (.int .u8 9))),oS 12 (.conv (.some .i64) (.t 11)),oS 13 (.bin .add false (.c (.int .i64 1)) (.t 12)),oM 4 13] .ret)),[(.tmp 4)],2,[]⟩
theorem GY:nA Tryz.prog 87 lL:=okF Tryz.func87
def xK:qB:=⟨(oR [oZ 2 false] (oR [oM 3 0,oC 4 .eql 3 4,oM 5 4,oMg 6 0 5 false,oCi 7 .eql 6 5 5 false,oPo 8 5 7,oM 9 8,oMg 10 0 9 false,oCi 11 .eql 10 6 9 false,oPo 12 9 11,oM 2 12] .ret)),[(.tmp 2)],1,[]⟩
theorem mX:nA Tryz.prog 88 xK:=okF Tryz.func88
def JM:qB:=⟨(oR [oQ 1 5 0,oJ 2 0] (oR [oF 3 1 1,oL 4 3,oS 5 (.bin .rem false (.t 4) (.c (.int .u8 7))),oS 6 (.conv (.some .i64) (.t 5)),oC 7 .sub 6 3,oM 2 7] .ret)),[(.tmp 2)],1,[]⟩
theorem B2:nA Tryz.prog 89 JM:=okF Tryz.func89
def kL:qB:=⟨(oR [oQ 1 5 0,oJ 2 0] (oR [oA 3 5 1,oC1 4 89 3,oF 5 2 1,oL 6 5,oS 7 (.bin .rem false (.t 6) (.c (.int .u8 6))),oS 8 (.conv (.some .i64) (.t 7)),oB 9 .add 4 8,oM 2 9] .ret)),[(.tmp 2)],1,[]⟩
theorem FY:nA Tryz.prog 90 kL:=okF Tryz.func90
def LG:C:=.seq (oR [oM 5 4,oC 6 .lss 5 6] (oD 6 .skip (.exit 0))) (.seq (.block 1 (oR [oF 9 1 1,oL 10 9,oM 11 4,oB 12 .shr 10 11,oS 13 (.bin .rem false (.t 12) (.c (.int .u8 2))),oS 14 (.bin .eql false (.t 13) (.c (.int .u8 1)))] (oD 14 (.reg [oM 15 3,oM 16 4,oC 17 .add 16 1,oS 18 (.bsl [(.int .i64 0)] 1 [(0,(.t 17))]),oAp 19 3 1 8 15 18,oM 3 19]) .skip))) (.reg [oM 7 4,oC 8 .add 7 1,oM 4 8]))
def GM:qB:=⟨(oR [oQ 1 5 0,oS 2 (.mv (.c (.sl true [])))] (oR [oS 3 (.mv (.c (.sl true [])))] (.seq (oR [oJ 4 0] (.block 0 (.loop LG))) (.seq (oR [oM 20 3,oH 21 20,oC 22 .eql 21 0] (oD 22 (.reg [oM 23 3,oS 24 (.bsl [(.int .i64 0)] 1 [(0,(.c (.int .i64 1)))]),oAp 25 3 1 8 23 24,oM 3 25]) .skip)) (oR [oM 26 3,oM 2 26] .ret))))),[(.tmp 2)],1,[]⟩
theorem X2:nA Tryz.prog 91 GM:=okF Tryz.func91
def dB:C:=.seq (oR [oM 23 10,oF 24 4 7,oL 25 24,oH 26 25,oB 27 .lss 23 26] (oD 27 .skip (.exit 2))) (.seq (.block 3 (oR [oF 30 4 7,oL 31 30,oM 32 10,oI 33 3 31 32,oA 34 3 33,oY 11 zzg,oV 3 11 34] (oR [oA 35 1 3,oM 36 1,oF 37 1 11,oL 38 37,oS 39 (.call .any 141 [(.t 35),(.t 36),(.t 38)]),oM 12 39] (.seq (oR [oF 40 0 11,oL 41 40,oS 42 (.bin .rem false (.t 41) (.c (.int .u8 12))),oS 43 (.conv (.some .i64) (.t 42)),oS 44 (.bin .add false (.c (.int .i64 1)) (.t 43)),oM 45 9,oB 46 .neq 44 45,oM 47 46,oMg 48 12 47 false,oCi 49 .lss 48 0 47 false,oPo 50 47 49] (oD 50 (.exit 3) .skip)) (oR [oM 51 9,oM 52 9,oS 53 (.bin .add false (.c (.int .i64 97)) (.t 52)),oS 54 (.conv (.some .i32) (.t 53)),oS 55 (.rstr (.t 54)),oS 56 (.bin .add false (.c (.str (ByteArray.mk #[109]))) (.t 55)),oM 57 12,oS 58 (.build zzh [(0,(1,(.t 51))),(1,(1,(.t 56))),(2,(1,(.t 57)))]),oY 13 zzh,oV 13 13 58] (.seq (oR [oM 59 2,oM 60 59,oFg 61 2 11 60 true,oP 62 61 60 true,oG 63 (.bin .rem false (.t 62) (.c (.int .u8 4))) 60 true,oG 64 (.bin .eql false (.t 63) (.c (.int .u8 1))) 60 true,oPa 65 60 64] (oD 65 (.reg [oF 66 3 13,oN (.store .any false 1 (.t 66) (.c (.bool true)))]) .skip)) (.seq (oR [oM 67 2,oM 68 67,oFg 69 2 11 68 true,oP 70 69 68 true,oG 71 (.bin .rem false (.t 70) (.c (.int .u8 4))) 68 true,oG 72 (.bin .geq false (.t 71) (.c (.int .u8 2))) 68 true,oPa 73 68 72] (oD 73 (.reg [oA 75 1 3,oM 76 12,oF 77 2 11,oL 78 77,oS 79 (.bin .quo false (.t 78) (.c (.int .u8 4))),oS 80 (.call .any 142 [(.t 75),(.t 76),(.t 79)]),oM 74 80,oX 81 74 0,oX 82 74 1,oF 83 5 13,oV 8 83 81,oF 84 4 13,oW 84 82]) .skip)) (oR [oM 85 8,oA 86 13 13,oS 87 (.bsl zzh 1 [(0,(.t 86))]),oS 88 (.appm .any 146 13 160 (.t 85) (.t 87)),oM 8 88] (.exit 2))))))))) (.reg [oM 28 10,oC 29 .add 28 1,oM 10 29]))
def qK:C:=.seq (oR [oM 19 9,oC 20 .leq 19 12] (oD 20 .skip (.exit 0))) (.seq (.block 1 (oR [oJ 10 0] (.block 2 (.loop dB)))) (.reg [oM 21 9,oC 22 .add 21 1,oM 9 22]))
def cK:qB:=⟨(oR [oQ 3 1 0,oS 6 (.mv (.c (.sl true [])))] (oR [oF 14 0 3,oL 15 14,oM 16 1,oI 17 5 15 16,oA 18 5 17,oY 7 zzd,oV 5 7 18] (oR [oS 8 (.mv (.c (.sl true [])))] (.seq (oR [oJ 9 1] (.block 0 (.loop qK))) (oR [oM 89 8,oM 6 89] .ret))))),[(.tmp 6)],3,[177]⟩
theorem WX:nA Tryz.prog 92 cK:=okF Tryz.func92
def wJ:C:=.seq (oR [oM 11 6,oM 12 5,oB 13 .lss 11 12] (oD 13 .skip (.exit 0))) (.seq (.block 1 (oR [oM 16 1,oS 17 (.conv (.some .i64) (.t 16)),oM 18 6,oB 19 .add 17 18,oM 20 5,oB 21 .rem 19 20,oM 7 21] (oR [oA 22 1 2,oM 23 7,oC2 24 87 22 23,oC1 25 143 24] (oD 25 (oR [oM 26 7,oM 4 26] .ret) .skip)))) (.reg [oM 14 6,oC 15 .add 14 1,oM 6 15]))
def HM:qB:=⟨(oR [oQ 2 1 0,oJ 4 0] (oR [oF 8 0 2,oL 9 8,oH 10 9,oM 5 10] (.seq (oR [oJ 6 0] (.block 0 (.loop wJ))) (oR [oJ 4 (-1)] .ret)))),[(.tmp 4)],2,[]⟩
theorem C2:nA Tryz.prog 93 HM:=okF Tryz.func93
def wD:C:=oR [oB 9 .lss 8 7] (.seq (oD 9 .skip (.exit 0)) (.seq (.block 1 (oR [oM 10 8,oM 5 10] (oR [oM 11 1,oM 12 0,oM 13 5,oI 14 2 12 13,oA 15 2 14,oS 16 (.callh 19 (.t 11) [(.t 15)])] (oD 16 (oR [oM 17 5,oM 4 17] .ret) .skip)))) (.reg [oC 18 .add 8 1,oM 8 18])))
def WB:qB:=⟨(oR [oJ 4 0] (.seq (oR [oM 6 0,oH 7 6,oJ 8 0] (.block 0 (.loop wD))) (oR [oJ 4 (-1)] .ret))),[(.tmp 4)],2,[2000011]⟩
theorem NG:nA Tryz.prog 94 WB:=okF Tryz.func94
def HF:C:=oR [oB 18 .lss 17 16] (.seq (oD 18 .skip (.exit 0)) (.seq (.block 1 (oR [oI 19 1 15 17,oL 20 19,oM 6 20] (oR [oM 21 6,oU 22 21] (oD 22 (oR [oJ 2 10] .ret) .skip)))) (.reg [oC 23 .add 17 1,oM 17 23])))
def rG:qB:=⟨(oR [oQ 1 1 0,oJ 2 0] (oR [oA 8 1 1,oC1 9 144 8,oM 7 9,oX 10 7 0,oX 11 7 1,oM 3 10,oM 4 11] (.seq (oR [oM 12 4,oC 13 .neq 12 0] (oD 13 (oR [oM 14 4,oM 2 14] .ret) .skip)) (.seq (oR [oM 15 3,oH 16 15,oJ 17 0] (.block 0 (.loop HF))) (oR [oJ 2 0] .ret))))),[(.tmp 2)],1,[]⟩
theorem rU:nA Tryz.prog 95 rG:=okF Tryz.func95
def jH:C:=.seq (oR [oM 14 5,oM 15 3,oH 16 15,oB 17 .lss 14 16] (oD 17 .skip (.exit 0))) (.seq (.block 1 (oR [oM 20 3,oM 21 5,oI 22 1 20 21,oL 23 22,oU 24 23] (oD 24 (oR [oJ 2 10] .ret) .skip))) (.reg [oM 18 5,oC 19 .add 18 1,oM 5 19]))
def FH:qB:=⟨(oR [oQ 1 1 0,oJ 2 0] (oR [oA 7 1 1,oC1 8 145 7,oM 6 8,oX 9 6 0,oX 10 6 1,oM 3 9,oM 4 10] (.seq (oR [oM 11 4,oC 12 .neq 11 0] (oD 12 (oR [oM 13 4,oM 2 13] .ret) .skip)) (.seq (oR [oJ 5 0] (.block 0 (.loop jH))) (oR [oJ 2 0] .ret))))),[(.tmp 2)],1,[]⟩
theorem AX:nA Tryz.prog 97 FH:=okF Tryz.func97
noncomputable def XQ:qB:=cF [] Tryz.f98
theorem OX:nA Tryz.prog 98 XQ:=okF Tryz.func98
def IG:C:=.seq (oR [oM 7 6,oF 8 6 2,oL 9 8,oH 10 9,oB 11 .lss 7 10] (oD 11 .skip (.exit 0))) (.seq (.block 1 (oR [oF 14 6 2,oL 15 14,oM 16 6,oI 17 13 15 16,oF 18 0 17,oL 19 18,oM 20 1,oB 21 .eql 19 20] (oD 21 (oR [oM 22 6,oM 4 22,oZ 5 true] .ret) .skip))) (.reg [oM 12 6,oC 13 .add 12 1,oM 6 13]))
def NI:qB:=⟨(oR [oQ 2 10 0,oJ 4 0,oZ 5 false] (.seq (oR [oJ 6 0] (.block 0 (.loop IG))) (oR [oJ 4 0,oZ 5 false] .ret))),[(.tmp 4),(.tmp 5)],2,[]⟩
theorem WV:nA Tryz.prog 99 NI:=okF Tryz.func99
def XG:qB:=⟨(oR [oQ 2 1 0,oJ 4 0] (.seq (oR [oA 6 1 2,oC1 7 97 6,oM 5 7] (oR [oM 8 5,oC 9 .neq 8 0] (oD 9 (oR [oM 10 5,oM 4 10] .ret) .skip))) (.seq (oR [oM 11 1,oC 12 .lss 11 0,oM 13 12,oMg 14 1 13 false,oFg 15 0 2 13 false,oP 16 15 13 false,oHg 17 16 13 false,oBg 18 .geq 14 17 13 false,oPo 19 13 18] (oD 19 (oR [oJ 4 4] .ret) .skip)) (oR [oJ 4 0] .ret)))),[(.tmp 4)],2,[]⟩
theorem z3:nA Tryz.prog 101 XG:=okF Tryz.func101
noncomputable def CU:qB:=cF [16] Tryz.f102
theorem Z2:nA Tryz.prog 102 CU:=okF Tryz.func102
def mI:C:=oR [oB 12 .lss 11 10] (.seq (oD 12 .skip (.exit 0)) (.seq (.block 1 (oR [oI 13 2 9 11,oA 14 2 13,oS 4 (.alloc [(.sl true []),(.int .i64 0)]),oV 2 4 14] (.seq (oR [oF 15 0 4,oA 16 1 15,oC1 17 95 16,oM 5 17] (oR [oM 18 5,oC 19 .neq 18 0] (oD 19 (oR [oM 20 5,oM 2 20] .ret) .skip))) (oR [oF 21 1 4,oL 22 21,oC 23 .lss 22 0,oM 24 23,oFg 25 1 4 24 false,oP 26 25 24 false,oFg 27 0 4 24 false,oFg 28 0 27 24 false,oP 29 28 24 false,oHg 30 29 24 false,oBg 31 .geq 26 30 24 false,oPo 32 24 31] (oD 32 (oR [oJ 2 4] .ret) .skip))))) (.reg [oC 33 .add 11 1,oM 11 33])))
def rI:qB:=⟨(oR [oJ 2 0] (.seq (oR [oM 6 0,oH 7 6,oC 8 .gtr 7 8] (oD 8 (oR [oJ 2 3] .ret) .skip)) (.seq (oR [oM 9 0,oH 10 9,oJ 11 0] (.block 0 (.loop mI))) (oR [oJ 2 0] .ret)))),[(.tmp 2)],1,[]⟩
theorem eU:nA Tryz.prog 103 rI:=okF Tryz.func103
def eM:qB:=⟨(oR [oZ 6 false] (oR [oM 10 0,oM 11 1,oI 12 2 10 11,oA 13 2 12,oM 14 0,oM 15 2,oI 16 2 14 15,oA 17 2 16,oC2 18 29 13 17,oM 9 18,oX 19 9 0,oX 20 9 1,oM 7 19,oM 8 20] (oR [oM 21 7,oM 6 21] .ret))),[(.tmp 6)],3,[]⟩
theorem UQ:nA Tryz.prog 104 eM:=okF Tryz.func104
noncomputable def KQ:qB:=cF [] Tryz.f105
theorem cX:nA Tryz.prog 105 KQ:=okF Tryz.func105
noncomputable def JJ:qB:=cF [] Tryz.f106
theorem gO:nA Tryz.prog 106 JJ:=okF Tryz.func106
noncomputable def WO:qB:=cF [] Tryz.f111
theorem wU:nA Tryz.prog 111 WO:=okF Tryz.func111
def QK:qB:=⟨(oR [oQ 2 1 0,oJ 4 0] (.seq (oR [oA 6 1 2,oC1 7 150 6,oM 5 7] (oR [oM 8 5,oC 9 .neq 8 0] (oD 9 (oR [oM 10 5,oM 4 10] .ret) .skip))) (.seq (oR [oM 11 1,oC 12 .lss 11 0,oM 13 12,oMg 14 1 13 false,oFg 15 0 2 13 false,oP 16 15 13 false,oHg 17 16 13 false,oBg 18 .geq 14 17 13 false,oPo 19 13 18] (oD 19 (oR [oJ 4 4] .ret) .skip)) (oR [oJ 4 0] .ret)))),[(.tmp 4)],2,[]⟩
theorem IX:nA Tryz.prog 120 QK:=okF Tryz.func120
def nK:qB:=⟨(oR [oQ 3 1 0,oQ 5 8 2,oZ 6 false] (oR [oA 7 1 3,oM 8 1,oA 9 8 5,oS 10 (.call .any 151 [(.t 7),(.t 8),(.t 9),(.c (.bool true))]),oM 6 10] .ret)),[(.tmp 6)],3,[]⟩
theorem TX:nA Tryz.prog 121 nK:=okF Tryz.func121
def sI:qB:=⟨(oR [oY 2 zzb] (oR [oS 3 (.bsl [(.int .i64 0)] 0 []),oM 4 0,oAp 5 3 1 8 3 4,oS 6 (.build zzb [(8,(1,(.t 5)))]),oV 10 2 6] .ret)),[(.cell 2 true 10)],1,[]⟩
theorem lU:nA Tryz.prog 122 sI:=okF Tryz.func122
def OG:C:=.seq (oR [oM 7 6,oF 8 5 2,oL 9 8,oH 10 9,oB 11 .lss 7 10] (oD 11 .skip (.exit 0))) (.seq (.block 1 (oR [oF 14 5 2,oL 15 14,oM 16 6,oI 17 2 15 16,oF 18 0 17,oL 19 18,oM 20 1,oB 21 .eql 19 20] (oD 21 (oR [oM 22 6,oM 4 22,oZ 5 true] .ret) .skip))) (.reg [oM 12 6,oC 13 .add 12 1,oM 6 13]))
def MI:qB:=⟨(oR [oQ 2 10 0,oJ 4 0,oZ 5 false] (.seq (oR [oJ 6 0] (.block 0 (.loop OG))) (oR [oJ 4 0,oZ 5 false] .ret))),[(.tmp 4),(.tmp 5)],2,[]⟩
theorem EV:nA Tryz.prog 123 MI:=okF Tryz.func123
def cL:qB:=⟨(oR [oQ 1 8 0,oY 2 zzb] (oR [oA 3 8 1,oS 4 (.build zzb [(0,(8,(.t 3))),(9,(1,(.c (.bool true))))]),oV 10 2 4] .ret)),[(.cell 2 true 10)],1,[]⟩
theorem ZY:nA Tryz.prog 127 cL:=okF Tryz.func127
def DD:qB:=⟨(oR [oQ 2 1 0,oJ 4 0] (.seq (oR [oA 6 1 2,oC1 7 95 6,oM 5 7] (oR [oM 8 5,oC 9 .neq 8 0] (oD 9 (oR [oM 10 5,oM 4 10] .ret) .skip))) (.seq (oR [oM 11 1,oC 12 .lss 11 0,oM 13 12,oMg 14 1 13 false,oFg 15 0 2 13 false,oP 16 15 13 false,oHg 17 16 13 false,oBg 18 .geq 14 17 13 false,oPo 19 13 18] (oD 19 (oR [oJ 4 4] .ret) .skip)) (oR [oJ 4 0] .ret)))),[(.tmp 4)],2,[]⟩
theorem BS:nA Tryz.prog 128 DD:=okF Tryz.func128
def qD:qB:=⟨(oR [oQ 1 10 0,oJ 2 0] (.seq (oR [oF 4 0 1,oL 5 4] (.block 0 (oR [oC 7 .eql 5 1,oM 6 7] (oD 6 (oR [oJ 2 2] .ret) (oR [oC 9 .eql 5 2,oM 8 9] (oD 8 (oR [oF 10 3 1,oL 11 10,oS 12 (.conv (.some .u64) (.t 11)),oF 13 2 1,oL 14 13,oS 15 (.conv (.some .u64) (.t 14)),oB 16 .sub 12 15,oM 3 16] (oR [oM 17 3,oS 18 (.bin .lss false (.t 17) (.c (.int .u64 2147483647)))] (oD 18 (oR [oM 19 3,oS 20 (.conv (.some .i64) (.t 19)),oC 21 .add 20 1,oM 2 21] .ret) .skip))) (oR [oC 23 .eql 5 4,oM 22 23] (oD 22 (oR [oF 24 5 1,oL 25 24,oH 26 25,oM 2 26] .ret) (oR [oC 28 .eql 5 3,oM 27 28] (oD 27 (oR [oF 29 4 1,oL 30 29,oC 31 .eql 30 0] (oD 31 (oR [oJ 2 1] .ret) .skip)) .skip)))))))))) (oR [oJ 2 2147483647] .ret))),[(.tmp 2)],1,[]⟩
theorem mU:nA Tryz.prog 129 qD:=okF Tryz.func129
def SE:C:=oR [oB 36 .lss 35 34] (.seq (oD 36 .skip (.exit 2)) (.seq (.block 3 (oR [oI 37 13 33 35,oA 38 13 37,oY 10 zzh,oV 13 10 38] (oR [oA 40 10 3,oF 41 0 10,oL 42 41,oC2 43 137 40 42,oM 39 43,oX 44 39 0,oX 45 39 1,oM 11 44,oM 12 45] (oR [oM 46 12,oU 47 46] (oD 47 (oR [oZ 4 false] .ret) .skip))))) (.reg [oC 48 .add 35 1,oM 35 48])))
def DE:C:=oR [oB 19 .lss 18 17] (.seq (oD 19 .skip (.exit 0)) (.seq (.block 1 (oR [oI 20 2 16 18,oA 21 2 20,oY 6 zzc,oV 2 6 21] (oR [oA 23 10 3,oF 24 0 6,oL 25 24,oC2 26 154 23 25,oM 22 26,oX 27 22 0,oX 28 22 1,oM 7 27,oM 8 28] (oR [oM 29 8,oU 30 29] (oD 30 (oR [oZ 4 false] .ret) .skip))))) (.reg [oC 31 .add 18 1,oM 18 31])))
def UE:qB:=⟨(oR [oQ 2 10 0,oQ 3 10 1,oZ 4 false] (.seq (oR [oF 13 9 3,oL 14 13] (oD 14 (oR [oZ 4 true] .ret) .skip)) (.seq (oR [oF 15 5 2,oL 16 15,oH 17 16,oJ 18 0] (.block 0 (.loop DE))) (.seq (oR [oF 32 6 2,oL 33 32,oH 34 33,oJ 35 0] (.block 2 (.loop SE))) (oR [oZ 4 true] .ret))))),[(.tmp 4)],2,[]⟩
theorem PQ:nA Tryz.prog 130 UE:=okF Tryz.func130
def RD:C:=oR [oB 76 .lss 75 74] (.seq (oD 76 .skip (.exit 2)) (.seq (.block 3 (oR [oI 77 13 73 75,oA 78 13 77,oY 17 zzh,oV 13 17 78] (oR [oA 80 10 7,oF 81 0 17,oL 82 81,oC2 83 137 80 82,oM 79 83,oX 84 79 0,oX 85 79 1,oM 18 84,oM 19 85] (oR [oM 86 19,oU 87 86,oM 88 87,oFg 89 3 17 88 true,oP 90 89 88 true,oPa 91 88 90] (oD 91 (oR [oJ 8 6] .ret) .skip))))) (.reg [oC 92 .add 75 1,oM 75 92])))
def bB:C:=oR [oB 24 .lss 23 22] (.seq (oD 24 .skip (.exit 0)) (.seq (.block 1 (oR [oI 25 13 21 23,oA 26 13 25,oY 10 zzh,oV 13 10 26] (oR [oA 28 10 5,oF 29 0 10,oL 30 29,oC2 31 137 28 30,oM 27 31,oX 32 27 0,oX 33 27 1,oM 11 32,oM 12 33] (.seq (oR [oM 34 12,oU 35 34] (oD 35 (.seq (oR [oF 36 4 10,oL 37 36,oU 38 37] (oD 38 (oR [oJ 8 7] .ret) .skip)) (.exit 1)) .skip)) (oR [oF 39 6 5,oL 40 39,oM 41 11,oI 42 13 40 41,oA 43 13 42,oY 13 zzh,oV 13 13 43] (.seq (oR [oF 44 4 13,oL 45 44,oU 46 45] (oD 46 (.exit 1) .skip)) (.seq (oR [oF 47 4 10,oL 48 47,oU 49 48] (oD 49 (oR [oJ 8 7] .ret) .skip)) (oR [oA 51 1 4,oF 52 2 13,oL 53 52,oF 54 5 13,oA 55 8 54,oA 56 1 6,oF 57 2 10,oL 58 57,oS 59 (.call .any 155 [(.t 51),(.t 53),(.t 55),(.t 56),(.t 58)]),oM 50 59,oX 60 50 0,oX 61 50 1,oY 14 zza,oV 8 14 60,oM 15 61] (oR [oM 62 15,oC 63 .neq 62 0,oM 64 63,oLg 65 8 14 64 false,oFg 66 5 10 64 false,oLg 67 8 66 64 false,oCg 68 156 65 67 64 false,oUg 69 68 64 false,oPo 70 64 69] (oD 70 (oR [oJ 8 10] .ret) .skip)))))))))) (.reg [oC 71 .add 23 1,oM 23 71])))
def ZF:qB:=⟨(oR [oQ 4 1 0,oQ 5 10 1,oQ 6 1 2,oQ 7 10 3,oJ 8 0] (.seq (oR [oF 20 6 7,oL 21 20,oH 22 21,oJ 23 0] (.block 0 (.loop bB))) (.seq (oR [oF 72 6 5,oL 73 72,oH 74 73,oJ 75 0] (.block 2 (.loop RD))) (oR [oJ 8 0] .ret)))),[(.tmp 8)],4,[]⟩
theorem AQ:nA Tryz.prog 131 ZF:=okF Tryz.func131
def gI:C:=.seq (oR [oM 13 3,oC 14 .lss 13 100,oM 15 14,oMg 16 4 15 true,oFg 17 3 1 15 true,oP 18 17 15 true,oBg 19 .lss 16 18 15 true,oPa 20 15 19] (oD 20 .skip (.exit 1))) (.seq (.block 2 (.reg [oM 23 3,oC 24 .add 23 1,oM 3 24])) (.reg [oM 21 4,oC 22 .add 21 1,oM 4 22]))
def CE:qB:=⟨(oR [oQ 1 10 0,oJ 2 0] (.seq (oR [oF 5 0 1,oL 6 5] (.block 0 (oR [oC 8 .eql 6 1,oM 7 8] (oD 7 (oR [oJ 2 2] .ret) (oR [oC 10 .eql 6 2,oM 9 10] (oD 9 (oR [oJ 3 1] (.seq (oR [oF 11 2 1,oL 12 11,oM 4 12] (.block 1 (.loop gI))) (oR [oM 25 3,oM 2 25] .ret))) (oR [oC 27 .eql 6 4,oM 26 27] (oD 26 (oR [oF 28 5 1,oL 29 28,oH 30 29,oM 2 30] .ret) .skip)))))))) (.seq (oR [oF 31 4 1,oL 32 31,oC 33 .eql 32 0] (oD 33 (oR [oJ 2 1] .ret) .skip)) (oR [oJ 2 100] .ret)))),[(.tmp 2)],1,[]⟩
theorem BY:nA Tryz.prog 132 CE:=okF Tryz.func132
def dJ:C:=.seq (oR [oM 31 8,oF 32 6 2,oL 33 32,oH 34 33,oB 35 .lss 31 34] (oD 35 .skip (.exit 2))) (.seq (.block 3 (oR [oA 39 10 3,oF 40 6 2,oL 41 40,oM 42 8,oI 43 13 41 42,oF 44 0 43,oL 45 44,oC2 46 99 39 45,oM 38 46,oX 47 38 0,oX 48 38 1,oM 9 47,oM 10 48] (oR [oM 49 10,oU 50 49] (oD 50 (oR [oZ 4 false] .ret) .skip)))) (.reg [oM 36 8,oC 37 .add 36 1,oM 8 37]))
def fJ:C:=.seq (oR [oM 11 5,oF 12 5 2,oL 13 12,oH 14 13,oB 15 .lss 11 14] (oD 15 .skip (.exit 0))) (.seq (.block 1 (oR [oA 19 10 3,oF 20 5 2,oL 21 20,oM 22 5,oI 23 2 21 22,oF 24 0 23,oL 25 24,oC2 26 123 19 25,oM 18 26,oX 27 18 0,oX 28 18 1,oM 6 27,oM 7 28] (oR [oM 29 7,oU 30 29] (oD 30 (oR [oZ 4 false] .ret) .skip)))) (.reg [oM 16 5,oC 17 .add 16 1,oM 5 17]))
def LM:qB:=⟨(oR [oQ 2 10 0,oQ 3 10 1,oZ 4 false] (.seq (oR [oJ 5 0] (.block 0 (.loop fJ))) (.seq (oR [oJ 8 0] (.block 2 (.loop dJ))) (oR [oZ 4 true] .ret)))),[(.tmp 4)],2,[]⟩
theorem d3:nA Tryz.prog 133 LM:=okF Tryz.func133
def BE:C:=.seq (oR [oM 81 13,oF 82 6 5,oL 83 82,oH 84 83,oB 85 .lss 81 84] (oD 85 .skip (.exit 2))) (.seq (.block 3 (oR [oA 89 10 7,oF 90 6 5,oL 91 90,oM 92 13,oI 93 13 91 92,oF 94 0 93,oL 95 94,oC2 96 99 89 95,oM 88 96,oX 97 88 0,oX 98 88 1,oM 14 97,oM 15 98] (oR [oM 99 15,oU 100 99,oM 101 100,oFg 102 6 5 101 true,oP 103 102 101 true,oMg 104 13 101 true,oIg 105 13 103 104 101 true,oFg 106 3 105 101 true,oP 107 106 101 true,oPa 108 101 107] (oD 108 (oR [oJ 8 6] .ret) .skip)))) (.reg [oM 86 13,oC 87 .add 86 1,oM 13 87]))
def iC:C:=.seq (oR [oM 16 9,oF 17 6 7,oL 18 17,oH 19 18,oB 20 .lss 16 19] (oD 20 .skip (.exit 0))) (.seq (.block 1 (oR [oF 23 6 7,oL 24 23,oM 25 9,oI 26 13 24 25,oA 27 13 26,oY 10 zzh,oV 13 10 27] (oR [oA 29 10 5,oF 30 0 10,oL 31 30,oC2 32 99 29 31,oM 28 32,oX 33 28 0,oX 34 28 1,oM 11 33,oM 12 34] (.seq (oR [oF 35 4 10,oL 36 35,oU 37 36,oM 38 37,oMg 39 12 38 true,oUg 40 39 38 true,oMg 41 40 38 true,oFg 42 6 5 41 false,oP 43 42 41 false,oMg 44 11 41 false,oIg 45 13 43 44 41 false,oFg 46 4 45 41 false,oP 47 46 41 false,oG 48 (.pick (.t 41) (.c (.bool true)) (.t 47)) 38 true,oPa 49 38 48] (oD 49 (oR [oJ 8 7] .ret) .skip)) (oR [oM 50 12,oM 51 50,oFg 52 6 5 51 true,oP 53 52 51 true,oMg 54 11 51 true,oIg 55 13 53 54 51 true,oFg 56 4 55 51 true,oP 57 56 51 true,oPa 58 51 57,oM 59 58,oLg 60 1 4 59 true,oFg 61 6 5 59 true,oP 62 61 59 true,oMg 63 11 59 true,oIg 64 13 62 63 59 true,oFg 65 2 64 59 true,oP 66 65 59 true,oFg 67 6 5 59 true,oP 68 67 59 true,oMg 69 11 59 true,oIg 70 13 68 69 59 true,oFg 71 5 70 59 true,oLg 72 8 71 59 true,oLg 73 1 6 59 true,oFg 74 2 10 59 true,oP 75 74 59 true,oFg 76 5 10 59 true,oLg 77 8 76 59 true,oG 78 (.call .any 157 [(.t 60),(.t 66),(.t 72),(.t 73),(.t 75),(.t 77)]) 59 true,oUg 79 78 59 true,oPa 80 59 79] (oD 80 (oR [oJ 8 10] .ret) .skip)))))) (.reg [oM 21 9,oC 22 .add 21 1,oM 9 22]))
def gJ:qB:=⟨(oR [oQ 4 1 0,oQ 5 10 1,oQ 6 1 2,oQ 7 10 3,oJ 8 0] (.seq (oR [oJ 9 0] (.block 0 (.loop iC))) (.seq (oR [oJ 13 0] (.block 2 (.loop BE))) (oR [oJ 8 0] .ret)))),[(.tmp 8)],4,[]⟩
theorem SV:nA Tryz.prog 134 gJ:=okF Tryz.func134
def rC:qB:=⟨(oR [oM 6 0,oM 7 1,oS 8 (.build [(.int .i64 0),(.int .i64 0)] [(0,(1,(.t 6))),(1,(1,(.t 7)))]),oY 5 [(.int .i64 0),(.int .i64 0)],oV 2 5 8] (oR [oL 9 2,oA 10 2 5,oC2 11 136 9 10,oU 12 11] (oD 12 (.reg [oL 13 2,oA 14 2 5,oS 15 (.bsl [(.int .i64 0),(.int .i64 0)] 1 [(0,(.t 14))]),oAp 16 63 2 16 13 15,oW 2 16]) .skip))),[],3,[]⟩
theorem WM:nA Tryz.prog 135 rC:=okF Tryz.func135
def KD:qB:=⟨(oR [oQ 3 2 1,oZ 4 false] (oR [oM 5 0,oA 6 2 3,oC2 7 158 5 6,oC 8 .geq 7 0,oM 4 8] .ret)),[(.tmp 4)],2,[]⟩
theorem EM:nA Tryz.prog 136 KD:=okF Tryz.func136
def jI:qB:=⟨(oR [oQ 2 10 0,oQ 3 1 1,oJ 4 0,oZ 5 false] (oR [oF 7 6 2,oL 8 7,oS 9 (.mkf 160 [(.t 3)]),oC2 10 159 8 9,oM 6 10] (oR [oM 11 6,oS 12 (.mm true (.t 11) (.c (.int .i64 0))),oM 13 6,oC 14 .geq 13 0,oM 4 12,oM 5 14] .ret))),[(.tmp 4),(.tmp 5)],2,[]⟩
theorem cU:nA Tryz.prog 137 jI:=okF Tryz.func137
def LE:qB:=⟨(oR [oJ 4 0] (oR [oM 7 0,oC1 8 171 7,oM 5 8] (oR [oM 9 1,oC1 10 171 9,oM 6 10] (.seq (oR [oM 11 5] (oD 11 (.seq (oR [oM 12 6] (oD 12 (oR [oJ 4 0] .ret) .skip)) (oR [oJ 4 (-1)] .ret)) .skip)) (.seq (oR [oM 13 6] (oD 13 (oR [oJ 4 1] .ret) .skip)) (.seq (oR [oM 14 0,oM 15 1,oB 16 .lss 14 15] (oD 16 (oR [oJ 4 (-1)] .ret) .skip)) (.seq (oR [oM 17 0,oM 18 1,oB 19 .gtr 17 18] (oD 19 (oR [oJ 4 1] .ret) .skip)) (oR [oJ 4 0] .ret)))))))),[(.tmp 4)],2,[]⟩
theorem cR:nA Tryz.prog 140 LE:=okF Tryz.func140
def PG:C:=.seq (oR [oM 32 9,oM 33 7,oB 34 .lss 32 33] (oD 34 .skip (.exit 0))) (.seq (.block 1 (oR [oA 37 1 3,oM 38 9,oC2 39 87 37 38,oC1 40 172 39] (oD 40 (oR [oM 41 9,oM 6 41] .ret) .skip))) (.reg [oM 35 9,oC 36 .add 35 1,oM 9 36]))
def EE:qB:=⟨(oR [oQ 3 1 0,oJ 6 0] (oR [oF 10 0 3,oL 11 10,oH 12 11,oM 7 12] (oR [oM 13 2,oS 14 (.conv (.some .i64) (.t 13)),oM 15 7,oB 16 .rem 14 15,oM 8 16] (.seq (oR [oA 17 1 3,oM 18 8,oC2 19 87 17 18,oC1 20 172 19,oM 21 20,oMg 22 8 21 false,oMg 23 1 21 false,oBg 24 .lss 22 23 21 false,oPo 25 21 24] (oD 25 (oR [oM 26 8,oM 6 26] .ret) .skip)) (.seq (oR [oM 27 1,oC 28 .gtr 27 0] (oD 28 (oR [oM 29 8,oM 30 1,oB 31 .rem 29 30,oM 6 31] .ret) .skip)) (.seq (oR [oJ 9 0] (.block 0 (.loop PG))) (oR [oJ 6 (-1)] .ret))))))),[(.tmp 6)],3,[]⟩
theorem UV:nA Tryz.prog 141 EE:=okF Tryz.func141
def SB:qB:=⟨(oR [oQ 3 1 0,oY 6 zza,oZ 7 false] (oR [oF 10 0 3,oL 11 10,oM 12 1,oI 13 5 11 12,oA 14 5 13,oY 8 zzd,oV 5 8 14] (oR [oA 15 1 3,oM 16 1,oC2 17 87 15 16,oS 18 (.build zza [(0,(1,(.t 17)))]),oY 9 zza,oV 8 9 18] (.seq (oR [oF 19 0 9,oL 20 19,oC 21 .eql 20 8,oM 22 21,oLg 23 1 3 22 true,oG 24 (.call .any 93 [(.t 23),(.c (.int .u8 0))]) 22 true,oCi 25 .lss 24 0 22 true,oPa 26 22 25] (oD 26 (.reg [oF 27 0 9,oN (.store .any false 1 (.t 27) (.c (.int .i64 7)))]) .skip)) (.seq (oR [oF 28 0 9,oL 29 28] (.block 0 (oR [oC 31 .eql 29 1,oM 30 31] (oD 30 (.reg [oM 32 2,oS 33 (.bin .rem false (.t 32) (.c (.int .u8 2))),oS 34 (.bin .eql false (.t 33) (.c (.int .u8 1))),oF 35 1 9,oW 35 34]) (oR [oC 37 .eql 29 2,oM 36 37] (oD 36 (.reg [oS 38 (.load (.root 8) true 5 (.t 8)),oS 39 (.call .imm 89 [(.t 38)]),oM 40 2,oS 41 (.conv (.some .i64) (.t 40)),oS 42 (.load (.root 8) true 5 (.t 8)),oS 43 (.call .imm 90 [(.t 42)]),oS 44 (.load (.root 8) true 5 (.t 8)),oS 45 (.call .imm 89 [(.t 44)]),oB 46 .sub 43 45,oC 47 .add 46 1,oB 48 .rem 41 47,oB 49 .add 39 48,oF 50 2 9,oN (.store (.root 9) false 1 (.t 50) (.t 49))]) (oR [oC 52 .eql 29 3,oM 51 52] (oD 51 (oR [oF 53 1 8,oL 54 53,oS 55 (.bin .rem false (.t 54) (.c (.int .u8 4))),oS 56 (.bin .gtr false (.t 55) (.c (.int .u8 0))),oM 57 56,oMg 58 2 57 true,oG 59 (.bin .rem false (.t 58) (.c (.int .u8 2))) 57 true,oG 60 (.bin .eql false (.t 59) (.c (.int .u8 1))) 57 true,oPa 61 57 60] (oD 61 (.reg [oF 62 3 9,oN (.store .any false 1 (.t 62) (.c (.str (ByteArray.mk #[97]))))]) .skip)) (oR [oC 64 .eql 29 4,oM 63 64] (oD 63 (.reg [oS 65 (.load (.root 8) true 5 (.t 8)),oS 66 (.call .imm 91 [(.t 65)]),oM 67 2,oS 68 (.conv (.some .i64) (.t 67)),oS 69 (.load (.root 8) true 5 (.t 8)),oS 70 (.call .imm 91 [(.t 69)]),oH 71 70,oB 72 .rem 68 71,oI 73 1 66 72,oS 74 (.load .imm false 1 (.t 73)),oF 75 4 9,oN (.store (.root 9) false 1 (.t 75) (.t 74))]) (.seq (oR [oC 77 .eql 29 5,oM 76 77] (oD 76 .skip (.reg [oC 78 .eql 29 6,oM 76 78]))) (oD 76 (oR [oS 79 (.build zza []),oV 8 6 79,oZ 7 false] .ret) .skip)))))))))))) (oR [oA 80 8 9,oV 8 6 80,oZ 7 true] .ret)))))),[(.cell 6 true 8),(.tmp 7)],3,[]⟩
theorem dU:nA Tryz.prog 142 SB:=okF Tryz.func142
def iI:qB:=⟨(oR [oZ 2 false] (oR [oM 3 0,oC 4 .geq 3 1,oM 5 4,oMg 6 0 5 true,oCi 7 .leq 6 4 5 true,oPa 8 5 7,oM 2 8] .ret)),[(.tmp 2)],1,[]⟩
theorem sU:nA Tryz.prog 143 iI:=okF Tryz.func143
def gF:C:=oR [oB 17 .lss 16 15] (.seq (oD 17 .skip (.exit 0)) (.seq (.block 1 (oR [oI 18 1 14 16,oL 19 18,oM 7 19] (.reg [oM 20 5,oM 21 7,oC 22 .gtr 21 0,oS 23 (.bsl [(.bool false)] 1 [(0,(.t 22))]),oAp 24 4 1 1 20 23,oM 5 24]))) (.reg [oC 25 .add 16 1,oM 16 25])))
def QF:qB:=⟨(oR [oQ 1 1 0,oS 2 (.mv (.c (.sl true []))),oJ 3 0] (.seq (oR [oA 8 1 1,oC1 9 173 8,oM 4 9] (oR [oM 10 4,oC 11 .neq 10 0] (oD 11 (oR [oM 12 4,oS 2 (.mv (.c (.sl true []))),oM 3 12] .ret) .skip))) (oR [oS 5 (.mv (.c (.sl true [])))] (.seq (oR [oA 13 1 1,oC1 14 174 13,oH 15 14,oJ 16 0] (.block 0 (.loop gF))) (oR [oM 26 5,oM 2 26,oJ 3 0] .ret))))),[(.tmp 2),(.tmp 3)],1,[]⟩
theorem AS:nA Tryz.prog 144 QF:=okF Tryz.func144
def AG:C:=.seq (oR [oM 15 7,oM 16 5,oH 17 16,oB 18 .lss 15 17] (oD 18 .skip (.exit 0))) (.seq (.block 1 (.reg [oM 21 6,oM 22 5,oM 23 7,oI 24 1 22 23,oL 25 24,oC 26 .gtr 25 0,oS 27 (.bsl [(.bool false)] 1 [(0,(.t 26))]),oAp 28 4 1 1 21 27,oM 6 28])) (.reg [oM 19 7,oC 20 .add 19 1,oM 7 20]))
def ZG:qB:=⟨(oR [oQ 1 1 0,oS 2 (.mv (.c (.sl true []))),oJ 3 0] (.seq (oR [oA 8 1 1,oC1 9 175 8,oM 4 9] (oR [oM 10 4,oC 11 .neq 10 0] (oD 11 (oR [oM 12 4,oS 2 (.mv (.c (.sl true []))),oM 3 12] .ret) .skip))) (oR [oA 13 1 1,oC1 14 176 13,oM 5 14] (oR [oS 6 (.mv (.c (.sl true [])))] (.seq (oR [oJ 7 0] (.block 0 (.loop AG))) (oR [oM 29 6,oM 2 29,oJ 3 0] .ret)))))),[(.tmp 2),(.tmp 3)],1,[]⟩
theorem OV:nA Tryz.prog 145 ZG:=okF Tryz.func145
noncomputable def rM:qB:=cF [] Tryz.f146
theorem FQ:nA Tryz.prog 146 rM:=okF Tryz.func146
def CA:qB:=⟨(oR [oQ 2 8 0,oQ 3 8 1,oJ 4 0] (.seq (oR [oF 5 0 2,oL 6 5,oF 7 0 3,oL 8 7,oB 9 .neq 6 8] (oD 9 (oR [oJ 4 0] .ret) .skip)) (.seq (oR [oF 10 0 2,oL 11 10] (.block 0 (oR [oC 13 .eql 11 1,oM 12 13] (oD 12 (oR [oF 14 1 3,oL 15 14,oF 16 1 2,oL 17 16,oF 18 1 3,oL 19 18,oS 20 (.bin .eql true (.t 17) (.t 19)),oC2 21 178 15 20,oM 4 21] .ret) (oR [oC 23 .eql 11 2,oM 22 23] (oD 22 (oR [oF 24 2 2,oL 25 24,oC1 26 179 25,oF 27 2 3,oL 28 27,oC1 29 179 28,oB 30 .lss 26 29,oF 31 2 2,oL 32 31,oF 33 2 3,oL 34 33,oB 35 .eql 32 34,oC2 36 178 30 35,oM 4 36] .ret) (oR [oC 38 .eql 11 3,oM 37 38] (oD 37 (.seq (oR [oF 39 3 2,oL 40 39,oS 41 (.len true (.t 40)),oF 42 3 3,oL 43 42,oS 44 (.len true (.t 43)),oB 45 .neq 41 44] (oD 45 (oR [oF 46 3 2,oL 47 46,oS 48 (.len true (.t 47)),oF 49 3 3,oL 50 49,oS 51 (.len true (.t 50)),oB 52 .lss 48 51,oS 53 (.call .any 178 [(.t 52),(.c (.bool false))]),oM 4 53] .ret) .skip)) (oR [oF 54 3 2,oL 55 54,oF 56 3 3,oL 57 56,oB 58 .lss 55 57,oF 59 3 2,oL 60 59,oF 61 3 3,oL 62 61,oB 63 .eql 60 62,oC2 64 178 58 63,oM 4 64] .ret)) (oR [oC 66 .eql 11 4,oM 65 66] (oD 65 (oR [oF 67 4 2,oL 68 67,oF 69 4 3,oL 70 69,oB 71 .lss 68 70,oF 72 4 2,oL 73 72,oF 74 4 3,oL 75 74,oB 76 .eql 73 75,oC2 77 178 71 76,oM 4 77] .ret) .skip)))))))))) (oR [oJ 4 0] .ret)))),[(.tmp 4)],2,[]⟩
theorem jU:nA Tryz.prog 149 CA:=okF Tryz.func149
def xE:C:=.seq (oR [oM 48 7,oM 49 6,oH 50 49,oB 51 .lss 48 50] (oD 51 .skip (.exit 4))) (.seq (.block 5 (oR [oM 54 6,oM 55 7,oI 56 1 54 55,oL 57 56,oC 58 .lss 57 0,oM 59 58,oMg 60 6 59 false,oMg 61 7 59 false,oIg 62 1 60 61 59 false,oP 63 62 59 false,oFg 64 0 1 59 false,oP 65 64 59 false,oHg 66 65 59 false,oBg 67 .geq 63 66 59 false,oPo 68 59 67] (oD 68 (oR [oJ 2 4] .ret) .skip))) (.reg [oM 52 7,oC 53 .add 52 1,oM 7 53]))
def AD:C:=.seq (oR [oM 27 5,oM 28 3,oB 29 .lss 27 28] (oD 29 .skip (.exit 2))) (.seq (.block 3 (oR [oF 32 0 4,oL 33 32,oC1 34 88 33,oM 35 34,oFg 36 0 1 35 true,oP 37 36 35 true,oMg 38 5 35 true,oIg 39 10 37 38 35 true,oFg 40 1 39 35 true,oP 41 40 35 true,oFg 42 1 4 35 true,oP 43 42 35 true,oBg 44 .eql 41 43 35 true,oPa 45 35 44] (oD 45 (oR [oJ 2 1] .ret) .skip))) (.reg [oM 30 5,oC 31 .add 30 1,oM 5 31]))
def gH:C:=.seq (oR [oM 12 3,oF 13 0 1,oL 14 13,oH 15 14,oB 16 .lss 12 15] (oD 16 .skip (.exit 0))) (.seq (.block 1 (oR [oF 19 0 1,oL 20 19,oM 21 3,oI 22 10 20 21,oA 23 10 22,oY 4 zze,oV 10 4 23] (.seq (oR [oA 24 10 4,oC1 25 180 24,oU 26 25] (oD 26 (oR [oJ 2 1] .ret) .skip)) (.seq (oR [oJ 5 0] (.block 2 (.loop AD))) (oR [oA 46 10 4,oC1 47 181 46,oM 6 47] (.seq (oR [oJ 7 0] (.block 4 (.loop xE))) (oR [oF 69 0 4,oL 70 69,oC 71 .eql 70 8,oM 72 71,oFg 73 0 1 72 true,oP 74 73 72 true,oFg 75 7 4 72 true,oP 76 75 72 true,oIg 77 10 74 76 72 true,oFg 78 0 77 72 true,oP 79 78 72 true,oG 80 (.call .any 143 [(.t 79)]) 72 true,oUg 81 80 72 true,oPa 82 72 81] (oD 82 (oR [oJ 2 1] .ret) .skip)))))))) (.reg [oM 17 3,oC 18 .add 17 1,oM 3 18]))
def AH:qB:=⟨(oR [oQ 1 1 0,oJ 2 0] (.seq (oR [oF 8 0 1,oL 9 8,oH 10 9,oC 11 .gtr 10 32] (oD 11 (oR [oJ 2 3] .ret) .skip)) (.seq (oR [oJ 3 0] (.block 0 (.loop gH))) (oR [oJ 2 0] .ret)))),[(.tmp 2)],1,[]⟩
theorem QX:nA Tryz.prog 150 AH:=okF Tryz.func150
def tJ:C:=.seq (oR [oM 260 15,oF 261 5 6,oL 262 261,oH 263 262,oB 264 .lss 260 263] (oD 264 .skip (.exit 3))) (.seq (.block 4 (oR [oF 267 5 6,oL 268 267,oM 269 15,oC 270 .sub 269 1,oI 271 8 268 270,oA 272 8 271,oF 273 5 6,oL 274 273,oM 275 15,oI 276 8 274 275,oA 277 8 276,oC2 278 149 272 277,oC 279 .geq 278 0] (oD 279 (oR [oZ 8 false] .ret) .skip))) (.reg [oM 265 15,oC 266 .add 265 1,oM 15 266]))
def uJ:C:=.seq (oR [oM 115 12,oF 116 6 6,oL 117 116,oH 118 117,oB 119 .lss 115 118] (oD 119 .skip (.exit 1))) (.seq (.block 2 (oR [oA 122 1 4,oF 123 6 9,oL 124 123,oM 125 12,oI 126 13 124 125,oF 127 2 126,oL 128 127,oF 129 6 6,oL 130 129,oM 131 12,oI 132 8 130 131,oA 133 8 132,oM 134 3,oC4 135 151 122 128 133 134,oU 136 135] (oD 136 (oR [oZ 8 false] .ret) .skip))) (.reg [oM 120 12,oC 121 .add 120 1,oM 12 121]))
def cA:qB:=⟨(oR [oQ 4 1 0,oQ 6 8 2,oZ 8 false] (.seq (oR [oM 16 1,oC 17 .lss 16 0,oM 18 17,oMg 19 1 18 false,oFg 20 0 4 18 false,oP 21 20 18 false,oHg 22 21 18 false,oBg 23 .geq 19 22 18 false,oPo 24 18 23] (oD 24 (oR [oZ 8 false] .ret) .skip)) (oR [oF 25 0 4,oL 26 25,oM 27 1,oI 28 10 26 27,oA 29 10 28,oY 9 zze,oV 10 9 29] (.seq (oR [oF 30 0 6,oL 31 30,oF 32 0 9,oL 33 32,oB 34 .neq 31 33,oM 35 34,oLg 36 8 6 35 false,oG 37 (.call .any 182 [(.t 36)]) 35 false,oUg 38 37 35 false,oPo 39 35 38,oM 40 39,oMg 41 3 40 false,oMg 42 41 40 false,oFg 43 7 6 42 true,oP 44 43 42 true,oHg 45 44 42 true,oCi 46 .gtr 45 0 42 true,oPb 47 42 46 40 false,oPo 48 40 47] (oD 48 (oR [oZ 8 false] .ret) .skip)) (.seq (oR [oF 49 0 9,oL 50 49] (.block 0 (oR [oC 52 .eql 50 1,oM 51 52] (oD 51 (oR [oZ 8 true] .ret) (oR [oC 54 .eql 50 2,oM 53 54] (oD 53 (oR [oF 55 2 6,oL 56 55,oF 57 2 9,oL 58 57,oB 59 .geq 56 58,oM 60 59,oFg 61 2 6 60 true,oP 62 61 60 true,oFg 63 3 9 60 true,oP 64 63 60 true,oBg 65 .leq 62 64 60 true,oPa 66 60 65,oM 8 66] .ret) (oR [oC 68 .eql 50 3,oM 67 68] (oD 67 (oR [oF 69 3 6,oL 70 69,oS 71 (.len true (.t 70)),oF 72 4 9,oL 73 72,oB 74 .leq 71 73,oM 8 74] .ret) (oR [oC 76 .eql 50 4,oM 75 76] (oD 75 (oR [oA 78 10 9,oF 79 4 6,oL 80 79,oC2 81 123 78 80,oM 77 81,oX 82 77 0,oX 83 77 1,oM 10 82,oM 11 83] (oR [oM 84 11,oM 85 84,oFg 86 9 9 85 false,oP 87 86 85 false,oMg 88 87 85 false,oMg 89 3 88 true,oUg 90 89 88 true,oPb 91 88 90 85 false,oMg 92 91 85 false,oFg 93 4 6 92 true,oP 94 93 92 true,oMg 95 11 92 true,oCg 96 183 94 95 92 true,oPb 97 92 96 85 false,oPo 98 85 97,oM 8 98] .ret)) (oR [oC 100 .eql 50 5,oM 99 100] (oD 99 (.seq (oR [oF 101 6 6,oL 102 101,oH 103 102,oF 104 6 9,oL 105 104,oH 106 105,oB 107 .neq 103 106,oM 108 107,oLg 109 10 9 108 false,oFg 110 7 6 108 false,oP 111 110 108 false,oCg 112 184 109 111 108 false,oUg 113 112 108 false,oPo 114 108 113] (oD 114 (oR [oZ 8 false] .ret) .skip)) (.seq (oR [oJ 12 0] (.block 1 (.loop uJ))) (oR [oZ 8 true] .ret))) (oR [oC 138 .eql 50 6,oM 137 138] (oD 137 (oR [oA 140 10 9,oF 141 4 6,oL 142 141,oC2 143 99 140 142,oM 139 143,oX 144 139 0,oX 145 139 1,oM 13 144,oM 14 145] (.seq (oR [oM 146 14] (oD 146 (oR [oF 147 6 6,oL 148 147,oH 149 148,oC 150 .eql 149 1,oM 151 150,oFg 152 7 6 151 true,oP 153 152 151 true,oHg 154 153 151 true,oCi 155 .eql 154 0 151 true,oPa 156 151 155,oM 157 156,oLg 158 1 4 157 true,oFg 159 6 9 157 true,oP 160 159 157 true,oMg 161 13 157 true,oIg 162 13 160 161 157 true,oFg 163 2 162 157 true,oP 164 163 157 true,oFg 165 6 6 157 true,oP 166 165 157 true,oG 167 (.iaddr 8 (.t 166) (.c (.int .i64 0))) 157 true,oLg 168 8 167 157 true,oMg 169 3 157 true,oG 170 (.call .any 151 [(.t 158),(.t 164),(.t 168),(.t 169)]) 157 true,oPa 171 157 170,oM 8 171] .ret) .skip)) (oR [oF 172 9 9,oL 173 172,oM 174 173,oMg 175 3 174 true,oUg 176 175 174 true,oPa 177 174 176,oM 178 177,oFg 179 4 6 178 true,oP 180 179 178 true,oMg 181 14 178 true,oCg 182 183 180 181 178 true,oPa 183 178 182,oM 184 183,oFg 185 6 6 184 true,oP 186 185 184 true,oHg 187 186 184 true,oCi 188 .eql 187 0 184 true,oPa 189 184 188,oM 190 189,oFg 191 7 6 190 true,oP 192 191 190 true,oHg 193 192 190 true,oCi 194 .eql 193 1 190 true,oPa 195 190 194,oM 196 195,oFg 197 7 6 196 true,oP 198 197 196 true,oG 199 (.iaddr 2 (.t 198) (.c (.int .i64 0))) 196 true,oFg 200 0 199 196 true,oP 201 200 196 true,oFg 202 4 6 196 true,oP 203 202 196 true,oBg 204 .eql 201 203 196 true,oPa 205 196 204,oM 8 205] .ret))) (oR [oC 207 .eql 50 7,oM 206 207] (oD 206 (oR [oF 208 6 6,oL 209 208,oH 210 209,oF 211 4 9,oL 212 211,oB 213 .leq 210 212,oM 214 213,oLg 215 1 4 214 true,oFg 216 8 9 214 true,oP 217 216 214 true,oFg 218 6 6 214 true,oP 219 218 214 true,oMg 220 3 214 true,oG 221 (.call .any 185 [(.t 215),(.t 217),(.t 219),(.t 220)]) 214 true,oPa 222 214 221,oM 8 222] .ret) (oR [oC 224 .eql 50 8,oM 223 224] (oD 223 (.seq (oR [oF 225 5 6,oL 226 225,oH 227 226,oF 228 4 9,oL 229 228,oB 230 .gtr 227 229,oM 231 230,oFg 232 6 6 231 false,oP 233 232 231 false,oHg 234 233 231 false,oFg 235 5 6 231 false,oP 236 235 231 false,oHg 237 236 231 false,oBg 238 .neq 234 237 231 false,oPo 239 231 238,oM 240 239,oLg 241 1 4 240 false,oFg 242 7 9 240 false,oP 243 242 240 false,oFg 244 5 6 240 false,oP 245 244 240 false,oMg 246 3 240 false,oG 247 (.call .any 185 [(.t 241),(.t 243),(.t 245),(.t 246)]) 240 false,oUg 248 247 240 false,oPo 249 240 248,oM 250 249,oLg 251 1 4 250 false,oFg 252 8 9 250 false,oP 253 252 250 false,oFg 254 6 6 250 false,oP 255 254 250 false,oMg 256 3 250 false,oG 257 (.call .any 185 [(.t 251),(.t 253),(.t 255),(.t 256)]) 250 false,oUg 258 257 250 false,oPo 259 250 258] (oD 259 (oR [oZ 8 false] .ret) .skip)) (.seq (oR [oJ 15 1] (.block 3 (.loop tJ))) (oR [oZ 8 true] .ret))) .skip)))))))))))))))))) (oR [oF 280 6 6,oL 281 280,oH 282 281,oC 283 .leq 282 1,oM 284 283,oLg 285 1 4 284 true,oFg 286 8 9 284 true,oP 287 286 284 true,oFg 288 6 6 284 true,oP 289 288 284 true,oMg 290 3 284 true,oG 291 (.call .any 185 [(.t 285),(.t 287),(.t 289),(.t 290)]) 284 true,oPa 292 284 291,oM 8 292] .ret)))))),[(.tmp 8)],4,[]⟩
theorem i3:nA Tryz.prog 151 cA:=okF Tryz.func151
def kI:qB:=⟨(oR [oQ 2 10 0,oQ 3 1 1,oJ 4 0,oZ 5 false] (oR [oF 7 5 2,oL 8 7,oS 9 (.mkf 193 [(.t 3)]),oC2 10 192 8 9,oM 6 10] (oR [oM 11 6,oS 12 (.mm true (.t 11) (.c (.int .i64 0))),oM 13 6,oC 14 .geq 13 0,oM 4 12,oM 5 14] .ret))),[(.tmp 4),(.tmp 5)],2,[]⟩
theorem bU:nA Tryz.prog 154 kI:=okF Tryz.func154
def ZE:qB:=⟨(oR [oQ 5 1 0,oQ 7 8 2,oQ 8 1 3,oY 10 zza,oJ 11 0] (.seq (oR [oA 16 1 5,oM 17 1,oA 18 8 7,oA 19 1 8,oM 20 4,oS 21 (.call .any 194 [(.t 16),(.t 17),(.t 18),(.t 19),(.t 20)]),oM 12 21] (oR [oM 22 12,oC 23 .neq 22 0] (oD 23 (oR [oS 24 (.build zza []),oM 25 12,oV 8 10 24,oM 11 25] .ret) .skip))) (oR [oA 26 1 5,oA 27 1 8,oS 28 (.build zzi [(0,(1,(.t 26))),(1,(1,(.t 27)))]),oQ 29 4 28,oM 13 29] (oR [oM 31 13,oM 32 1,oA 33 8 7,oM 34 4,oS 35 (.callr .any 195 [(.t 31),(.t 32),(.t 33),(.t 34)]),oM 30 35,oX 36 30 0,oX 37 30 1,oY 14 zza,oV 8 14 36,oM 15 37] (.seq (oR [oM 38 15,oU 39 38] (oD 39 (oR [oS 40 (.build zza []),oV 8 10 40,oJ 11 12] .ret) .skip)) (oR [oA 41 8 14,oV 8 10 41,oJ 11 0] .ret)))))),[(.cell 10 true 8),(.tmp 11)],5,[71]⟩
theorem mR:nA Tryz.prog 155 ZE:=okF Tryz.func155
def CC:qB:=⟨(oR [oQ 2 8 0,oQ 3 8 1,oZ 4 false] (oR [oF 5 0 2,oL 6 5,oF 7 0 3,oL 8 7,oB 9 .eql 6 8,oM 10 9,oFg 11 1 2 10 true,oP 12 11 10 true,oFg 13 1 3 10 true,oP 14 13 10 true,oG 15 (.bin .eql true (.t 12) (.t 14)) 10 true,oPa 16 10 15,oM 17 16,oFg 18 2 2 17 true,oP 19 18 17 true,oFg 20 2 3 17 true,oP 21 20 17 true,oBg 22 .eql 19 21 17 true,oPa 23 17 22,oM 24 23,oFg 25 3 2 24 true,oP 26 25 24 true,oFg 27 3 3 24 true,oP 28 27 24 true,oBg 29 .eql 26 28 24 true,oPa 30 24 29,oM 31 30,oFg 32 4 2 31 true,oP 33 32 31 true,oFg 34 4 3 31 true,oP 35 34 31 true,oBg 36 .eql 33 35 31 true,oPa 37 31 36,oM 38 37,oFg 39 7 2 38 true,oP 40 39 38 true,oFg 41 7 3 38 true,oP 42 41 38 true,oCg 43 196 40 42 38 true,oPa 44 38 43,oM 45 44,oFg 46 5 2 45 true,oP 47 46 45 true,oFg 48 5 3 45 true,oP 49 48 45 true,oG 50 (.call .any 197 [(.t 47),(.t 49),(.c (.fn 156 []))]) 45 true,oPa 51 45 50,oM 52 51,oFg 53 6 2 52 true,oP 54 53 52 true,oFg 55 6 3 52 true,oP 56 55 52 true,oG 57 (.call .any 197 [(.t 54),(.t 56),(.c (.fn 156 []))]) 52 true,oPa 58 52 57,oM 4 58] .ret)),[(.tmp 4)],2,[]⟩
theorem NX:nA Tryz.prog 156 CC:=okF Tryz.func156
def GH:qB:=⟨(oR [oQ 6 1 0,oQ 8 8 2,oQ 9 1 3,oQ 11 8 5,oZ 12 false] (oR [oA 16 1 6,oM 17 1,oA 18 8 8,oA 19 1 9,oM 20 4,oS 21 (.call .any 23 [(.t 16),(.t 17),(.t 18),(.t 19),(.t 20)]),oM 15 21,oX 22 15 0,oX 23 15 1,oY 13 zza,oV 8 13 22,oM 14 23] (oR [oM 24 14,oC 25 .eql 24 0,oM 26 25,oLg 27 8 13 26 true,oLg 28 8 11 26 true,oCg 29 191 27 28 26 true,oPa 30 26 29,oM 12 30] .ret))),[(.tmp 12)],6,[]⟩
theorem FX:nA Tryz.prog 157 GH:=okF Tryz.func157
def XC:C:=oR [oB 9 .lss 8 7] (.seq (oD 9 .skip (.exit 0)) (.seq (.block 1 (oR [oM 10 8,oM 5 10] (oR [oA 11 2 3,oM 12 0,oM 13 5,oI 14 2 12 13,oA 15 2 14,oS 16 (.eqa false [0,0] (.t 11) (.t 15))] (oD 16 (oR [oM 17 5,oM 4 17] .ret) .skip)))) (.reg [oC 18 .add 8 1,oM 8 18])))
def FE:qB:=⟨(oR [oQ 3 2 1,oJ 4 0] (.seq (oR [oM 6 0,oH 7 6,oJ 8 0] (.block 0 (.loop XC))) (oR [oJ 4 (-1)] .ret))),[(.tmp 4)],2,[]⟩
theorem hO:nA Tryz.prog 158 FE:=okF Tryz.func158
def aC:C:=oR [oB 9 .lss 8 7] (.seq (oD 9 .skip (.exit 0)) (.seq (.block 1 (oR [oM 10 8,oM 5 10] (oR [oM 11 1,oM 12 0,oM 13 5,oI 14 13 12 13,oA 15 13 14,oS 16 (.callv .any (.t 11) [(.t 15)])] (oD 16 (oR [oM 17 5,oM 4 17] .ret) .skip)))) (.reg [oC 18 .add 8 1,oM 8 18])))
def DC:qB:=⟨(oR [oJ 4 0] (.seq (oR [oM 6 0,oH 7 6,oJ 8 0] (.block 0 (.loop aC))) (oR [oJ 4 (-1)] .ret))),[(.tmp 4)],2,[]⟩
theorem dK:nA Tryz.prog 159 DC:=okF Tryz.func159
def KF:qB:=⟨(oR [oQ 2 13 0,oZ 3 false] (oR [oF 4 0 2,oL 5 4,oL 6 1,oB 7 .eql 5 6,oM 3 7] .ret)),[(.tmp 3)],2,[]⟩
theorem IQ:nA Tryz.prog 160 KF:=okF Tryz.func160
def eI:qB:=⟨(oR [oZ 2 false] (oR [oM 3 0,oM 4 0,oB 5 .neq 3 4,oM 2 5] .ret)),[(.tmp 2)],1,[]⟩
theorem qU:nA Tryz.prog 171 eI:=okF Tryz.func171
def qJ:qB:=⟨(oR [oZ 2 false] (oR [oM 3 0,oC 4 .geq 3 7,oM 2 4] .ret)),[(.tmp 2)],1,[]⟩
theorem TV:nA Tryz.prog 172 qJ:=okF Tryz.func172
def tG:qB:=⟨(oR [oQ 1 1 0,oJ 2 0] (.seq (oR [oA 7 1 1,oC1 8 203 7,oM 3 8] (oR [oM 9 3,oC 10 .neq 9 0] (oD 10 (oR [oM 11 3,oM 2 11] .ret) .skip))) (oR [oA 13 1 1,oC1 14 204 13,oM 12 14,oX 15 12 0,oX 16 12 1,oX 17 12 2,oM 4 15,oM 5 16,oM 6 17] (oR [oM 18 6,oM 2 18] .ret)))),[(.tmp 2)],1,[]⟩
theorem uU:nA Tryz.prog 173 tG:=okF Tryz.func173
def sE:C:=oR [oB 17 .lss 16 15] (.seq (oD 17 .skip (.exit 2)) (.seq (.block 3 (oR [oM 18 16,oI 19 10 14 16,oA 20 10 19,oY 6 zze,oM 5 18,oV 10 6 20] (oR [oA 21 10 6,oM 22 3,oC2 23 205 21 22,oS 24 (.mm false (.c (.int .i64 2)) (.t 23)),oM 7 24] (oR [oM 25 7,oM 26 3,oM 27 5,oI 28 1 26 27,oL 29 28,oB 30 .neq 25 29] (oD 30 (.reg [oM 31 3,oM 32 5,oM 33 7,oI 34 1 31 32,oW 34 33,oZ 4 true]) .skip))))) (.reg [oC 35 .add 16 1,oM 16 35])))
def WH:C:=.seq (oR [oM 12 4] (oD 12 .skip (.exit 0))) (.block 1 (oR [oZ 4 false] (oR [oF 13 0 1,oL 14 13,oH 15 14,oJ 16 0] (.block 2 (.loop sE)))))
def sH:qB:=⟨(oR [oQ 1 1 0,oS 2 (.mv (.c (.sl true [])))] (oR [oF 8 0 1,oL 9 8,oH 10 9,oS 11 (.mks 1 8 [(.int .i64 0)] (.t 10) (.t 10)),oM 3 11] (.seq (oR [oZ 4 true] (.block 0 (.loop WH))) (oR [oM 36 3,oM 2 36] .ret)))),[(.tmp 2)],1,[]⟩
theorem SS:nA Tryz.prog 174 sH:=okF Tryz.func174
def DH:qB:=⟨(oR [oQ 1 1 0,oJ 2 0] (.seq (oR [oA 7 1 1,oC1 8 150 7,oM 3 8] (oR [oM 9 3,oC 10 .neq 9 0] (oD 10 (oR [oM 11 3,oM 2 11] .ret) .skip))) (oR [oA 13 1 1,oC1 14 206 13,oM 12 14,oX 15 12 0,oX 16 12 1,oX 17 12 2,oM 4 15,oM 5 16,oM 6 17] (oR [oM 18 6,oM 2 18] .ret)))),[(.tmp 2)],1,[]⟩
theorem PX:nA Tryz.prog 175 DH:=okF Tryz.func175
def pJ:C:=.seq (oR [oM 18 5,oF 19 0 1,oL 20 19,oH 21 20,oB 22 .lss 18 21] (oD 22 .skip (.exit 2))) (.seq (.block 3 (.reg [oM 25 3,oM 26 5,oF 27 0 1,oL 28 27,oM 29 5,oI 30 10 28 29,oA 31 10 30,oM 32 3,oC2 33 207 31 32,oI 34 1 25 26,oW 34 33])) (.reg [oM 23 5,oC 24 .add 23 1,oM 5 24]))
def aJ:C:=.seq (oR [oM 10 4,oF 11 0 1,oL 12 11,oH 13 12,oS 14 (.bin .mul false (.c (.int .i64 2)) (.t 13)),oB 15 .leq 10 14] (oD 15 .skip (.exit 0))) (.seq (.block 1 (oR [oJ 5 0] (.block 2 (.loop pJ)))) (.reg [oM 16 4,oC 17 .add 16 1,oM 4 17]))
def iJ:qB:=⟨(oR [oQ 1 1 0,oS 2 (.mv (.c (.sl true [])))] (oR [oF 6 0 1,oL 7 6,oH 8 7,oS 9 (.mks 1 8 [(.int .i64 0)] (.t 8) (.t 8)),oM 3 9] (.seq (oR [oJ 4 0] (.block 0 (.loop aJ))) (oR [oM 35 3,oM 2 35] .ret)))),[(.tmp 2)],1,[]⟩
theorem IV:nA Tryz.prog 176 iJ:=okF Tryz.func176
def mK:qB:=⟨(oR [oJ 4 0] (.seq (oR [oM 5 1] (oD 5 (oR [oJ 4 0] .ret) .skip)) (.seq (oR [oM 6 0] (oD 6 (oR [oJ 4 (-1)] .ret) .skip)) (oR [oJ 4 1] .ret)))),[(.tmp 4)],2,[]⟩
theorem UX:nA Tryz.prog 178 mK:=okF Tryz.func178
def KG:qB:=⟨(oR [oS 2 (.mv (.c (.int .u64 0)))] (.seq (oR [oM 3 0,oC 4 .geq 3 0] (oD 4 (oR [oM 5 0,oS 6 (.conv (.some .u64) (.t 5)),oS 7 (.bin .mul false (.c (.int .u64 2)) (.t 6)),oM 2 7] .ret) .skip)) (oR [oM 8 0,oC 9 .add 8 1,oS 10 (.un .neg (.t 9)),oS 11 (.conv (.some .u64) (.t 10)),oS 12 (.bin .mul false (.c (.int .u64 2)) (.t 11)),oS 13 (.bin .add false (.t 12) (.c (.int .u64 1))),oM 2 13] .ret))),[(.tmp 2)],1,[]⟩
theorem nV:nA Tryz.prog 179 KG:=okF Tryz.func179
def WA:qB:=⟨(oR [oQ 1 10 0,oZ 2 false] (.seq (oR [oF 3 0 1,oL 4 3,oC 5 .lss 4 1,oM 6 5,oFg 7 0 1 6 false,oP 8 7 6 false,oCi 9 .gtr 8 9 6 false,oPo 10 6 9,oM 11 10,oLg 12 10 1 11 false,oLg 13 10 1 11 false,oG 14 (.call .any 209 [(.t 13)]) 11 false,oCg 15 208 12 14 11 false,oUg 16 15 11 false,oPo 17 11 16,oM 18 17,oFg 19 0 1 18 false,oP 20 19 18 false,oG 21 (.call .any 88 [(.t 20)]) 18 false,oMg 22 21 18 false,oFg 23 1 1 22 true,oP 24 23 22 true,oG 25 (.call .any 210 [(.t 24)]) 22 true,oUg 26 25 22 true,oPb 27 22 26 18 false,oPo 28 18 27] (oD 28 (oR [oZ 2 false] .ret) .skip)) (.seq (oR [oF 29 0 1,oL 30 29] (.block 0 (oR [oC 32 .eql 30 2,oM 31 32] (oD 31 (oR [oF 33 2 1,oL 34 33,oF 35 3 1,oL 36 35,oB 37 .leq 34 36,oM 2 37] .ret) (oR [oC 39 .eql 30 3,oM 38 39] (oD 38 (oR [oF 40 4 1,oL 41 40,oC 42 .geq 41 0,oM 43 42,oFg 44 4 1 43 true,oP 45 44 43 true,oCi 46 .leq 45 200 43 true,oPa 47 43 46,oM 2 47] .ret) (oR [oC 49 .eql 30 4,oM 48 49] (oD 48 (oR [oF 50 5 1,oL 51 50,oC1 52 211 51,oM 2 52] .ret) (.seq (oR [oC 54 .eql 30 5,oM 53 54] (oD 53 .skip (.reg [oC 55 .eql 30 6,oM 53 55]))) (oD 53 (oR [oF 56 6 1,oL 57 56,oF 58 0 1,oL 59 58,oC 60 .eql 59 5,oC2 61 212 57 60,oM 2 61] .ret) (.seq (oR [oC 63 .eql 30 7,oM 62 63] (oD 62 .skip (.reg [oC 64 .eql 30 8,oM 62 64]))) (oD 62 (oR [oF 65 4 1,oL 66 65,oC 67 .geq 66 0,oM 68 67,oFg 69 4 1 68 true,oP 70 69 68 true,oCi 71 .leq 70 50 68 true,oPa 72 68 71,oM 2 72] .ret) .skip)))))))))))) (oR [oZ 2 true] .ret)))),[(.tmp 2)],1,[]⟩
theorem r3:nA Tryz.prog 180 WA:=okF Tryz.func180
def uG:C:=.seq (oR [oM 5 4,oF 6 6 1,oL 7 6,oH 8 7,oB 9 .lss 5 8] (oD 9 .skip (.exit 0))) (.seq (.block 1 (.reg [oM 12 3,oF 13 6 1,oL 14 13,oM 15 4,oI 16 13 14 15,oF 17 2 16,oL 18 17,oS 19 (.bsl [(.int .i64 0)] 1 [(0,(.t 18))]),oAp 20 3 1 8 12 19,oM 3 20])) (.reg [oM 10 4,oC 11 .add 10 1,oM 4 11]))
def zL:qB:=⟨(oR [oQ 1 10 0,oS 2 (.mv (.c (.sl true [])))] (oR [oS 3 (.mv (.c (.sl true [])))] (.seq (oR [oJ 4 0] (.block 0 (.loop uG))) (.seq (oR [oF 21 0 1,oL 22 21,oC 23 .eql 22 8] (oD 23 (.reg [oM 24 3,oF 25 7 1,oL 26 25,oS 27 (.bsl [(.int .i64 0)] 1 [(0,(.t 26))]),oAp 28 3 1 8 24 27,oM 3 28]) .skip)) (.seq (oR [oF 29 0 1,oL 30 29,oC 31 .eql 30 7,oM 32 31,oFg 33 0 1 32 false,oP 34 33 32 false,oCi 35 .eql 34 8 32 false,oPo 36 32 35,oM 37 36,oFg 38 0 1 37 false,oP 39 38 37 false,oCi 40 .eql 39 9 37 false,oPo 41 37 40] (oD 41 (.reg [oM 42 3,oF 43 8 1,oL 44 43,oS 45 (.bsl [(.int .i64 0)] 1 [(0,(.t 44))]),oAp 46 3 1 8 42 45,oM 3 46]) .skip)) (oR [oM 47 3,oM 2 47] .ret)))))),[(.tmp 2)],1,[]⟩
theorem HY:nA Tryz.prog 181 zL:=okF Tryz.func181
def iA:qB:=⟨(oR [oQ 1 8 0,oZ 2 false] (oR [oF 4 0 1,oL 5 4,oM 3 5] (oR [oM 6 3,oC 7 .eql 6 1,oM 8 7,oFg 9 1 1 8 false,oP 10 9 8 false,oUg 11 10 8 false,oPo 12 8 11,oM 13 12,oMg 14 3 13 true,oCi 15 .eql 14 2 13 true,oMg 16 15 13 true,oFg 17 2 1 16 false,oP 18 17 16 false,oCi 19 .eql 18 0 16 false,oG 20 (.pick (.t 16) (.c (.bool true)) (.t 19)) 13 true,oPa 21 13 20,oM 22 21,oMg 23 3 22 true,oCi 24 .eql 23 3 22 true,oMg 25 24 22 true,oFg 26 3 1 25 false,oP 27 26 25 false,oG 28 (.bin .eql false (.t 27) (.c (.str (ByteArray.mk #[])))) 25 false,oG 29 (.pick (.t 25) (.c (.bool true)) (.t 28)) 22 true,oPa 30 22 29,oM 31 30,oMg 32 3 31 true,oCi 33 .eql 32 4 31 true,oMg 34 33 31 true,oMg 35 3 34 false,oCi 36 .eql 35 6 34 false,oG 37 (.pick (.t 34) (.c (.bool true)) (.t 36)) 31 true,oMg 38 37 31 true,oFg 39 4 1 38 false,oP 40 39 38 false,oCi 41 .eql 40 0 38 false,oG 42 (.pick (.t 38) (.c (.bool true)) (.t 41)) 31 true,oPa 43 31 42,oM 44 43,oMg 45 3 44 true,oCi 46 .eql 45 8 44 true,oMg 47 46 44 true,oFg 48 5 1 47 false,oP 49 48 47 false,oHg 50 49 47 false,oCi 51 .eql 50 0 47 false,oG 52 (.pick (.t 47) (.c (.bool true)) (.t 51)) 44 true,oPa 53 44 52,oM 54 53,oMg 55 3 54 true,oCi 56 .geq 55 5 54 true,oMg 57 56 54 true,oFg 58 6 1 57 false,oP 59 58 57 false,oHg 60 59 57 false,oCi 61 .eql 60 0 57 false,oG 62 (.pick (.t 57) (.c (.bool true)) (.t 61)) 54 true,oPa 63 54 62,oM 64 63,oMg 65 3 64 true,oCi 66 .eql 65 5 64 true,oMg 67 66 64 true,oMg 68 3 67 false,oCi 69 .eql 68 6 67 false,oG 70 (.pick (.t 67) (.c (.bool true)) (.t 69)) 64 true,oMg 71 70 64 true,oFg 72 7 1 71 false,oP 73 72 71 false,oHg 74 73 71 false,oCi 75 .eql 74 0 71 false,oG 76 (.pick (.t 71) (.c (.bool true)) (.t 75)) 64 true,oPa 77 64 76,oM 2 77] .ret))),[(.tmp 2)],1,[]⟩
theorem KY:nA Tryz.prog 182 iA:=okF Tryz.func182
def EO:C:=.seq (oR [oM 8 5,oM 9 1,oH 10 9,oB 11 .lss 8 10] (oD 11 .skip (.exit 0))) (.seq (.block 1 (oR [oA 15 10 2,oM 16 1,oM 17 5,oI 18 2 16 17,oF 19 0 18,oL 20 19,oC2 21 99 15 20,oM 14 21,oX 22 14 0,oX 23 14 1,oM 6 22,oM 7 23] (oR [oM 24 1,oM 25 5,oI 26 2 24 25,oF 27 0 26,oL 28 27,oM 29 7,oC2 30 183 28 29,oU 31 30,oM 32 31,oMg 33 5 32 false,oCi 34 .gtr 33 0 32 false,oMg 35 34 32 false,oMg 36 1 35 true,oMg 37 5 35 true,oIg 38 2 36 37 35 true,oFg 39 0 38 35 true,oP 40 39 35 true,oMg 41 1 35 true,oMg 42 5 35 true,oCi 43 .sub 42 1 35 true,oIg 44 2 41 43 35 true,oFg 45 0 44 35 true,oP 46 45 35 true,oBg 47 .leq 40 46 35 true,oPb 48 35 47 32 false,oPo 49 32 48] (oD 49 (oR [oZ 4 false] .ret) .skip)))) (.reg [oM 12 5,oC 13 .add 12 1,oM 5 13]))
def xL:qB:=⟨(oR [oQ 2 10 0,oZ 4 false] (.seq (oR [oJ 5 0] (.block 0 (.loop EO))) (oR [oZ 4 true] .ret))),[(.tmp 4)],2,[]⟩
theorem JY:nA Tryz.prog 184 xL:=okF Tryz.func184
def rJ:C:=.seq (oR [oM 10 9,oM 11 2,oH 12 11,oB 13 .lss 10 12] (oD 13 .skip (.exit 0))) (.seq (.block 1 (oR [oA 16 1 4,oM 17 1,oM 18 2,oM 19 9,oI 20 8 18 19,oA 21 8 20,oM 22 3,oC4 23 151 16 17 21 22,oU 24 23] (oD 24 (oR [oZ 8 false] .ret) .skip))) (.reg [oM 14 9,oC 15 .add 14 1,oM 9 15]))
def KM:qB:=⟨(oR [oQ 4 1 0,oZ 8 false] (.seq (oR [oJ 9 0] (.block 0 (.loop rJ))) (oR [oZ 8 true] .ret))),[(.tmp 8)],4,[]⟩
theorem t3:nA Tryz.prog 185 KM:=okF Tryz.func185
def iD:C:=.seq (oR [oM 48 5,oF 49 7 2,oL 50 49,oH 51 50,oB 52 .lss 48 51] (oD 52 .skip (.exit 0))) (.seq (.block 1 (oR [oF 55 7 2,oL 56 55,oM 57 5,oI 58 2 56 57,oA 59 2 58,oF 60 7 3,oL 61 60,oM 62 5,oI 63 2 61 62,oA 64 2 63,oS 65 (.eqa true [0,1] (.t 59) (.t 64))] (oD 65 (oR [oZ 4 false] .ret) .skip))) (.reg [oM 53 5,oC 54 .add 53 1,oM 5 54]))
def GB:qB:=⟨(oR [oQ 2 8 0,oQ 3 8 1,oZ 4 false] (.seq (oR [oF 6 0 2,oL 7 6,oF 8 0 3,oL 9 8,oB 10 .neq 7 9,oM 11 10,oFg 12 1 2 11 false,oP 13 12 11 false,oFg 14 1 3 11 false,oP 15 14 11 false,oG 16 (.bin .neq true (.t 13) (.t 15)) 11 false,oPo 17 11 16,oM 18 17,oFg 19 2 2 18 false,oP 20 19 18 false,oFg 21 2 3 18 false,oP 22 21 18 false,oBg 23 .neq 20 22 18 false,oPo 24 18 23,oM 25 24,oFg 26 3 2 25 false,oP 27 26 25 false,oFg 28 3 3 25 false,oP 29 28 25 false,oBg 30 .neq 27 29 25 false,oPo 31 25 30,oM 32 31,oFg 33 4 2 32 false,oP 34 33 32 false,oFg 35 4 3 32 false,oP 36 35 32 false,oBg 37 .neq 34 36 32 false,oPo 38 32 37,oM 39 38,oFg 40 7 2 39 false,oP 41 40 39 false,oHg 42 41 39 false,oFg 43 7 3 39 false,oP 44 43 39 false,oHg 45 44 39 false,oBg 46 .neq 42 45 39 false,oPo 47 39 46] (oD 47 (oR [oZ 4 false] .ret) .skip)) (.seq (oR [oJ 5 0] (.block 0 (.loop iD))) (oR [oF 66 5 2,oL 67 66,oF 68 5 3,oL 69 68,oC2 70 213 67 69,oM 71 70,oFg 72 6 2 71 true,oP 73 72 71 true,oFg 74 6 3 71 true,oP 75 74 71 true,oCg 76 213 73 75 71 true,oPa 77 71 76,oM 4 77] .ret)))),[(.tmp 4)],2,[]⟩
theorem QR:nA Tryz.prog 189 GB:=okF Tryz.func189
def bK:qB:=⟨(oR [oQ 2 8 0,oQ 3 8 1,oZ 4 false] (oR [oA 5 8 2,oA 6 8 3,oC2 7 189 5 6,oM 4 7] .ret)),[(.tmp 4)],2,[]⟩
theorem RX:nA Tryz.prog 191 bK:=okF Tryz.func191
def sC:C:=oR [oB 9 .lss 8 7] (.seq (oD 9 .skip (.exit 0)) (.seq (.block 1 (oR [oM 10 8,oM 5 10] (oR [oM 11 1,oM 12 0,oM 13 5,oI 14 2 12 13,oA 15 2 14,oS 16 (.callv .any (.t 11) [(.t 15)])] (oD 16 (oR [oM 17 5,oM 4 17] .ret) .skip)))) (.reg [oC 18 .add 8 1,oM 8 18])))
def FC:qB:=⟨(oR [oJ 4 0] (.seq (oR [oM 6 0,oH 7 6,oJ 8 0] (.block 0 (.loop sC))) (oR [oJ 4 (-1)] .ret))),[(.tmp 4)],2,[]⟩
theorem fK:nA Tryz.prog 192 FC:=okF Tryz.func192
def LF:qB:=⟨(oR [oQ 2 2 0,oZ 3 false] (oR [oF 4 0 2,oL 5 4,oL 6 1,oB 7 .eql 5 6,oM 3 7] .ret)),[(.tmp 3)],2,[]⟩
theorem OQ:nA Tryz.prog 193 LF:=okF Tryz.func193
def uI:qB:=⟨(oR [oQ 5 1 0,oQ 7 8 2,oQ 8 1 3,oJ 10 0] (.seq (oR [oA 13 1 5,oM 14 1,oC2 15 214 13 14,oM 11 15] (oR [oM 16 11,oC 17 .neq 16 0] (oD 17 (oR [oM 18 11,oM 10 18] .ret) .skip))) (.seq (oR [oA 19 1 8,oM 20 4,oC2 21 214 19 20,oM 12 21] (oR [oM 22 12,oC 23 .neq 22 0] (oD 23 (oR [oM 24 12,oM 10 24] .ret) .skip))) (.seq (oR [oA 25 1 5,oM 26 1,oA 27 8 7,oS 28 (.call .any 215 [(.t 25),(.t 26),(.t 27)]),oU 29 28] (oD 29 (oR [oJ 10 1] .ret) .skip)) (oR [oJ 10 0] .ret))))),[(.tmp 10)],5,[]⟩
theorem pU:nA Tryz.prog 194 uI:=okF Tryz.func194
def XA:qB:=⟨(oR [oQ 6 8 2,oY 8 zza,oZ 9 false] (oR [oM 16 0,oK 17 16,oF 18 0 17,oF 19 0 18,oLr 20 0 1 19,oM 21 1,oI 22 10 20 21,oS 23 (.load .imm true 10 (.t 22)),oM 24 0,oK 25 24,oF 26 1 25,oF 27 0 26,oLr 28 0 1 27,oM 29 3,oI 30 10 28 29,oS 31 (.load .imm true 10 (.t 30)),oY 10 zze,oY 11 zze,oN (.store (.root 10) true 10 (.t 10) (.t 23)),oN (.store (.root 11) true 10 (.t 11) (.t 31))] (.seq (oR [oF 32 0 10,oL 33 32,oF 34 0 11,oL 35 34,oB 36 .neq 33 35] (oD 36 (oR [oM 37 0,oS 38 (.callr .any 216 [(.t 37)]),oX 39 38 0,oX 40 38 1,oV 8 8 39,oM 9 40] .ret) .skip)) (oR [oF 41 0 6,oL 42 41,oF 43 1 6,oL 44 43,oF 45 2 6,oL 46 45,oF 47 3 6,oL 48 47,oF 49 4 6,oL 50 49,oS 51 (.build zza [(0,(1,(.t 42))),(1,(1,(.t 44))),(2,(1,(.t 46))),(3,(1,(.t 48))),(4,(1,(.t 50)))]),oY 12 zza,oV 8 12 51] (oR [oZ 13 true] (.seq (oR [oF 52 0 10,oL 53 52] (.block 0 (oR [oC 55 .eql 53 2,oM 54 55] (oD 54 (.reg [oF 56 2 6,oL 57 56,oF 58 2 11,oL 59 58,oB 60 .geq 57 59,oM 61 60,oFg 62 2 6 61 true,oP 63 62 61 true,oFg 64 3 11 61 true,oP 65 64 61 true,oBg 66 .leq 63 65 61 true,oPa 67 61 66,oM 13 67]) (oR [oC 69 .eql 53 3,oM 68 69] (oD 68 (.reg [oF 70 3 6,oL 71 70,oS 72 (.len true (.t 71)),oF 73 4 11,oL 74 73,oB 75 .leq 72 74,oM 13 75]) (oR [oC 77 .eql 53 4,oM 76 77] (oD 76 (oR [oA 79 10 11,oF 80 4 6,oL 81 80,oC2 82 154 79 81,oM 78 82,oX 83 78 0,oX 84 78 1,oM 14 83,oM 15 84] (.reg [oM 85 15,oM 86 85,oFg 87 9 11 86 false,oP 88 87 86 false,oPo 89 86 88,oM 13 89])) (.seq (oR [oC 91 .eql 53 7,oM 90 91] (oD 90 .skip (.reg [oC 92 .eql 53 8,oM 90 92]))) (oD 90 (.reg [oF 93 6 6,oL 94 93,oH 95 94,oF 96 4 11,oL 97 96,oB 98 .leq 95 97,oM 13 98]) .skip)))))))))) (.seq (oR [oM 99 13,oU 100 99] (oD 100 (oR [oM 101 0,oS 102 (.callr .any 216 [(.t 101)]),oX 103 102 0,oX 104 102 1,oV 8 8 103,oM 9 104] .ret) .skip)) (.seq (oR [oF 105 0 10,oL 106 105] (.block 1 (oR [oC 108 .eql 106 5,oM 107 108] (oD 107 (oR [oM 109 0,oA 110 10 10,oA 111 8 6,oA 112 10 11,oS 113 (.callr .any 217 [(.t 109),(.t 110),(.t 111),(.t 112)]),oX 114 113 0,oX 115 113 1,oV 8 8 114,oM 9 115] .ret) (oR [oC 117 .eql 106 6,oM 116 117] (oD 116 (oR [oM 118 0,oA 119 10 10,oA 120 8 6,oA 121 10 11,oS 122 (.callr .any 218 [(.t 118),(.t 119),(.t 120),(.t 121)]),oX 123 122 0,oX 124 122 1,oV 8 8 123,oM 9 124] .ret) (oR [oC 126 .eql 106 8,oM 125 126] (oD 125 (oR [oM 128 0,oF 129 7 10,oL 130 129,oF 131 5 6,oL 132 131,oF 133 7 11,oL 134 133,oS 135 (.callr .any 219 [(.t 128),(.t 130),(.t 132),(.t 134)]),oM 127 135,oX 136 127 0,oX 137 127 1,oF 138 5 12,oW 138 136,oM 13 137] (oR [oM 139 13,oU 140 139] (oD 140 (oR [oS 141 (.build zza []),oV 8 8 141,oZ 9 false] .ret) .skip))) .skip)))))))) (.seq (oR [oM 143 0,oF 144 8 10,oL 145 144,oF 146 6 6,oL 147 146,oF 148 8 11,oL 149 148,oS 150 (.callr .any 219 [(.t 143),(.t 145),(.t 147),(.t 149)]),oM 142 150,oX 151 142 0,oX 152 142 1,oF 153 6 12,oW 153 151,oM 13 152] (oR [oM 154 13,oU 155 154] (oD 155 (oR [oS 156 (.build zza []),oV 8 8 156,oZ 9 false] .ret) .skip))) (oR [oA 157 8 12,oV 8 8 157,oZ 9 true] .ret)))))))))),[(.cell 8 true 8),(.tmp 9)],4,[3000000,77,205,227,245,271,301]⟩
theorem bP:nA Tryz.prog 195 XA:=okF Tryz.func195
def XB:C:=oR [oB 14 .lss 13 12] (.seq (oD 14 .skip (.exit 0)) (.seq (.block 1 (oR [oM 15 13,oM 5 15] (oR [oM 16 0,oM 17 5,oI 18 2 16 17,oA 19 2 18,oM 20 1,oM 21 5,oI 22 2 20 21,oA 23 2 22,oS 24 (.eqa true [0,1] (.t 19) (.t 23))] (oD 24 (oR [oZ 4 false] .ret) .skip)))) (.reg [oC 25 .add 13 1,oM 13 25])))
def gD:qB:=⟨(oR [oZ 4 false] (.seq (oR [oM 6 0,oH 7 6,oM 8 1,oH 9 8,oB 10 .neq 7 9] (oD 10 (oR [oZ 4 false] .ret) .skip)) (.seq (oR [oM 11 0,oH 12 11,oJ 13 0] (.block 0 (.loop XB))) (oR [oZ 4 true] .ret)))),[(.tmp 4)],2,[]⟩
theorem UN:nA Tryz.prog 196 gD:=okF Tryz.func196
def PB:C:=oR [oB 18 .lss 17 16] (.seq (oD 18 .skip (.exit 0)) (.seq (.block 1 (oR [oM 19 17,oI 20 8 15 17,oA 21 8 20,oY 8 zza,oM 7 19,oV 8 8 21] (oR [oM 22 1,oM 23 7,oI 24 8 22 23,oA 25 8 24,oY 9 zza,oV 8 9 25] (oR [oM 26 2,oA 27 8 8,oA 28 8 9,oS 29 (.callv .any (.t 26) [(.t 27),(.t 28)]),oU 30 29] (oD 30 (oR [oZ 6 false] .ret) .skip))))) (.reg [oC 31 .add 17 1,oM 17 31])))
def qC:qB:=⟨(oR [oZ 6 false] (.seq (oR [oM 10 0,oH 11 10,oM 12 1,oH 13 12,oB 14 .neq 11 13] (oD 14 (oR [oZ 6 false] .ret) .skip)) (.seq (oR [oM 15 0,oH 16 15,oJ 17 0] (.block 0 (.loop PB))) (oR [oZ 6 true] .ret)))),[(.tmp 6)],3,[]⟩
theorem XK:nA Tryz.prog 197 qC:=okF Tryz.func197
def fD:C:=oR [oB 41 .lss 40 39] (.seq (oD 41 .skip (.exit 2)) (.seq (.block 3 (oR [oI 42 1 38 40,oL 43 42,oM 7 43] (oR [oM 44 7,oC 45 .lss 44 0,oM 46 45,oMg 47 7 46 false,oFg 48 0 1 46 false,oP 49 48 46 false,oHg 50 49 46 false,oBg 51 .geq 47 50 46 false,oPo 52 46 51] (oD 52 (oR [oJ 2 4] .ret) .skip)))) (.reg [oC 53 .add 40 1,oM 40 53])))
def TB:C:=oR [oB 17 .lss 16 15] (.seq (oD 17 .skip (.exit 0)) (.seq (.block 1 (oR [oI 18 10 14 16,oA 19 10 18,oY 5 zze,oV 10 5 19] (.seq (oR [oA 20 10 5,oC1 21 221 20,oU 22 21,oM 23 22,oFg 24 1 5 23 false,oP 25 24 23 false,oG 26 (.bin .neq false (.t 25) (.c (.str (ByteArray.mk #[])))) 23 false,oMg 27 26 23 false,oMg 28 3 27 true,oFg 29 1 5 27 true,oP 30 29 27 true,oG 31 (.mget false .none (.bool false) (.t 28) (.t 30)) 27 true,oPb 32 27 31 23 false,oPo 33 23 32] (oD 33 (oR [oJ 2 1] .ret) .skip)) (oR [oM 34 3,oF 35 1 5,oL 36 35,oN (.mset .none (.t 34) (.t 36) (.c (.bool true)))] (.seq (oR [oA 37 10 5,oC1 38 222 37,oH 39 38,oJ 40 0] (.block 2 (.loop fD))) (oR [oF 54 0 5,oL 55 54,oC 56 .eql 55 8,oM 57 56,oFg 58 0 1 57 true,oP 59 58 57 true,oFg 60 7 5 57 true,oP 61 60 57 true,oIg 62 10 59 61 57 true,oFg 63 0 62 57 true,oP 64 63 57 true,oCi 65 .lss 64 1 57 true,oMg 66 65 57 true,oFg 67 0 1 66 false,oP 68 67 66 false,oFg 69 7 5 66 false,oP 70 69 66 false,oIg 71 10 68 70 66 false,oFg 72 0 71 66 false,oP 73 72 66 false,oCi 74 .gtr 73 4 66 false,oG 75 (.pick (.t 66) (.c (.bool true)) (.t 74)) 57 true,oPa 76 57 75] (oD 76 (oR [oJ 2 1] .ret) .skip))))))) (.reg [oC 77 .add 16 1,oM 16 77])))
def CG:qB:=⟨(oR [oQ 1 1 0,oJ 2 0] (.seq (oR [oF 8 0 1,oL 9 8,oH 10 9,oC 11 .gtr 10 32] (oD 11 (oR [oJ 2 3] .ret) .skip)) (oR [oS 12 (.mkm),oM 3 12] (.seq (oR [oF 13 0 1,oL 14 13,oH 15 14,oJ 16 0] (.block 0 (.loop TB))) (oR [oJ 2 0] .ret))))),[(.tmp 2)],1,[]⟩
theorem FV:nA Tryz.prog 203 CG:=okF Tryz.func203
def OC:C:=oR [oB 27 .lss 26 25] (.seq (oD 27 .skip (.exit 2)) (.seq (.block 3 (oR [oI 28 13 24 26,oA 29 13 28,oY 9 zzh,oV 13 9 29] (oR [oF 30 4 9,oL 31 30,oM 32 31,oLg 33 1 1 32 true,oFg 34 2 9 32 true,oP 35 34 32 true,oFg 36 5 9 32 true,oLg 37 8 36 32 true,oG 38 (.call .any 215 [(.t 33),(.t 35),(.t 37)]) 32 true,oUg 39 38 32 true,oPa 40 32 39] (oD 40 (oR [oM 41 6,oF 42 0 9,oL 43 42,oM 2 41,oM 3 43,oJ 4 1] .ret) .skip)))) (.reg [oC 44 .add 26 1,oM 26 44])))
def RH:C:=oR [oB 19 .lss 18 17] (.seq (oD 19 .skip (.exit 0)) (.seq (.block 1 (oR [oM 20 18,oI 21 10 16 18,oA 22 10 21,oY 7 zze,oM 6 20,oV 10 7 22] (oR [oF 23 6 7,oL 24 23,oH 25 24,oJ 26 0] (.block 2 (.loop OC))))) (.reg [oC 45 .add 18 1,oM 18 45])))
def TF:qB:=⟨(oR [oQ 1 1 0,oJ 2 0,oJ 3 0,oJ 4 0] (.seq (oR [oA 10 1 1,oC1 11 203 10,oM 5 11] (oR [oM 12 5,oC 13 .neq 12 0] (oD 13 (oR [oM 14 5,oJ 2 0,oJ 3 0,oM 4 14] .ret) .skip))) (.seq (oR [oF 15 0 1,oL 16 15,oH 17 16,oJ 18 0] (.block 0 (.loop RH))) (oR [oJ 2 0,oJ 3 0,oJ 4 0] .ret)))),[(.tmp 2),(.tmp 3),(.tmp 4)],1,[]⟩
theorem NS:nA Tryz.prog 204 TF:=okF Tryz.func204
def QI:C:=oR [oB 55 .lss 54 53] (.seq (oD 55 .skip (.exit 3)) (.seq (.block 4 (oR [oI 56 13 52 54,oA 57 13 56,oY 10 zzh,oV 13 10 57] (.reg [oM 58 8,oM 59 1,oF 60 2 10,oL 61 60,oI 62 1 59 61,oL 63 62,oB 64 .add 58 63,oM 8 64]))) (.reg [oC 65 .add 54 1,oM 54 65])))
def WI:C:=oR [oB 36 .lss 35 34] (.seq (oD 36 .skip (.exit 1)) (.seq (.block 2 (oR [oI 37 13 33 35,oA 38 13 37,oY 7 zzh,oV 13 7 38] (.reg [oM 39 5,oM 40 1,oF 41 2 7,oL 42 41,oI 43 1 40 42,oL 44 43,oB 45 .mul 39 44,oS 46 (.mm false (.c (.int .i64 2)) (.t 45)),oM 5 46]))) (.reg [oC 47 .add 35 1,oM 35 47])))
def QA:qB:=⟨(oR [oQ 2 10 0,oJ 4 0] (.seq (oR [oF 11 0 2,oL 12 11] (.block 0 (oR [oC 14 .eql 12 2,oM 13 14] (oD 13 (oR [oF 15 2 2,oL 16 15,oF 17 3 2,oL 18 17,oB 19 .eql 16 18] (oD 19 (oR [oJ 4 1] .ret) .skip)) (oR [oC 21 .eql 12 3,oM 20 21] (oD 20 (oR [oF 22 4 2,oL 23 22,oC 24 .eql 23 0] (oD 24 (oR [oJ 4 1] .ret) .skip)) (oR [oC 26 .eql 12 4,oM 25 26] (oD 25 (oR [oF 27 5 2,oL 28 27,oH 29 28,oM 4 29] .ret) (oR [oC 31 .eql 12 5,oM 30 31] (oD 30 (oR [oJ 5 1] (.seq (oR [oF 32 6 2,oL 33 32,oH 34 33,oJ 35 0] (.block 1 (.loop WI))) (oR [oM 48 5,oM 4 48] .ret))) (oR [oC 50 .eql 12 6,oM 49 50] (oD 49 (oR [oJ 8 0] (.seq (oR [oF 51 6 2,oL 52 51,oH 53 52,oJ 54 0] (.block 3 (.loop QI))) (oR [oM 66 8,oM 4 66] .ret))) (oR [oC 68 .eql 12 7,oM 67 68] (oD 67 (oR [oF 69 4 2,oL 70 69,oC 71 .eql 70 0,oM 72 71,oMg 73 1 72 false,oFg 74 8 2 72 false,oP 75 74 72 false,oIg 76 1 73 75 72 false,oP 77 76 72 false,oCi 78 .eql 77 0 72 false,oPo 79 72 78] (oD 79 (oR [oJ 4 1] .ret) .skip)) (oR [oC 81 .eql 12 8,oM 80 81] (oD 80 (oR [oF 82 4 2,oL 83 82,oC 84 .eql 83 0,oM 85 84,oMg 86 1 85 false,oFg 87 8 2 85 false,oP 88 87 85 false,oIg 89 1 86 88 85 false,oP 90 89 85 false,oCi 91 .eql 90 0 85 false,oPo 92 85 91,oM 93 92,oMg 94 1 93 false,oFg 95 7 2 93 false,oP 96 95 93 false,oIg 97 1 94 96 93 false,oP 98 97 93 false,oCi 99 .eql 98 0 93 false,oPo 100 93 99] (oD 100 (oR [oJ 4 1] .ret) .skip)) (oR [oC 102 .eql 12 9,oM 101 102] (oD 101 (oR [oM 103 1,oF 104 8 2,oL 105 104,oI 106 1 103 105,oL 107 106,oS 108 (.bin .add false (.c (.int .i64 1)) (.t 107)),oM 4 108] .ret) .skip)))))))))))))))))) (oR [oJ 4 2] .ret))),[(.tmp 4)],2,[]⟩
theorem tU:nA Tryz.prog 205 QA:=okF Tryz.func205
def IC:C:=.seq (oR [oM 27 8,oM 28 7,oH 29 28,oB 30 .lss 27 29] (oD 30 .skip (.exit 2))) (.seq (.block 3 (oR [oM 33 7,oM 34 8,oI 35 13 33 34,oF 36 4 35,oL 37 36,oM 38 37,oLg 39 1 1 38 true,oMg 40 7 38 true,oMg 41 8 38 true,oIg 42 13 40 41 38 true,oFg 43 2 42 38 true,oP 44 43 38 true,oMg 45 7 38 true,oMg 46 8 38 true,oIg 47 13 45 46 38 true,oFg 48 5 47 38 true,oLg 49 8 48 38 true,oG 50 (.call .any 121 [(.t 39),(.t 44),(.t 49)]) 38 true,oUg 51 50 38 true,oPa 52 38 51] (oD 52 (oR [oM 53 6,oM 54 7,oM 55 8,oI 56 13 54 55,oF 57 0 56,oL 58 57,oM 2 53,oM 3 58,oJ 4 1] .ret) .skip))) (.reg [oM 31 8,oC 32 .add 31 1,oM 8 32]))
def EH:C:=.seq (oR [oM 14 6,oF 15 0 1,oL 16 15,oH 17 16,oB 18 .lss 14 17] (oD 18 .skip (.exit 0))) (.seq (.block 1 (oR [oF 21 0 1,oL 22 21,oM 23 6,oI 24 10 22 23,oF 25 6 24,oL 26 25,oM 7 26] (oR [oJ 8 0] (.block 2 (.loop IC))))) (.reg [oM 19 6,oC 20 .add 19 1,oM 6 20]))
def WF:qB:=⟨(oR [oQ 1 1 0,oJ 2 0,oJ 3 0,oJ 4 0] (.seq (oR [oA 9 1 1,oC1 10 150 9,oM 5 10] (oR [oM 11 5,oC 12 .neq 11 0] (oD 12 (oR [oM 13 5,oJ 2 0,oJ 3 0,oM 4 13] .ret) .skip))) (.seq (oR [oJ 6 0] (.block 0 (.loop EH))) (oR [oJ 2 0,oJ 3 0,oJ 4 0] .ret)))),[(.tmp 2),(.tmp 3),(.tmp 4)],1,[]⟩
theorem JS:nA Tryz.prog 206 WF:=okF Tryz.func206
def wK:C:=.seq (oR [oM 53 8,oF 54 6 2,oL 55 54,oH 56 55,oB 57 .lss 53 56] (oD 57 .skip (.exit 3))) (.seq (.block 4 (.reg [oM 60 7,oM 61 1,oF 62 6 2,oL 63 62,oM 64 8,oI 65 13 63 64,oF 66 2 65,oL 67 66,oI 68 1 61 67,oL 69 68,oB 70 .add 60 69,oS 71 (.mm false (.c (.int .i64 2)) (.t 70)),oM 7 71])) (.reg [oM 58 8,oC 59 .add 58 1,oM 8 59]))
def rK:C:=.seq (oR [oM 31 6,oF 32 6 2,oL 33 32,oH 34 33,oB 35 .lss 31 34] (oD 35 .skip (.exit 1))) (.seq (.block 2 (.reg [oM 38 5,oM 39 1,oF 40 6 2,oL 41 40,oM 42 6,oI 43 13 41 42,oF 44 2 43,oL 45 44,oI 46 1 39 45,oL 47 46,oB 48 .mul 38 47,oS 49 (.mm false (.c (.int .i64 2)) (.t 48)),oM 5 49])) (.reg [oM 36 6,oC 37 .add 36 1,oM 6 37]))
def FA:qB:=⟨(oR [oQ 2 10 0,oJ 4 0] (.seq (oR [oF 9 0 2,oL 10 9] (.block 0 (oR [oC 12 .eql 10 2,oM 11 12] (oD 11 (oR [oF 13 2 2,oL 14 13,oF 15 3 2,oL 16 15,oB 17 .eql 14 16] (oD 17 (oR [oJ 4 1] .ret) .skip)) (oR [oC 19 .eql 10 3,oM 18 19] (oD 18 (oR [oF 20 4 2,oL 21 20,oC 22 .eql 21 0] (oD 22 (oR [oJ 4 1] .ret) .skip)) (oR [oC 24 .eql 10 4,oM 23 24] (oD 23 (oR [oF 25 5 2,oL 26 25,oH 27 26,oS 28 (.mm false (.c (.int .i64 2)) (.t 27)),oM 4 28] .ret) (oR [oC 30 .eql 10 5,oM 29 30] (oD 29 (oR [oJ 5 1] (.seq (oR [oJ 6 0] (.block 1 (.loop rK))) (oR [oM 50 5,oM 4 50] .ret))) (oR [oC 52 .eql 10 6,oM 51 52] (oD 51 (oR [oJ 7 0] (.seq (oR [oJ 8 0] (.block 3 (.loop wK))) (oR [oM 72 7,oM 4 72] .ret))) (.seq (oR [oC 74 .eql 10 7,oM 73 74] (oD 73 .skip (.reg [oC 75 .eql 10 8,oM 73 75]))) (oD 73 (oR [oF 76 4 2,oL 77 76,oC 78 .eql 77 0,oM 79 78,oMg 80 1 79 false,oFg 81 8 2 79 false,oP 82 81 79 false,oIg 83 1 80 82 79 false,oP 84 83 79 false,oCi 85 .eql 84 0 79 false,oPo 86 79 85] (oD 86 (oR [oJ 4 1] .ret) .skip)) (oR [oC 88 .eql 10 9,oM 87 88] (oD 87 (oR [oM 89 1,oF 90 8 2,oL 91 90,oI 92 1 89 91,oL 93 92,oS 94 (.bin .add false (.c (.int .i64 1)) (.t 93)),oS 95 (.mm false (.c (.int .i64 2)) (.t 94)),oM 4 95] .ret) .skip)))))))))))))))) (oR [oJ 4 2] .ret))),[(.tmp 4)],2,[]⟩
theorem SX:nA Tryz.prog 207 FA:=okF Tryz.func207
def dE:C:=.seq (oR [oM 97 6,oF 98 6 2,oL 99 98,oH 100 99,oB 101 .lss 97 100] (oD 101 .skip (.exit 2))) (.seq (.block 3 (oR [oF 104 6 2,oL 105 104,oM 106 6,oI 107 13 105 106,oA 108 13 107,oF 109 6 3,oL 110 109,oM 111 6,oI 112 13 110 111,oA 113 13 112,oC2 114 223 108 113,oU 115 114] (oD 115 (oR [oZ 4 false] .ret) .skip))) (.reg [oM 102 6,oC 103 .add 102 1,oM 6 103]))
def zD:C:=.seq (oR [oM 79 5,oF 80 5 2,oL 81 80,oH 82 81,oB 83 .lss 79 82] (oD 83 .skip (.exit 0))) (.seq (.block 1 (oR [oF 86 5 2,oL 87 86,oM 88 5,oI 89 2 87 88,oA 90 2 89,oF 91 5 3,oL 92 91,oM 93 5,oI 94 2 92 93,oA 95 2 94,oS 96 (.eqa true [0,1] (.t 90) (.t 95))] (oD 96 (oR [oZ 4 false] .ret) .skip))) (.reg [oM 84 5,oC 85 .add 84 1,oM 5 85]))
def sB:qB:=⟨(oR [oQ 2 10 0,oQ 3 10 1,oZ 4 false] (.seq (oR [oF 7 0 2,oL 8 7,oF 9 0 3,oL 10 9,oB 11 .neq 8 10,oM 12 11,oFg 13 1 2 12 false,oP 14 13 12 false,oFg 15 1 3 12 false,oP 16 15 12 false,oBg 17 .neq 14 16 12 false,oPo 18 12 17,oM 19 18,oFg 20 2 2 19 false,oP 21 20 19 false,oFg 22 2 3 19 false,oP 23 22 19 false,oBg 24 .neq 21 23 19 false,oPo 25 19 24,oM 26 25,oFg 27 3 2 26 false,oP 28 27 26 false,oFg 29 3 3 26 false,oP 30 29 26 false,oBg 31 .neq 28 30 26 false,oPo 32 26 31,oM 33 32,oFg 34 4 2 33 false,oP 35 34 33 false,oFg 36 4 3 33 false,oP 37 36 33 false,oBg 38 .neq 35 37 33 false,oPo 39 33 38,oM 40 39,oFg 41 7 2 40 false,oP 42 41 40 false,oFg 43 7 3 40 false,oP 44 43 40 false,oBg 45 .neq 42 44 40 false,oPo 46 40 45,oM 47 46,oFg 48 8 2 47 false,oP 49 48 47 false,oFg 50 8 3 47 false,oP 51 50 47 false,oBg 52 .neq 49 51 47 false,oPo 53 47 52,oM 54 53,oFg 55 9 2 54 false,oP 56 55 54 false,oFg 57 9 3 54 false,oP 58 57 54 false,oG 59 (.bin .neq true (.t 56) (.t 58)) 54 false,oPo 60 54 59,oM 61 60,oFg 62 5 2 61 false,oP 63 62 61 false,oHg 64 63 61 false,oFg 65 5 3 61 false,oP 66 65 61 false,oHg 67 66 61 false,oBg 68 .neq 64 67 61 false,oPo 69 61 68,oM 70 69,oFg 71 6 2 70 false,oP 72 71 70 false,oHg 73 72 70 false,oFg 74 6 3 70 false,oP 75 74 70 false,oHg 76 75 70 false,oBg 77 .neq 73 76 70 false,oPo 78 70 77] (oD 78 (oR [oZ 4 false] .ret) .skip)) (.seq (oR [oJ 5 0] (.block 0 (.loop zD))) (.seq (oR [oJ 6 0] (.block 2 (.loop dE))) (oR [oZ 4 true] .ret))))),[(.tmp 4)],2,[]⟩
theorem HS:nA Tryz.prog 208 sB:=okF Tryz.func208
def SH:qB:=⟨(oR [oQ 1 10 0,oY 2 zze] (.seq (oR [oF 3 0 1,oL 4 3] (.block 0 (oR [oC 6 .eql 4 1,oM 5 6] (oD 5 (oR [oF 7 0 1,oL 8 7,oS 9 (.build zze [(0,(1,(.t 8)))]),oV 10 2 9] .ret) (oR [oC 11 .eql 4 2,oM 10 11] (oD 10 (oR [oF 12 0 1,oL 13 12,oF 14 2 1,oL 15 14,oF 16 3 1,oL 17 16,oS 18 (.build zze [(0,(1,(.t 13))),(2,(1,(.t 15))),(3,(1,(.t 17)))]),oV 10 2 18] .ret) (oR [oC 20 .eql 4 3,oM 19 20] (oD 19 (oR [oF 21 0 1,oL 22 21,oF 23 4 1,oL 24 23,oS 25 (.build zze [(0,(1,(.t 22))),(4,(1,(.t 24)))]),oV 10 2 25] .ret) (oR [oC 27 .eql 4 4,oM 26 27] (oD 26 (oR [oF 28 0 1,oL 29 28,oF 30 1 1,oL 31 30,oF 32 5 1,oL 33 32,oF 34 9 1,oL 35 34,oS 36 (.build zze [(0,(1,(.t 29))),(1,(1,(.t 31))),(5,(1,(.t 33))),(9,(1,(.t 35)))]),oV 10 2 36] .ret) (oR [oC 38 .eql 4 5,oM 37 38] (oD 37 (oR [oF 39 0 1,oL 40 39,oF 41 1 1,oL 42 41,oF 43 6 1,oL 44 43,oS 45 (.build zze [(0,(1,(.t 40))),(1,(1,(.t 42))),(6,(1,(.t 44)))]),oV 10 2 45] .ret) (oR [oC 47 .eql 4 6,oM 46 47] (oD 46 (oR [oF 48 0 1,oL 49 48,oF 50 1 1,oL 51 50,oF 52 6 1,oL 53 52,oF 54 9 1,oL 55 54,oS 56 (.build zze [(0,(1,(.t 49))),(1,(1,(.t 51))),(6,(1,(.t 53))),(9,(1,(.t 55)))]),oV 10 2 56] .ret) (oR [oC 58 .eql 4 7,oM 57 58] (oD 57 (oR [oF 59 0 1,oL 60 59,oF 61 4 1,oL 62 61,oF 63 8 1,oL 64 63,oS 65 (.build zze [(0,(1,(.t 60))),(4,(1,(.t 62))),(8,(1,(.t 64)))]),oV 10 2 65] .ret) (oR [oC 67 .eql 4 8,oM 66 67] (oD 66 (oR [oF 68 0 1,oL 69 68,oF 70 4 1,oL 71 70,oF 72 7 1,oL 73 72,oF 74 8 1,oL 75 74,oS 76 (.build zze [(0,(1,(.t 69))),(4,(1,(.t 71))),(7,(1,(.t 73))),(8,(1,(.t 75)))]),oV 10 2 76] .ret) .skip)))))))))))))))))) (oR [oF 77 0 1,oL 78 77,oF 79 8 1,oL 80 79,oS 81 (.build zze [(0,(1,(.t 78))),(8,(1,(.t 80)))]),oV 10 2 81] .ret))),[(.cell 2 true 10)],1,[]⟩
theorem EX:nA Tryz.prog 209 SH:=okF Tryz.func209
def qE:C:=.seq (oR [oM 17 3,oM 18 0,oS 19 (.len true (.t 18)),oB 20 .lss 17 19] (oD 20 .skip (.exit 0))) (.seq (.block 1 (oR [oM 23 0,oM 24 3,oS 25 (.index (.t 23) (.t 24)),oC1 26 224 25,oU 27 26,oM 28 27,oMg 29 0 28 true,oMg 30 3 28 true,oG 31 (.index (.t 29) (.t 30)) 28 true,oG 32 (.call .any 225 [(.t 31)]) 28 true,oUg 33 32 28 true,oPa 34 28 33] (oD 34 (oR [oZ 2 false] .ret) .skip))) (.reg [oM 21 3,oC 22 .add 21 1,oM 3 22]))
def nE:qB:=⟨(oR [oZ 2 false] (.seq (oR [oM 4 0,oS 5 (.bin .eql false (.t 4) (.c (.str (ByteArray.mk #[])))),oM 6 5,oMg 7 0 6 false,oG 8 (.len true (.t 7)) 6 false,oCi 9 .gtr 8 24 6 false,oPo 10 6 9,oM 11 10,oMg 12 0 11 false,oG 13 (.index (.t 12) (.c (.int .i64 0))) 11 false,oG 14 (.call .any 224 [(.t 13)]) 11 false,oUg 15 14 11 false,oPo 16 11 15] (oD 16 (oR [oZ 2 false] .ret) .skip)) (.seq (oR [oJ 3 0] (.block 0 (.loop qE))) (oR [oZ 2 true] .ret)))),[(.tmp 2)],1,[]⟩
theorem mV:nA Tryz.prog 210 nE:=okF Tryz.func210
def JF:C:=.seq (oR [oM 29 5,oM 30 4,oB 31 .lss 29 30] (oD 31 .skip (.exit 2))) (.seq (.block 3 (oR [oM 34 0,oM 35 5,oI 36 2 34 35,oF 37 1 36,oL 38 37,oM 39 0,oM 40 4,oI 41 2 39 40,oF 42 1 41,oL 43 42,oB 44 .eql 38 43] (oD 44 (oR [oZ 2 false] .ret) .skip))) (.reg [oM 32 5,oC 33 .add 32 1,oM 5 33]))
def WE:C:=.seq (oR [oM 6 4,oM 7 0,oH 8 7,oB 9 .lss 6 8] (oD 9 .skip (.exit 0))) (.seq (.block 1 (.seq (oR [oM 12 3,oM 13 0,oM 14 4,oI 15 2 13 14,oF 16 0 15,oL 17 16,oC2 18 226 12 17,oU 19 18,oM 20 19,oMg 21 0 20 false,oMg 22 4 20 false,oIg 23 2 21 22 20 false,oFg 24 1 23 20 false,oP 25 24 20 false,oG 26 (.call .any 210 [(.t 25)]) 20 false,oUg 27 26 20 false,oPo 28 20 27] (oD 28 (oR [oZ 2 false] .ret) .skip)) (.seq (oR [oJ 5 0] (.block 2 (.loop JF))) (.reg [oM 45 0,oM 46 4,oI 47 2 45 46,oF 48 0 47,oL 49 48,oM 3 49])))) (.reg [oM 10 4,oC 11 .add 10 1,oM 4 11]))
def aI:qB:=⟨(oR [oZ 2 false] (oR [oJ 3 0] (.seq (oR [oJ 4 0] (.block 0 (.loop WE))) (oR [oM 50 0,oH 51 50,oC 52 .geq 51 1,oM 53 52,oMg 54 0 53 true,oHg 55 54 53 true,oCi 56 .leq 55 16 53 true,oPa 57 53 56,oM 2 57] .ret)))),[(.tmp 2)],1,[]⟩
theorem gU:nA Tryz.prog 211 aI:=okF Tryz.func211
def QE:C:=.seq (oR [oM 60 8,oM 61 6,oB 62 .lss 60 61] (oD 62 .skip (.exit 2))) (.seq (.block 3 (oR [oM 65 0,oM 66 8,oI 67 13 65 66,oF 68 1 67,oL 69 68,oF 70 1 7,oL 71 70,oB 72 .eql 69 71] (oD 72 (oR [oZ 4 false] .ret) .skip))) (.reg [oM 63 8,oC 64 .add 63 1,oM 8 64]))
def SD:C:=.seq (oR [oM 9 6,oM 10 0,oH 11 10,oB 12 .lss 9 11] (oD 12 .skip (.exit 0))) (.seq (.block 1 (oR [oM 15 0,oM 16 6,oI 17 13 15 16,oA 18 13 17,oY 7 zzh,oV 13 7 18] (.seq (oR [oM 19 5,oF 20 0 7,oL 21 20,oC2 22 226 19 21,oU 23 22,oM 24 23,oFg 25 1 7 24 false,oP 26 25 24 false,oG 27 (.call .any 210 [(.t 26)]) 24 false,oUg 28 27 24 false,oPo 29 24 28,oM 30 29,oFg 31 3 7 30 false,oP 32 31 30 false,oMg 33 32 30 false,oFg 34 4 7 33 true,oP 35 34 33 true,oPb 36 33 35 30 false,oPo 37 30 36,oM 38 37,oMg 39 1 38 false,oUg 40 39 38 false,oMg 41 40 38 false,oFg 42 3 7 41 true,oP 43 42 41 true,oMg 44 43 41 true,oFg 45 4 7 44 false,oP 46 45 44 false,oG 47 (.pick (.t 44) (.c (.bool true)) (.t 46)) 41 true,oPb 48 41 47 38 false,oPo 49 38 48] (oD 49 (oR [oZ 4 false] .ret) .skip)) (.seq (oR [oF 50 4 7,oL 51 50,oU 52 51,oM 53 52,oFg 54 5 7 53 true,oLg 55 8 54 53 true,oG 56 (.build zza []) 53 true,oCg 57 189 55 56 53 true,oUg 58 57 53 true,oPa 59 53 58] (oD 59 (oR [oZ 4 false] .ret) .skip)) (.seq (oR [oJ 8 0] (.block 2 (.loop QE))) (.reg [oF 73 0 7,oL 74 73,oM 5 74])))))) (.reg [oM 13 6,oC 14 .add 13 1,oM 6 14]))
def pI:qB:=⟨(oR [oZ 4 false] (oR [oJ 5 0] (.seq (oR [oJ 6 0] (.block 0 (.loop SD))) (oR [oM 75 0,oH 76 75,oC 77 .leq 76 16,oM 78 77,oMg 79 1 78 true,oMg 80 79 78 true,oMg 81 0 80 false,oHg 82 81 80 false,oCi 83 .geq 82 1 80 false,oG 84 (.pick (.t 80) (.c (.bool true)) (.t 83)) 78 true,oPa 85 78 84,oM 4 85] .ret)))),[(.tmp 4)],2,[]⟩
theorem fU:nA Tryz.prog 212 pI:=okF Tryz.func212
def ED:C:=.seq (oR [oM 11 5,oM 12 0,oH 13 12,oB 14 .lss 11 13] (oD 14 .skip (.exit 0))) (.seq (.block 1 (oR [oM 17 0,oM 18 5,oI 19 8 17 18,oA 20 8 19,oM 21 1,oM 22 5,oI 23 8 21 22,oA 24 8 23,oC2 25 189 20 24,oU 26 25] (oD 26 (oR [oZ 4 false] .ret) .skip))) (.reg [oM 15 5,oC 16 .add 15 1,oM 5 16]))
def mE:qB:=⟨(oR [oZ 4 false] (.seq (oR [oM 6 0,oH 7 6,oM 8 1,oH 9 8,oB 10 .neq 7 9] (oD 10 (oR [oZ 4 false] .ret) .skip)) (.seq (oR [oJ 5 0] (.block 0 (.loop ED))) (oR [oZ 4 true] .ret)))),[(.tmp 4)],2,[]⟩
theorem WQ:nA Tryz.prog 213 mE:=okF Tryz.func213
def fH:qB:=⟨(oR [oQ 2 1 0,oJ 4 0] (.seq (oR [oA 6 1 2,oC1 7 203 6,oM 5 7] (oR [oM 8 5,oC 9 .neq 8 0] (oD 9 (oR [oM 10 5,oM 4 10] .ret) .skip))) (.seq (oR [oM 11 1,oC 12 .lss 11 0,oM 13 12,oMg 14 1 13 false,oFg 15 0 2 13 false,oP 16 15 13 false,oHg 17 16 13 false,oBg 18 .geq 14 17 13 false,oPo 19 13 18] (oD 19 (oR [oJ 4 4] .ret) .skip)) (oR [oJ 4 0] .ret)))),[(.tmp 4)],2,[]⟩
theorem FS:nA Tryz.prog 214 fH:=okF Tryz.func214
def TK:qB:=⟨(oR [oQ 3 1 0,oQ 5 8 2,oZ 6 false] (oR [oA 7 1 3,oM 8 1,oA 9 8 5,oS 10 (.call .any 227 [(.t 7),(.t 8),(.t 9),(.c (.bool true))]),oM 6 10] .ret)),[(.tmp 6)],3,[]⟩
theorem MX:nA Tryz.prog 215 TK:=okF Tryz.func215
def jF:qB:=⟨(oR [oY 2 zza,oZ 3 false] (oR [oM 4 0,oM 5 0,oK 6 5,oF 7 2 6,oL 8 7,oC1 9 228 8,oK 10 4,oF 11 3 10,oW 11 9] (oR [oS 12 (.build zza []),oV 8 2 12,oZ 3 false] .ret))),[(.cell 2 true 8),(.tmp 3)],1,[3000000]⟩
theorem cP:nA Tryz.prog 216 jF:=okF Tryz.func216
def SI:C:=oR [oB 18 .lss 17 16] (.seq (oD 18 .skip (.exit 0)) (.seq (.block 1 (oR [oM 19 17,oI 20 8 15 17,oA 21 8 20,oY 12 zza,oM 11 19,oV 8 12 21] (oR [oM 23 0,oM 24 11,oM 25 1,oA 26 8 12,oM 27 3,oS 28 (.callr .any 231 [(.t 23),(.t 24),(.t 25),(.t 26),(.t 27)]),oM 22 28,oX 29 22 0,oX 30 22 1,oY 13 zza,oV 8 13 29,oM 14 30] (.seq (oR [oM 31 14,oU 32 31] (oD 32 (oR [oS 8 (.mv (.c (.sl true []))),oZ 9 false] .ret) .skip)) (.reg [oM 33 10,oA 34 8 13,oS 35 (.bsl zza 1 [(0,(.t 34))]),oAp 36 40 8 120 33 35,oM 10 36]))))) (.reg [oC 37 .add 17 1,oM 17 37])))
def XE:qB:=⟨(oR [oS 8 (.mv (.c (.sl true []))),oZ 9 false] (oR [oS 10 (.mv (.c (.sl true [])))] (.seq (oR [oM 15 2,oH 16 15,oJ 17 0] (.block 0 (.loop SI))) (oR [oM 38 10,oM 8 38,oZ 9 true] .ret)))),[(.tmp 8),(.tmp 9)],4,[3000000,57]⟩
theorem LO:nA Tryz.prog 219 XE:=okF Tryz.func219
def xA:qB:=⟨(oR [oQ 1 10 0,oZ 2 false] (oR [oA 5 10 1,oY 3 zze,oV 10 3 5] (oR [oF 6 0 3,oN (.store .any false 1 (.t 6) (.c (.int .i64 0)))] (oR [oZ 4 true] (.seq (oR [oF 7 0 1,oL 8 7] (.block 0 (oR [oC 10 .eql 8 1,oM 9 10] (oD 9 .skip (oR [oC 12 .eql 8 2,oM 11 12] (oD 11 (oR [oF 13 2 1,oL 14 13,oF 15 3 1,oL 16 15,oB 17 .leq 14 16,oM 4 17] (.reg [oF 18 2 3,oN (.store .any false 1 (.t 18) (.c (.int .i64 0))),oF 19 3 3,oN (.store .any false 1 (.t 19) (.c (.int .i64 0)))])) (oR [oC 21 .eql 8 3,oM 20 21] (oD 20 (oR [oF 22 4 1,oL 23 22,oC 24 .geq 23 0,oM 25 24,oFg 26 4 1 25 true,oP 27 26 25 true,oCi 28 .leq 27 200 25 true,oPa 29 25 28,oM 4 29] (.reg [oF 30 4 3,oN (.store .any false 1 (.t 30) (.c (.int .i64 0)))])) (oR [oC 32 .eql 8 4,oM 31 32] (oD 31 (oR [oF 33 1 1,oL 34 33,oC1 35 234 34,oM 36 35,oFg 37 5 1 36 true,oP 38 37 36 true,oG 39 (.call .any 235 [(.t 38)]) 36 true,oPa 40 36 39,oM 4 40] (.reg [oF 41 1 3,oN (.store .any false 1 (.t 41) (.c (.str (ByteArray.mk #[])))),oF 42 5 3,oN (.store .any false 1 (.t 42) (.c (.sl true []))),oF 43 9 3,oN (.store .any false 1 (.t 43) (.c (.bool false)))])) (.seq (oR [oC 45 .eql 8 5,oM 44 45] (oD 44 .skip (.reg [oC 46 .eql 8 6,oM 44 46]))) (oD 44 (oR [oF 47 1 1,oL 48 47,oC1 49 234 48,oM 50 49,oLg 51 10 1 50 true,oG 52 (.call .any 236 [(.t 51)]) 50 true,oPa 53 50 52,oM 4 53] (oR [oF 54 1 3,oN (.store .any false 1 (.t 54) (.c (.str (ByteArray.mk #[])))),oF 55 6 3,oN (.store .any false 1 (.t 55) (.c (.sl true [])))] (.reg [oF 56 9 1,oL 57 56,oM 58 57,oFg 59 0 1 58 true,oP 60 59 58 true,oCi 61 .eql 60 5 58 true,oPa 62 58 61,oF 63 9 3,oW 63 62]))) (.seq (oR [oC 65 .eql 8 7,oM 64 65] (oD 64 .skip (.reg [oC 66 .eql 8 8,oM 64 66]))) (oD 64 (oR [oF 67 4 1,oL 68 67,oC 69 .geq 68 0,oM 70 69,oFg 71 4 1 70 true,oP 72 71 70 true,oCi 73 .leq 72 50 70 true,oPa 74 70 73,oM 4 74] (oR [oF 75 4 3,oN (.store .any false 1 (.t 75) (.c (.int .i64 0))),oF 76 8 3,oN (.store .any false 1 (.t 76) (.c (.int .i64 0)))] (oR [oF 77 0 1,oL 78 77,oC 79 .eql 78 8] (oD 79 (.reg [oF 80 7 3,oN (.store .any false 1 (.t 80) (.c (.int .i64 0)))]) .skip)))) (oR [oC 82 .eql 8 9,oM 81 82] (oD 81 (.reg [oF 83 8 3,oN (.store .any false 1 (.t 83) (.c (.int .i64 0)))]) (oR [oZ 2 false] .ret))))))))))))))))) (oR [oM 84 4,oM 85 84,oLg 86 10 3 85 true,oG 87 (.build zze []) 85 true,oCg 88 237 86 87 85 true,oPa 89 85 88,oM 2 89] .ret)))))),[(.tmp 2)],1,[]⟩
theorem XX:nA Tryz.prog 221 xA:=okF Tryz.func221
def EF:C:=oR [oB 10 .lss 9 8] (.seq (oD 10 .skip (.exit 0)) (.seq (.block 1 (oR [oI 11 13 7 9,oA 12 13 11,oY 5 zzh,oV 13 5 12] (.reg [oM 13 3,oF 14 2 5,oL 15 14,oS 16 (.bsl [(.int .i64 0)] 1 [(0,(.t 15))]),oAp 17 3 1 8 13 16,oM 3 17]))) (.reg [oC 18 .add 9 1,oM 9 18])))
def RK:qB:=⟨(oR [oQ 1 10 0,oS 2 (.mv (.c (.sl true [])))] (oR [oS 3 (.mv (.c (.sl true [])))] (.seq (oR [oF 6 6 1,oL 7 6,oH 8 7,oJ 9 0] (.block 0 (.loop EF))) (.seq (oR [oF 19 0 1,oL 20 19,oC 21 .eql 20 8] (oD 21 (.reg [oM 22 3,oF 23 7 1,oL 24 23,oS 25 (.bsl [(.int .i64 0)] 1 [(0,(.t 24))]),oAp 26 3 1 8 22 25,oM 3 26]) .skip)) (.seq (oR [oF 27 0 1,oL 28 27,oC 29 .geq 28 7] (oD 29 (.reg [oM 30 3,oF 31 8 1,oL 32 31,oS 33 (.bsl [(.int .i64 0)] 1 [(0,(.t 32))]),oAp 34 3 1 8 30 33,oM 3 34]) .skip)) (oR [oM 35 3,oM 2 35] .ret)))))),[(.tmp 2)],1,[]⟩
theorem BX:nA Tryz.prog 222 RK:=okF Tryz.func222
def CB:qB:=⟨(oR [oQ 2 13 0,oQ 3 13 1,oZ 4 false] (oR [oF 5 0 2,oL 6 5,oF 7 0 3,oL 8 7,oB 9 .eql 6 8,oM 10 9,oFg 11 1 2 10 true,oP 12 11 10 true,oFg 13 1 3 10 true,oP 14 13 10 true,oBg 15 .eql 12 14 10 true,oPa 16 10 15,oM 17 16,oFg 18 2 2 17 true,oP 19 18 17 true,oFg 20 2 3 17 true,oP 21 20 17 true,oBg 22 .eql 19 21 17 true,oPa 23 17 22,oM 24 23,oFg 25 3 2 24 true,oP 26 25 24 true,oFg 27 3 3 24 true,oP 28 27 24 true,oG 29 (.bin .eql true (.t 26) (.t 28)) 24 true,oPa 30 24 29,oM 31 30,oFg 32 4 2 31 true,oP 33 32 31 true,oFg 34 4 3 31 true,oP 35 34 31 true,oG 36 (.bin .eql true (.t 33) (.t 35)) 31 true,oPa 37 31 36,oM 38 37,oFg 39 5 2 38 true,oLg 40 8 39 38 true,oFg 41 5 3 38 true,oLg 42 8 41 38 true,oCg 43 189 40 42 38 true,oPa 44 38 43,oM 4 44] .ret)),[(.tmp 4)],2,[]⟩
theorem EQ:nA Tryz.prog 223 CB:=okF Tryz.func223
def BI:qB:=⟨(oR [oZ 2 false] (oR [oM 3 0,oS 4 (.bin .geq false (.t 3) (.c (.int .u8 97))),oM 5 4,oMg 6 0 5 true,oG 7 (.bin .leq false (.t 6) (.c (.int .u8 122))) 5 true,oPa 8 5 7,oM 9 8,oMg 10 0 9 false,oG 11 (.bin .geq false (.t 10) (.c (.int .u8 65))) 9 false,oMg 12 11 9 false,oMg 13 0 12 true,oG 14 (.bin .leq false (.t 13) (.c (.int .u8 90))) 12 true,oPb 15 12 14 9 false,oPo 16 9 15,oM 17 16,oMg 18 0 17 false,oG 19 (.bin .eql false (.t 18) (.c (.int .u8 95))) 17 false,oPo 20 17 19,oM 2 20] .ret)),[(.tmp 2)],1,[]⟩
theorem QV:nA Tryz.prog 224 BI:=okF Tryz.func224
def zK:qB:=⟨(oR [oZ 2 false] (oR [oM 3 0,oS 4 (.bin .geq false (.t 3) (.c (.int .u8 48))),oM 5 4,oMg 6 0 5 true,oG 7 (.bin .leq false (.t 6) (.c (.int .u8 57))) 5 true,oPa 8 5 7,oM 2 8] .ret)),[(.tmp 2)],1,[]⟩
theorem nX:nA Tryz.prog 225 zK:=okF Tryz.func225
def GN:qB:=⟨(oR [oZ 4 false] (oR [oM 5 1,oM 6 0,oB 7 .gtr 5 6,oM 8 7,oMg 9 1 8 true,oCi 10 .geq 9 1 8 true,oPa 11 8 10,oM 12 11,oMg 13 1 12 true,oCi 14 .leq 13 1000 12 true,oPa 15 12 14,oM 4 15] .ret)),[(.tmp 4)],2,[]⟩
theorem q8:nA Tryz.prog 226 GN:=okF Tryz.func226
def zI:C:=.seq (oR [oM 281 20,oF 282 5 6,oL 283 282,oH 284 283,oB 285 .lss 281 284] (oD 285 .skip (.exit 5))) (.seq (.block 6 (oR [oF 288 5 6,oL 289 288,oM 290 20,oC 291 .sub 290 1,oI 292 8 289 291,oA 293 8 292,oF 294 5 6,oL 295 294,oM 296 20,oI 297 8 295 296,oA 298 8 297,oC2 299 241 293 298,oC 300 .geq 299 0] (oD 300 (oR [oZ 8 false] .ret) .skip))) (.reg [oM 286 20,oC 287 .add 286 1,oM 20 287]))
def xI:C:=oR [oB 153 .lss 152 151] (.seq (oD 153 .skip (.exit 3)) (.seq (.block 4 (oR [oM 154 152,oI 155 13 150 152,oA 156 13 155,oY 17 zzh,oM 16 154,oV 13 17 156] (oR [oA 157 1 4,oF 158 2 17,oL 159 158,oF 160 6 6,oL 161 160,oM 162 16,oI 163 8 161 162,oA 164 8 163,oM 165 3,oC4 166 227 157 159 164 165,oU 167 166] (oD 167 (oR [oZ 8 false] .ret) .skip)))) (.reg [oC 168 .add 152 1,oM 152 168])))
def TO:C:=oR [oB 114 .lss 113 112] (.seq (oD 114 .skip (.exit 1)) (.seq (.block 2 (oR [oM 115 113,oI 116 2 111 113,oA 117 2 116,oY 13 zzc,oM 12 115,oV 2 13 117] (oR [oA 119 10 9,oF 120 0 13,oL 121 120,oC2 122 137 119 121,oM 118 122,oX 123 118 0,oX 124 118 1,oM 14 123,oM 15 124] (oR [oM 125 15,oM 126 125,oFg 127 0 13 126 false,oP 128 127 126 false,oG 129 (.call .any 239 [(.t 128)]) 126 false,oUg 130 129 126 false,oPo 131 126 130,oM 132 131,oMg 133 12 132 false,oCi 134 .gtr 133 0 132 false,oMg 135 134 132 false,oFg 136 0 13 135 true,oP 137 136 135 true,oFg 138 7 6 135 true,oP 139 138 135 true,oMg 140 12 135 true,oCi 141 .sub 140 1 135 true,oIg 142 2 139 141 135 true,oFg 143 0 142 135 true,oP 144 143 135 true,oBg 145 .leq 137 144 135 true,oPb 146 135 145 132 false,oPo 147 132 146] (oD 147 (oR [oZ 8 false] .ret) .skip))))) (.reg [oC 148 .add 113 1,oM 113 148])))
def kA:qB:=⟨(oR [oQ 4 1 0,oQ 6 8 2,oZ 8 false] (.seq (oR [oM 21 1,oC 22 .lss 21 0,oM 23 22,oMg 24 1 23 false,oFg 25 0 4 23 false,oP 26 25 23 false,oHg 27 26 23 false,oBg 28 .geq 24 27 23 false,oPo 29 23 28] (oD 29 (oR [oZ 8 false] .ret) .skip)) (oR [oF 30 0 4,oL 31 30,oM 32 1,oI 33 10 31 32,oA 34 10 33,oY 9 zze,oV 10 9 34] (.seq (oR [oF 35 0 6,oL 36 35,oF 37 0 9,oL 38 37,oB 39 .neq 36 38,oM 40 39,oLg 41 8 6 40 false,oG 42 (.call .any 238 [(.t 41)]) 40 false,oUg 43 42 40 false,oPo 44 40 43] (oD 44 (oR [oZ 8 false] .ret) .skip)) (.seq (oR [oF 45 0 9,oL 46 45] (.block 0 (oR [oC 48 .eql 46 2,oM 47 48] (oD 47 (oR [oF 49 2 6,oL 50 49,oF 51 2 9,oL 52 51,oB 53 .geq 50 52,oM 54 53,oFg 55 2 6 54 true,oP 56 55 54 true,oFg 57 3 9 54 true,oP 58 57 54 true,oBg 59 .leq 56 58 54 true,oPa 60 54 59,oM 8 60] .ret) (oR [oC 62 .eql 46 3,oM 61 62] (oD 61 (oR [oF 63 3 6,oL 64 63,oS 65 (.len true (.t 64)),oF 66 4 9,oL 67 66,oB 68 .leq 65 67,oM 8 68] .ret) (oR [oC 70 .eql 46 4,oM 69 70] (oD 69 (oR [oA 72 10 9,oF 73 4 6,oL 74 73,oC2 75 154 72 74,oM 71 75,oX 76 71 0,oX 77 71 1,oM 10 76,oM 11 77] (oR [oM 78 11,oM 79 78,oFg 80 9 9 79 false,oP 81 80 79 false,oMg 82 81 79 false,oMg 83 3 82 true,oUg 84 83 82 true,oPb 85 82 84 79 false,oMg 86 85 79 false,oFg 87 4 6 86 true,oP 88 87 86 true,oG 89 (.call .any 239 [(.t 88)]) 86 true,oPb 90 86 89 79 false,oPo 91 79 90,oM 8 91] .ret)) (oR [oC 93 .eql 46 5,oM 92 93] (oD 92 (.seq (oR [oF 94 6 6,oL 95 94,oH 96 95,oF 97 6 9,oL 98 97,oH 99 98,oB 100 .neq 96 99,oM 101 100,oMg 102 3 101 false,oMg 103 102 101 false,oFg 104 7 6 103 true,oP 105 104 103 true,oHg 106 105 103 true,oCi 107 .gtr 106 0 103 true,oPb 108 103 107 101 false,oPo 109 101 108] (oD 109 (oR [oZ 8 false] .ret) .skip)) (.seq (oR [oF 110 7 6,oL 111 110,oH 112 111,oJ 113 0] (.block 1 (.loop TO))) (oR [oF 149 6 9,oL 150 149,oH 151 150,oJ 152 0] (.block 3 (.loop xI))))) (oR [oC 170 .eql 46 6,oM 169 170] (oD 169 (.seq (oR [oA 172 10 9,oF 173 4 6,oL 174 173,oC2 175 137 172 174,oM 171 175,oX 176 171 0,oX 177 171 1,oM 18 176,oM 19 177] (oR [oM 178 19] (oD 178 (oR [oF 179 6 6,oL 180 179,oH 181 180,oC 182 .eql 181 1,oM 183 182,oFg 184 7 6 183 true,oP 185 184 183 true,oHg 186 185 183 true,oCi 187 .eql 186 0 183 true,oPa 188 183 187,oM 189 188,oLg 190 1 4 189 true,oFg 191 6 9 189 true,oP 192 191 189 true,oMg 193 18 189 true,oIg 194 13 192 193 189 true,oFg 195 2 194 189 true,oP 196 195 189 true,oFg 197 6 6 189 true,oP 198 197 189 true,oG 199 (.iaddr 8 (.t 198) (.c (.int .i64 0))) 189 true,oLg 200 8 199 189 true,oMg 201 3 189 true,oG 202 (.call .any 227 [(.t 190),(.t 196),(.t 200),(.t 201)]) 189 true,oPa 203 189 202,oM 8 203] .ret) .skip))) (oR [oF 204 9 9,oL 205 204,oM 206 205,oMg 207 3 206 true,oUg 208 207 206 true,oPa 209 206 208,oM 210 209,oFg 211 4 6 210 true,oP 212 211 210 true,oG 213 (.call .any 239 [(.t 212)]) 210 true,oPa 214 210 213,oM 215 214,oFg 216 6 6 215 true,oP 217 216 215 true,oHg 218 217 215 true,oCi 219 .eql 218 0 215 true,oPa 220 215 219,oM 221 220,oFg 222 7 6 221 true,oP 223 222 221 true,oHg 224 223 221 true,oCi 225 .eql 224 1 221 true,oPa 226 221 225,oM 227 226,oFg 228 7 6 227 true,oP 229 228 227 true,oG 230 (.iaddr 2 (.t 229) (.c (.int .i64 0))) 227 true,oFg 231 0 230 227 true,oP 232 231 227 true,oFg 233 4 6 227 true,oP 234 233 227 true,oBg 235 .eql 232 234 227 true,oPa 236 227 235,oM 8 236] .ret)) (oR [oC 238 .eql 46 7,oM 237 238] (oD 237 (oR [oF 239 6 6,oL 240 239,oH 241 240,oF 242 4 9,oL 243 242,oB 244 .leq 241 243,oM 245 244,oLg 246 1 4 245 true,oFg 247 8 9 245 true,oP 248 247 245 true,oFg 249 6 6 245 true,oP 250 249 245 true,oMg 251 3 245 true,oG 252 (.call .any 240 [(.t 246),(.t 248),(.t 250),(.t 251)]) 245 true,oPa 253 245 252,oM 8 253] .ret) (oR [oC 255 .eql 46 8,oM 254 255] (oD 254 (.seq (oR [oF 256 5 6,oL 257 256,oH 258 257,oF 259 4 9,oL 260 259,oB 261 .gtr 258 260,oM 262 261,oFg 263 6 6 262 false,oP 264 263 262 false,oHg 265 264 262 false,oFg 266 5 6 262 false,oP 267 266 262 false,oHg 268 267 262 false,oBg 269 .neq 265 268 262 false,oPo 270 262 269,oM 271 270,oLg 272 1 4 271 false,oFg 273 7 9 271 false,oP 274 273 271 false,oFg 275 5 6 271 false,oP 276 275 271 false,oMg 277 3 271 false,oG 278 (.call .any 240 [(.t 272),(.t 274),(.t 276),(.t 277)]) 271 false,oUg 279 278 271 false,oPo 280 271 279] (oD 280 (oR [oZ 8 false] .ret) .skip)) (.seq (oR [oJ 20 1] (.block 5 (.loop zI))) (oR [oA 301 1 4,oF 302 8 9,oL 303 302,oF 304 6 6,oL 305 304,oM 306 3,oC4 307 240 301 303 305 306,oM 8 307] .ret))) (oR [oC 309 .eql 46 9,oM 308 309] (oD 308 (oR [oF 310 6 6,oL 311 310,oH 312 311,oC 313 .leq 312 1,oM 314 313,oLg 315 1 4 314 true,oFg 316 8 9 314 true,oP 317 316 314 true,oFg 318 6 6 314 true,oP 319 318 314 true,oMg 320 3 314 true,oG 321 (.call .any 240 [(.t 315),(.t 317),(.t 319),(.t 320)]) 314 true,oPa 322 314 321,oM 8 322] .ret) .skip)))))))))))))))))) (oR [oZ 8 true] .ret)))))),[(.tmp 8)],4,[]⟩
theorem eZ:nA Tryz.prog 227 kA:=okF Tryz.func227
def CF:qB:=⟨(oR [oS 2 (.mv (.c (.sl true [])))] (.seq (oR [oM 3 0,oS 4 (.eqn false false (.t 3) (.c (.sl true [])))] (oD 4 (oR [oS 2 (.mv (.c (.sl true [])))] .ret) .skip)) (oR [oS 5 (.bsl [(.int .i64 0)] 0 []),oM 6 0,oAp 7 3 1 8 5 6,oM 2 7] .ret))),[(.tmp 2)],1,[]⟩
theorem DQ:nA Tryz.prog 228 CF:=okF Tryz.func228
def MD:C:=oR [oB 20 .lss 19 18] (.seq (oD 20 .skip (.exit 0)) (.seq (.block 1 (oR [oM 21 19,oM 3 21] (oR [oM 22 0,oM 23 3,oS 24 (.index (.t 22) (.t 23)),oC1 25 248 24,oU 26 25,oM 27 26,oMg 28 0 27 true,oMg 29 3 27 true,oG 30 (.index (.t 28) (.t 29)) 27 true,oG 31 (.call .any 249 [(.t 30)]) 27 true,oUg 32 31 27 true,oPa 33 27 32] (oD 33 (oR [oZ 2 false] .ret) .skip)))) (.reg [oC 34 .add 19 1,oM 19 34])))
def bE:qB:=⟨(oR [oZ 2 false] (.seq (oR [oM 4 0,oS 5 (.bin .eql false (.t 4) (.c (.str (ByteArray.mk #[])))),oM 6 5,oMg 7 0 6 false,oG 8 (.len true (.t 7)) 6 false,oCi 9 .gtr 8 24 6 false,oPo 10 6 9,oM 11 10,oMg 12 0 11 false,oG 13 (.index (.t 12) (.c (.int .i64 0))) 11 false,oG 14 (.call .any 248 [(.t 13)]) 11 false,oUg 15 14 11 false,oPo 16 11 15] (oD 16 (oR [oZ 2 false] .ret) .skip)) (.seq (oR [oM 17 0,oS 18 (.len true (.t 17)),oJ 19 0] (.block 0 (.loop MD))) (oR [oZ 2 true] .ret)))),[(.tmp 2)],1,[]⟩
theorem bV:nA Tryz.prog 234 bE:=okF Tryz.func234
def lF:C:=oR [oB 10 .lss 9 8] (.seq (oD 10 .skip (.exit 0)) (.seq (.block 1 (oR [oI 11 2 7 9,oA 12 2 11,oY 6 zzc,oV 2 6 12] (.reg [oM 13 3,oF 14 0 6,oL 15 14,oS 16 (.bsl [(.int .i64 0)] 1 [(0,(.t 15))]),oAp 17 3 1 8 13 16,oM 18 4,oF 19 1 6,oL 20 19,oS 21 (.bsl [(.str (ByteArray.mk #[]))] 1 [(0,(.t 20))]),oAp 22 9 1 16 18 21,oM 3 17,oM 4 22]))) (.reg [oC 23 .add 9 1,oM 9 23])))
def lH:qB:=⟨(oR [oZ 2 false] (oR [oS 3 (.mv (.c (.sl true [])))] (oR [oS 4 (.mv (.c (.sl true [])))] (.seq (oR [oM 7 0,oH 8 7,oJ 9 0] (.block 0 (.loop lF))) (oR [oM 24 0,oH 25 24,oC 26 .gtr 25 0,oM 27 26,oMg 28 3 27 true,oMg 29 4 27 true,oCg 30 250 28 29 27 true,oPa 31 27 30,oM 2 31] .ret))))),[(.tmp 2)],1,[]⟩
theorem ZS:nA Tryz.prog 235 lH:=okF Tryz.func235
def kF:C:=oR [oB 11 .lss 10 9] (.seq (oD 11 .skip (.exit 0)) (.seq (.block 1 (oR [oI 12 13 8 10,oA 13 13 12,oY 6 zzh,oV 13 6 13] (oR [oM 14 3,oF 15 0 6,oL 16 15,oS 17 (.bsl [(.int .i64 0)] 1 [(0,(.t 16))]),oAp 18 3 1 8 14 17,oM 19 4,oF 20 1 6,oL 21 20,oS 22 (.bsl [(.str (ByteArray.mk #[]))] 1 [(0,(.t 21))]),oAp 23 9 1 16 19 22,oM 3 18,oM 4 23] (oR [oF 24 0 1,oL 25 24,oC 26 .eql 25 6,oM 27 26,oFg 28 3 6 27 true,oP 29 28 27 true,oMg 30 29 27 true,oFg 31 4 6 30 false,oP 32 31 30 false,oG 33 (.pick (.t 30) (.c (.bool true)) (.t 32)) 27 true,oPa 34 27 33,oM 35 34,oFg 36 3 6 35 false,oP 37 36 35 false,oMg 38 37 35 false,oFg 39 4 6 38 true,oP 40 39 38 true,oPb 41 38 40 35 false,oPo 42 35 41,oM 43 42,oFg 44 4 6 43 false,oP 45 44 43 false,oUg 46 45 43 false,oMg 47 46 43 false,oFg 48 5 6 47 true,oLg 49 8 48 47 true,oG 50 (.call .any 251 [(.t 49)]) 47 true,oUg 51 50 47 true,oPb 52 47 51 43 false,oPo 53 43 52] (oD 53 (oR [oZ 2 false] .ret) .skip))))) (.reg [oC 54 .add 10 1,oM 10 54])))
def kH:qB:=⟨(oR [oQ 1 10 0,oZ 2 false] (oR [oS 3 (.mv (.c (.sl true [])))] (oR [oS 4 (.mv (.c (.sl true [])))] (.seq (oR [oF 7 6 1,oL 8 7,oH 9 8,oJ 10 0] (.block 0 (.loop kF))) (oR [oF 55 0 1,oL 56 55,oC 57 .eql 56 5,oM 58 57,oMg 59 3 58 false,oHg 60 59 58 false,oCi 61 .gtr 60 0 58 false,oPo 62 58 61,oM 63 62,oMg 64 3 63 true,oMg 65 4 63 true,oCg 66 250 64 65 63 true,oPa 67 63 66,oM 2 67] .ret))))),[(.tmp 2)],1,[]⟩
theorem LS:nA Tryz.prog 236 kH:=okF Tryz.func236
def DB:qB:=⟨(oR [oQ 2 10 0,oQ 3 10 1,oZ 4 false] (oR [oF 5 0 2,oL 6 5,oF 7 0 3,oL 8 7,oB 9 .eql 6 8,oM 10 9,oFg 11 1 2 10 true,oP 12 11 10 true,oFg 13 1 3 10 true,oP 14 13 10 true,oBg 15 .eql 12 14 10 true,oPa 16 10 15,oM 17 16,oFg 18 2 2 17 true,oP 19 18 17 true,oFg 20 2 3 17 true,oP 21 20 17 true,oBg 22 .eql 19 21 17 true,oPa 23 17 22,oM 24 23,oFg 25 3 2 24 true,oP 26 25 24 true,oFg 27 3 3 24 true,oP 28 27 24 true,oBg 29 .eql 26 28 24 true,oPa 30 24 29,oM 31 30,oFg 32 4 2 31 true,oP 33 32 31 true,oFg 34 4 3 31 true,oP 35 34 31 true,oBg 36 .eql 33 35 31 true,oPa 37 31 36,oM 38 37,oFg 39 7 2 38 true,oP 40 39 38 true,oFg 41 7 3 38 true,oP 42 41 38 true,oBg 43 .eql 40 42 38 true,oPa 44 38 43,oM 45 44,oFg 46 8 2 45 true,oP 47 46 45 true,oFg 48 8 3 45 true,oP 49 48 45 true,oBg 50 .eql 47 49 45 true,oPa 51 45 50,oM 52 51,oFg 53 9 2 52 true,oP 54 53 52 true,oFg 55 9 3 52 true,oP 56 55 52 true,oG 57 (.bin .eql true (.t 54) (.t 56)) 52 true,oPa 58 52 57,oM 59 58,oFg 60 5 2 59 true,oP 61 60 59 true,oFg 62 5 3 59 true,oP 63 62 59 true,oCg 64 252 61 63 59 true,oPa 65 59 64,oM 66 65,oFg 67 6 2 66 true,oP 68 67 66 true,oFg 69 6 3 66 true,oP 70 69 66 true,oG 71 (.call .any 253 [(.t 68),(.t 70),(.c (.fn 254 []))]) 66 true,oPa 72 66 71,oM 4 72] .ret)),[(.tmp 4)],2,[]⟩
theorem HV:nA Tryz.prog 237 DB:=okF Tryz.func237
def bC:qB:=⟨(oR [oQ 1 8 0,oZ 2 false] (oR [oA 4 8 1,oC1 5 256 4,oY 3 zza,oV 8 3 5] (oR [oF 6 1 1,oL 7 6,oF 8 1 3,oL 9 8,oS 10 (.bin .eql true (.t 7) (.t 9)),oM 11 10,oFg 12 2 1 11 true,oP 13 12 11 true,oFg 14 2 3 11 true,oP 15 14 11 true,oBg 16 .eql 13 15 11 true,oPa 17 11 16,oM 18 17,oFg 19 3 1 18 true,oP 20 19 18 true,oFg 21 3 3 18 true,oP 22 21 18 true,oBg 23 .eql 20 22 18 true,oPa 24 18 23,oM 25 24,oFg 26 4 1 25 true,oP 27 26 25 true,oFg 28 4 3 25 true,oP 29 28 25 true,oBg 30 .eql 27 29 25 true,oPa 31 25 30,oM 32 31,oFg 33 5 1 32 true,oP 34 33 32 true,oHg 35 34 32 true,oFg 36 5 3 32 true,oP 37 36 32 true,oHg 38 37 32 true,oBg 39 .eql 35 38 32 true,oPa 40 32 39,oM 41 40,oFg 42 6 1 41 true,oP 43 42 41 true,oHg 44 43 41 true,oFg 45 6 3 41 true,oP 46 45 41 true,oHg 47 46 41 true,oBg 48 .eql 44 47 41 true,oPa 49 41 48,oM 50 49,oFg 51 7 1 50 true,oP 52 51 50 true,oHg 53 52 50 true,oFg 54 7 3 50 true,oP 55 54 50 true,oHg 56 55 50 true,oBg 57 .eql 53 56 50 true,oPa 58 50 57,oM 2 58] .ret))),[(.tmp 2)],1,[]⟩
theorem JV:nA Tryz.prog 238 bC:=okF Tryz.func238
def mL:qB:=⟨(oR [oQ 4 1 0,oQ 5 1 1,oQ 7 1 3,oZ 8 false] (oR [oM 9 2,oS 10 (.mkf 258 [(.t 4),(.t 5),(.t 7)]),oC2 11 257 9 10,oU 12 11,oM 8 12] .ret)),[(.tmp 8)],4,[]⟩
theorem wZ:nA Tryz.prog 240 mL:=okF Tryz.func240
def WC:qB:=⟨(oR [oQ 2 8 0,oQ 3 8 1,oJ 4 0] (.seq (oR [oF 5 0 2,oL 6 5,oF 7 0 3,oL 8 7,oB 9 .neq 6 8] (oD 9 (oR [oJ 4 0] .ret) .skip)) (.seq (oR [oF 10 0 2,oL 11 10] (.block 0 (oR [oC 13 .eql 11 1,oM 12 13] (oD 12 (.seq (.block 1 (oR [oF 15 1 2,oL 16 15,oF 17 1 3,oL 18 17,oS 19 (.bin .eql true (.t 16) (.t 18)),oM 14 19] (oD 14 (oR [oJ 4 0] .ret) (oR [oF 21 1 3,oL 22 21,oM 20 22] (oD 20 (oR [oJ 4 (-1)] .ret) .skip))))) (oR [oJ 4 1] .ret)) (oR [oC 24 .eql 11 2,oM 23 24] (oD 23 (oR [oF 25 2 2,oL 26 25,oC1 27 260 26,oF 28 2 3,oL 29 28,oC1 30 260 29,oC2 31 259 27 30,oM 4 31] .ret) (oR [oC 33 .eql 11 3,oM 32 33] (oD 32 (oR [oF 34 3 2,oL 35 34,oS 36 (.len true (.t 35)),oF 37 3 3,oL 38 37,oS 39 (.len true (.t 38)),oC2 40 140 36 39,oF 41 3 2,oL 42 41,oF 43 3 3,oL 44 43,oC2 45 262 42 44,oS 46 (.bsl [(.int .i64 0)] 2 [(0,(.t 40)),(1,(.t 45))]),oC1 47 261 46,oM 4 47] .ret) (oR [oC 49 .eql 11 4,oM 48 49] (oD 48 (oR [oF 50 4 2,oL 51 50,oF 52 4 3,oL 53 52,oC2 54 140 51 53,oM 4 54] .ret) .skip)))))))))) (oR [oJ 4 0] .ret)))),[(.tmp 4)],2,[]⟩
theorem QU:nA Tryz.prog 241 WC:=okF Tryz.func241
def dH:qB:=⟨(oR [oZ 2 false] (oR [oM 3 0,oS 4 (.bin .eql false (.t 3) (.c (.int .u8 95))),oM 5 4,oMg 6 0 5 false,oG 7 (.bin .geq false (.t 6) (.c (.int .u8 97))) 5 false,oMg 8 7 5 false,oMg 9 0 8 true,oG 10 (.bin .leq false (.t 9) (.c (.int .u8 122))) 8 true,oPb 11 8 10 5 false,oPo 12 5 11,oM 13 12,oMg 14 0 13 false,oG 15 (.bin .geq false (.t 14) (.c (.int .u8 65))) 13 false,oMg 16 15 13 false,oMg 17 0 16 true,oG 18 (.bin .leq false (.t 17) (.c (.int .u8 90))) 16 true,oPb 19 16 18 13 false,oPo 20 13 19,oM 2 20] .ret)),[(.tmp 2)],1,[]⟩
theorem DS:nA Tryz.prog 248 dH:=okF Tryz.func248
def tI:qB:=⟨(oR [oZ 2 false] (oR [oM 3 0,oS 4 (.bin .geq false (.t 3) (.c (.int .u8 48))),oM 5 4,oMg 6 0 5 true,oG 7 (.bin .leq false (.t 6) (.c (.int .u8 57))) 5 true,oPa 8 5 7,oM 2 8] .ret)),[(.tmp 2)],1,[]⟩
theorem iU:nA Tryz.prog 249 tI:=okF Tryz.func249
def EB:C:=oR [oB 12 .lss 11 10] (.seq (oD 12 .skip (.exit 0)) (.seq (.block 1 (oR [oM 13 11,oI 14 1 9 11,oL 15 14,oM 6 13,oM 7 15] (.seq (oR [oM 16 7,oC 17 .lss 16 1,oM 18 17,oMg 19 7 18 false,oCi 20 .gtr 19 1000 18 false,oPo 21 18 20,oM 22 21,oMg 23 6 22 false,oCi 24 .gtr 23 0 22 false,oMg 25 24 22 false,oMg 26 7 25 true,oMg 27 0 25 true,oMg 28 6 25 true,oCi 29 .sub 28 1 25 true,oIg 30 1 27 29 25 true,oP 31 30 25 true,oBg 32 .leq 26 31 25 true,oPb 33 25 32 22 false,oPo 34 22 33,oM 35 34,oMg 36 5 35 false,oMg 37 1 35 false,oMg 38 6 35 false,oIg 39 1 37 38 35 false,oP 40 39 35 false,oG 41 (.mget false .none (.bool false) (.t 36) (.t 40)) 35 false,oPo 42 35 41,oM 43 42,oMg 44 1 43 false,oMg 45 6 43 false,oIg 46 1 44 45 43 false,oP 47 46 43 false,oG 48 (.call .any 234 [(.t 47)]) 43 false,oUg 49 48 43 false,oPo 50 43 49] (oD 50 (oR [oZ 4 false] .ret) .skip)) (.reg [oM 51 5,oM 52 1,oM 53 6,oI 54 1 52 53,oL 55 54,oN (.mset .none (.t 51) (.t 55) (.c (.bool true)))])))) (.reg [oC 56 .add 11 1,oM 11 56])))
def nL:qB:=⟨(oR [oZ 4 false] (oR [oS 8 (.mkm),oM 5 8] (.seq (oR [oM 9 0,oH 10 9,oJ 11 0] (.block 0 (.loop EB))) (oR [oM 57 0,oH 58 57,oC 59 .leq 58 16,oM 4 59] .ret)))),[(.tmp 4)],2,[]⟩
theorem MY:nA Tryz.prog 250 nL:=okF Tryz.func250
def jJ:qB:=⟨(oR [oQ 1 8 0,oZ 2 false] (oR [oA 3 8 1,oS 4 (.build zza []),oC2 5 255 3 4,oM 2 5] .ret)),[(.tmp 2)],1,[]⟩
theorem GV:nA Tryz.prog 251 jJ:=okF Tryz.func251
def RB:C:=oR [oB 14 .lss 13 12] (.seq (oD 14 .skip (.exit 0)) (.seq (.block 1 (oR [oM 15 13,oM 5 15] (oR [oM 16 0,oM 17 5,oI 18 2 16 17,oA 19 2 18,oM 20 1,oM 21 5,oI 22 2 20 21,oA 23 2 22,oS 24 (.eqa true [0,1] (.t 19) (.t 23))] (oD 24 (oR [oZ 4 false] .ret) .skip)))) (.reg [oC 25 .add 13 1,oM 13 25])))
def UC:qB:=⟨(oR [oZ 4 false] (.seq (oR [oM 6 0,oH 7 6,oM 8 1,oH 9 8,oB 10 .neq 7 9] (oD 10 (oR [oZ 4 false] .ret) .skip)) (.seq (oR [oM 11 0,oH 12 11,oJ 13 0] (.block 0 (.loop RB))) (oR [oZ 4 true] .ret)))),[(.tmp 4)],2,[]⟩
theorem aM:nA Tryz.prog 252 UC:=okF Tryz.func252
def UB:C:=oR [oB 18 .lss 17 16] (.seq (oD 18 .skip (.exit 0)) (.seq (.block 1 (oR [oM 19 17,oI 20 13 15 17,oA 21 13 20,oY 8 zzh,oM 7 19,oV 13 8 21] (oR [oM 22 1,oM 23 7,oI 24 13 22 23,oA 25 13 24,oY 9 zzh,oV 13 9 25] (oR [oM 26 2,oA 27 13 8,oA 28 13 9,oS 29 (.callv .any (.t 26) [(.t 27),(.t 28)]),oU 30 29] (oD 30 (oR [oZ 6 false] .ret) .skip))))) (.reg [oC 31 .add 17 1,oM 17 31])))
def JB:qB:=⟨(oR [oZ 6 false] (.seq (oR [oM 10 0,oH 11 10,oM 12 1,oH 13 12,oB 14 .neq 11 13] (oD 14 (oR [oZ 6 false] .ret) .skip)) (.seq (oR [oM 15 0,oH 16 15,oJ 17 0] (.block 0 (.loop UB))) (oR [oZ 6 true] .ret)))),[(.tmp 6)],3,[]⟩
theorem sK:nA Tryz.prog 253 JB:=okF Tryz.func253
def pC:qB:=⟨(oR [oQ 2 13 0,oQ 3 13 1,oZ 4 false] (oR [oF 5 0 2,oL 6 5,oF 7 0 3,oL 8 7,oB 9 .eql 6 8,oM 10 9,oFg 11 1 2 10 true,oP 12 11 10 true,oFg 13 1 3 10 true,oP 14 13 10 true,oBg 15 .eql 12 14 10 true,oPa 16 10 15,oM 17 16,oFg 18 2 2 17 true,oP 19 18 17 true,oFg 20 2 3 17 true,oP 21 20 17 true,oBg 22 .eql 19 21 17 true,oPa 23 17 22,oM 24 23,oFg 25 3 2 24 true,oP 26 25 24 true,oFg 27 3 3 24 true,oP 28 27 24 true,oG 29 (.bin .eql true (.t 26) (.t 28)) 24 true,oPa 30 24 29,oM 31 30,oFg 32 4 2 31 true,oP 33 32 31 true,oFg 34 4 3 31 true,oP 35 34 31 true,oG 36 (.bin .eql true (.t 33) (.t 35)) 31 true,oPa 37 31 36,oM 38 37,oFg 39 5 2 38 true,oLg 40 8 39 38 true,oFg 41 5 3 38 true,oLg 42 8 41 38 true,oCg 43 255 40 42 38 true,oPa 44 38 43,oM 4 44] .ret)),[(.tmp 4)],2,[]⟩
theorem WR:nA Tryz.prog 254 pC:=okF Tryz.func254
def ZC:qB:=⟨(oR [oQ 2 8 0,oQ 3 8 1,oZ 4 false] (oR [oF 5 0 2,oL 6 5,oF 7 0 3,oL 8 7,oB 9 .eql 6 8,oM 10 9,oFg 11 1 2 10 true,oP 12 11 10 true,oFg 13 1 3 10 true,oP 14 13 10 true,oG 15 (.bin .eql true (.t 12) (.t 14)) 10 true,oPa 16 10 15,oM 17 16,oFg 18 2 2 17 true,oP 19 18 17 true,oFg 20 2 3 17 true,oP 21 20 17 true,oBg 22 .eql 19 21 17 true,oPa 23 17 22,oM 24 23,oFg 25 3 2 24 true,oP 26 25 24 true,oFg 27 3 3 24 true,oP 28 27 24 true,oBg 29 .eql 26 28 24 true,oPa 30 24 29,oM 31 30,oFg 32 4 2 31 true,oP 33 32 31 true,oFg 34 4 3 31 true,oP 35 34 31 true,oBg 36 .eql 33 35 31 true,oPa 37 31 36,oM 38 37,oFg 39 7 2 38 true,oP 40 39 38 true,oFg 41 7 3 38 true,oP 42 41 38 true,oCg 43 196 40 42 38 true,oPa 44 38 43,oM 45 44,oFg 46 5 2 45 true,oP 47 46 45 true,oFg 48 5 3 45 true,oP 49 48 45 true,oG 50 (.call .any 197 [(.t 47),(.t 49),(.c (.fn 255 []))]) 45 true,oPa 51 45 50,oM 52 51,oFg 53 6 2 52 true,oP 54 53 52 true,oFg 55 6 3 52 true,oP 56 55 52 true,oG 57 (.call .any 197 [(.t 54),(.t 56),(.c (.fn 255 []))]) 52 true,oPa 58 52 57,oM 4 58] .ret)),[(.tmp 4)],2,[]⟩
theorem CX:nA Tryz.prog 255 ZC:=okF Tryz.func255
def fB:qB:=⟨(oR [oQ 1 8 0,oY 2 zza] (oR [oF 4 0 1,oL 5 4,oS 6 (.build zza [(0,(1,(.t 5)))]),oY 3 zza,oV 8 3 6] (.seq (oR [oF 7 0 1,oL 8 7] (.block 0 (oR [oC 10 .eql 8 1,oM 9 10] (oD 9 (.reg [oF 11 1 1,oL 12 11,oF 13 1 3,oW 13 12]) (oR [oC 15 .eql 8 2,oM 14 15] (oD 14 (.reg [oF 16 2 1,oL 17 16,oF 18 2 3,oW 18 17]) (oR [oC 20 .eql 8 3,oM 19 20] (oD 19 (.reg [oF 21 3 1,oL 22 21,oF 23 3 3,oW 23 22]) (oR [oC 25 .eql 8 4,oM 24 25] (oD 24 (.reg [oF 26 4 1,oL 27 26,oF 28 4 3,oW 28 27]) (oR [oC 30 .eql 8 5,oM 29 30] (oD 29 (.reg [oF 31 6 1,oLr 32 1 1 31,oF 33 7 1,oLr 34 1 1 33,oF 35 6 3,oN (.store (.root 3) false 1 (.t 35) (.t 32)),oF 36 7 3,oN (.store (.root 3) false 1 (.t 36) (.t 34))]) (oR [oC 38 .eql 8 6,oM 37 38] (oD 37 (.reg [oF 39 4 1,oLr 40 1 1 39,oF 41 6 1,oLr 42 1 1 41,oF 43 7 1,oLr 44 1 1 43,oF 45 4 3,oN (.store (.root 3) false 1 (.t 45) (.t 40)),oF 46 6 3,oN (.store (.root 3) false 1 (.t 46) (.t 42)),oF 47 7 3,oN (.store (.root 3) false 1 (.t 47) (.t 44))]) (oR [oC 49 .eql 8 8,oM 48 49] (oD 48 (.reg [oF 50 5 1,oLr 51 1 1 50,oF 52 6 1,oLr 53 1 1 52,oF 54 5 3,oN (.store (.root 3) false 1 (.t 54) (.t 51)),oF 55 6 3,oN (.store (.root 3) false 1 (.t 55) (.t 53))]) (.seq (oR [oC 57 .eql 8 7,oM 56 57] (oD 56 .skip (.reg [oC 58 .eql 8 9,oM 56 58]))) (oD 56 (.reg [oF 59 6 1,oL 60 59,oF 61 6 3,oW 61 60]) .skip)))))))))))))))))) (oR [oA 62 8 3,oV 8 2 62] .ret)))),[(.cell 2 true 8)],1,[]⟩
theorem qZ:nA Tryz.prog 256 fB:=okF Tryz.func256
def lC:qB:=⟨(oR [oZ 4 false] (oR [oM 5 0,oM 6 1,oC2 7 266 5 6,oC 8 .geq 7 0,oM 4 8] .ret)),[(.tmp 4)],2,[]⟩
theorem nJ:nA Tryz.prog 257 lC:=okF Tryz.func257
def lI:qB:=⟨(oR [oQ 4 8 0,oZ 5 false] (oR [oA 6 1 1,oL 7 2,oA 8 8 4,oL 9 3,oC4 10 227 6 7 8 9,oU 11 10,oM 5 11] .ret)),[(.tmp 5)],4,[]⟩
theorem WU:nA Tryz.prog 258 lI:=okF Tryz.func258
def XD:qB:=⟨(oR [oJ 4 0] (oR [oM 7 0,oC1 8 267 7,oM 5 8] (oR [oM 9 1,oC1 10 267 9,oM 6 10] (.seq (oR [oM 11 5] (oD 11 (.seq (oR [oM 12 6] (oD 12 (oR [oJ 4 0] .ret) .skip)) (oR [oJ 4 (-1)] .ret)) .skip)) (.seq (oR [oM 13 6] (oD 13 (oR [oJ 4 1] .ret) .skip)) (.seq (oR [oM 14 0,oM 15 1,oB 16 .lss 14 15] (oD 16 (oR [oJ 4 (-1)] .ret) .skip)) (.seq (oR [oM 17 0,oM 18 1,oB 19 .gtr 17 18] (oD 19 (oR [oJ 4 1] .ret) .skip)) (oR [oJ 4 0] .ret)))))))),[(.tmp 4)],2,[]⟩
theorem JO:nA Tryz.prog 259 XD:=okF Tryz.func259
def sG:qB:=⟨(oR [oS 2 (.mv (.c (.int .u64 0)))] (oR [oM 3 0,oS 4 (.conv (.some .u64) (.t 3)),oS 5 (.bin .shl false (.t 4) (.c (.int .u64 1))),oM 6 0,oS 7 (.bin .shr false (.t 6) (.c (.int .u64 63))),oS 8 (.conv (.some .u64) (.t 7)),oB 9 .xor 5 8,oM 2 9] .ret)),[(.tmp 2)],1,[]⟩
theorem EU:nA Tryz.prog 260 sG:=okF Tryz.func260
def HE:C:=oR [oB 9 .lss 8 7] (.seq (oD 9 .skip (.exit 0)) (.seq (.block 1 (oR [oI 10 1 6 8,oL 11 10,oM 5 11] (oR [oM 12 5,oM 13 3,oB 14 .neq 12 13] (oD 14 (oR [oM 15 5,oM 2 15] .ret) .skip)))) (.reg [oC 16 .add 8 1,oM 8 16])))
def fL:qB:=⟨(oR [oJ 2 0] (oR [oJ 3 0] (.seq (oR [oM 6 0,oH 7 6,oJ 8 0] (.block 0 (.loop HE))) (oR [oM 17 3,oM 2 17] .ret)))),[(.tmp 2)],1,[]⟩
theorem DY:nA Tryz.prog 261 fL:=okF Tryz.func261
def uD:qB:=⟨(oR [oJ 4 0] (oR [oM 7 0,oC1 8 268 7,oM 5 8] (oR [oM 9 1,oC1 10 268 9,oM 6 10] (.seq (oR [oM 11 5] (oD 11 (.seq (oR [oM 12 6] (oD 12 (oR [oJ 4 0] .ret) .skip)) (oR [oJ 4 (-1)] .ret)) .skip)) (.seq (oR [oM 13 6] (oD 13 (oR [oJ 4 1] .ret) .skip)) (.seq (oR [oM 14 0,oM 15 1,oB 16 .lss 14 15] (oD 16 (oR [oJ 4 (-1)] .ret) .skip)) (.seq (oR [oM 17 0,oM 18 1,oB 19 .gtr 17 18] (oD 19 (oR [oJ 4 1] .ret) .skip)) (oR [oJ 4 0] .ret)))))))),[(.tmp 4)],2,[]⟩
theorem GO:nA Tryz.prog 262 uD:=okF Tryz.func262
def zC:C:=oR [oB 9 .lss 8 7] (.seq (oD 9 .skip (.exit 0)) (.seq (.block 1 (oR [oM 10 8,oM 5 10] (oR [oM 11 1,oM 12 0,oM 13 5,oI 14 8 12 13,oA 15 8 14,oS 16 (.callv .any (.t 11) [(.t 15)])] (oD 16 (oR [oM 17 5,oM 4 17] .ret) .skip)))) (.reg [oC 18 .add 8 1,oM 8 18])))
def eD:qB:=⟨(oR [oJ 4 0] (.seq (oR [oM 6 0,oH 7 6,oJ 8 0] (.block 0 (.loop zC))) (oR [oJ 4 (-1)] .ret))),[(.tmp 4)],2,[]⟩
theorem CK:nA Tryz.prog 266 eD:=okF Tryz.func266
def GF:qB:=⟨(oR [oZ 2 false] (oR [oM 3 0,oM 4 0,oB 5 .neq 3 4,oM 2 5] .ret)),[(.tmp 2)],1,[]⟩
theorem mQ:nA Tryz.prog 267 GF:=okF Tryz.func267
def FF:qB:=⟨(oR [oZ 2 false] (oR [oM 3 0,oM 4 0,oB 5 .neq 3 4,oM 2 5] .ret)),[(.tmp 2)],1,[]⟩
theorem nQ:nA Tryz.prog 268 FF:=okF Tryz.func268
section
def GQ {α:Type} (f:(α->pA->Option RV)->Option RV):Prop:=(∀ k,f k=none)\/∃ e s',∀ k,f k=k e s'
def Det1 (f:(pA->Option RV)->Option RV):Prop:=(∀ k,f k=none)\/∃ s',∀ k,f k=k s'
theorem GQ.bind {α β:Type} {f:(α->pA->Option RV)->Option RV} (h:GQ f) {g:(β->pA->Option RV)->α->pA->Option RV} (hg:∀ e s,GQ fun k=>g k e s):GQ fun k=>f (g k):=by
 rcases h with h | ⟨e,s,h⟩
 ·exact .inl fun k=>h _
 ·rcases hg e s with h2 | ⟨e',s',h2⟩
  ·exact .inl fun k=>(h _).trans (h2 k)
  ·exact .inr ⟨e',s',fun k=>(h _).trans (h2 k)⟩
theorem GQ.here {α:Type} (e:α) (s:pA):GQ fun (k:α->pA->Option RV)=>k e s:=.inr ⟨e,s,fun _=>rfl⟩
theorem GQ.no {α:Type}:GQ fun (_:α->pA->Option RV)=>none:=.inl fun _=>rfl
def C.det:C->Bool
 | .seq a b=>a.det&&b.det
 | .reg ops=>ops.all fun o=>match o.op with | .nxt _=>false | _=>true
 | .cond _ a b=>a.det&&b.det
 | .block _ b=>b.det
 | .loop b=>b.det
 | _=>true
section
variable {call:aB} {lh:LH}
theorem H9 (s:pA) (d:Option Nat) (g:Option (Nat × Bool)) {a:(pA->Option RV)->Option RV} (ha:Det1 a):Det1 fun k=>UH s d g (a k) k:=by
 unfold UH;cases g with
 | none=>exact ha
 | some p =>
  obtain ⟨t,want⟩:=p;simp only;split
  ·split
   ·exact ha
   ·exact .inr ⟨_,fun _=>rfl⟩
  ·exact .inr ⟨_,fun _=>rfl⟩
  ·exact .inl fun _=>rfl
theorem det_hstep (hh:∀ f xs s,GQ (lh.h f xs s)) (d:Option Nat) (nt:Nat) (x:FB) (xs:List FB) (s:pA):Det1 (OO lh d nt x xs s):=by
 unfold OO;split
 ·rcases hh _ (wP s xs++_) (s.enter nt) with h | ⟨y,s',h⟩
  ·exact .inl fun k=>h _
  ·exact .inr ⟨_,fun k=>h _⟩
 ·exact .inl fun _=>rfl
theorem det_stepK (hh:∀ f xs s,GQ (lh.h f xs s)) (o:EA) (ho:(match o.op with | .nxt _=>false | _=>true)=true) (s:pA):Det1 (o.stepK call lh s):=by
 have hp:∀ (a:Option pA),Det1 fun k=>a.bind k:=fun a=>by
  cases a with
  | none=>exact .inl fun _=>rfl
  | some s'=>exact .inr ⟨s',fun _=>rfl⟩
 unfold EA.stepK;split
 ·exact H9 s _ _ (det_hstep hh _ _ _ _ s)
 ·rename_i h;rw [h] at ho;cases ho
 ·exact hp _
theorem det_ops (hh:∀ f xs s,GQ (lh.h f xs s)):∀ (l:List EA) (hl:(l.all fun o=>match o.op with | .nxt _=>false | _=>true)=true) (s:pA),Det1 (IF call lh l s)
 | [],_,s=>.inr ⟨s,fun _=>rfl⟩
 | o :: r,hl,s=>by
  rw [List.all_cons,y8] at hl;rcases det_stepK (call:=call) hh o hl.1 s with h | ⟨s',h⟩
  ·exact .inl fun k=>h _
  ·rcases det_ops hh r hl.2 s' with h2 | ⟨s2,h2⟩
   ·exact .inl fun k=>(h _).trans (h2 k)
   ·exact .inr ⟨s2,fun k=>(h _).trans (h2 k)⟩
theorem LN (hl:∀ b,b.det=true->∀ s,GQ (lh b s)) (hh:∀ f xs s,GQ (lh.h f xs s)):∀ (c:C) (hc:c.det=true) (s:pA),GQ (c.run call lh s)
 | .skip,_,s=>.inr ⟨.nrm,s,fun _=>rfl⟩
 | .exit id,_,s=>.inr ⟨.exit id,s,fun _=>rfl⟩
 | .ret,_,s=>.inr ⟨.ret,s,fun _=>rfl⟩
 | .seq a b,hc,s=>by
  simp only [C.det,y8] at hc;refine (LN hl hh a hc.1 s).bind (g:=fun k e s=>match e with | .nrm=>b.run call lh s k | e=>k e s) fun e s=>?_
  cases e with
  | nrm=>exact LN hl hh b hc.2 s
  | exit id=>exact GQ.here _ _
  | ret=>exact GQ.here _ _
 | .reg ops,hc,s=>by
  rcases det_ops (call:=call) hh ops hc s with h | ⟨s',h⟩
  ·exact .inl fun k=>h _
  ·exact .inr ⟨_,_,fun k=>h _⟩
 | .cond c t e,hc,s=>by
  simp only [C.det,y8] at hc;simp only [C.run];split
  ·split
   ·exact LN hl hh t hc.1 s
   ·exact LN hl hh e hc.2 s
  ·exact GQ.no
 | .block id b,hc,s=>(LN hl hh b hc s).bind (g:=fun k e s=>match e with | .exit j=>if j=id then k .nrm s else k (.exit j) s | e=>k e s) fun e s=>by
  cases e with
  | nrm=>exact GQ.here _ _
  | ret=>exact GQ.here _ _
  | exit j =>
   simp only;split
   ·exact GQ.here _ _
   ·exact GQ.here _ _
 | .loop b,hc,s=>hl b hc s
end
section
variable {T:Nat->Option qB} {ext:aB}
theorem det_N (hD:∀ f c,T f=some c->c.code.det=true):∀ n,(∀ b,b.det=true->∀ s,GQ (OJ T ext n b s))/\∀ f xs s,GQ (FL T ext n f xs s)
 | 0=>⟨fun _ _ _=>.inl fun _=>rfl,fun _ _ _=>.inl fun _=>rfl⟩
 | n + 1=>by
  obtain ⟨h1,h2⟩:=det_N hD n;have hr:=LN (call:=jD T ext n) (lh:=⟨OJ T ext n,FL T ext n⟩) h1 h2;refine ⟨fun b hb s=>?_,fun f xs s=>?_⟩
  ·have:OJ T ext (n + 1) b s=fun k=>b.run (jD T ext n) ⟨OJ T ext n,FL T ext n⟩ s (PJ (OJ T ext n) b k):=by funext k; rw [OJ]
   rw [this];refine (hr b hb s).bind (g:=fun k=>PJ (OJ T ext n) b k) fun e s=>?_
   cases e with
   | nrm=>exact h1 b hb s
   | exit id=>exact GQ.here _ _
   | ret=>exact GQ.here _ _
  ·have:FL T ext (n + 1) f xs s=fun k=>match T f with | none=>none | some c=>if xs.length=c.np then c.code.run (jD T ext n) ⟨OJ T ext n,FL T ext n⟩ (s.initH xs) (rL c k) else none:=by funext k; rw [FL]; rfl
   rw [this];cases hT:T f with
   | none=>exact GQ.no
   | some c =>
    simp only;split
    ·refine (hr c.code (hD f c hT) _).bind (g:=fun k=>rL c k) fun e s=>?_
     cases e with
     | exit id=>exact GQ.no
     | nrm =>
      simp only [rL];cases (zO s c.res).bind aL with
      | none=>exact GQ.no
      | some x=>exact GQ.here _ _
     | ret =>
      simp only [rL];cases (zO s c.res).bind aL with
      | none=>exact GQ.no
      | some x=>exact GQ.here _ _
    ·exact GQ.no
theorem run_reach (hD:∀ f c,T f=some c->c.code.det=true) {c:C} (hc:c.det=true) {s:pA} {F:Ex->pA->Prop} (h:∀ (k:Ex->pA->Option RV) (r:RV),(∀ e s',F e s'->k e s'=some r)->c.run (UF T ext) (KJ T ext) s k=some r):∃ e s',F e s'/\∀ (k:Ex->pA->Option RV) (r:RV),k e s'=some r->c.run (UF T ext) (KJ T ext) s k=some r:=by
 classical
 obtain ⟨m,hm⟩:=(uS c s (fun e s'=>if F e s' then some (default:RV) else none) default (fun _ e s'=>if F e s' then some (default:RV) else none) (fun e s' r' h'=>xB.now h') (h _ _ fun e s' hF=>if_pos hF)).some;obtain ⟨d1,d2⟩:=det_N (T:=T) (ext:=ext) hD m;rcases LN (call:=jD T ext m) (lh:=⟨OJ T ext m,FL T ext m⟩) d1 d2 c hc s with hd | ⟨e,s',hd⟩
 ·rw [hd] at hm;cases hm
 ·rw [hd] at hm;have hF:F e s':=by
   by_cases hF:F e s'
   ·exact hF
   ·rw [if_neg hF] at hm;cases hm
  refine ⟨e,s',hF,fun k r hk=>?_⟩;have hN:c.run (jD T ext m) ⟨OJ T ext m,FL T ext m⟩ s k=some r:=(hd k).trans hk;exact Exists.elim (FD (lpA:=⟨OJ T ext m,FL T ext m⟩) (callB:=fun _=>UF T ext) (sV:=fun _=>KJ T ext) (fun f args S r' h'=>xB.now (dG.2 ⟨m,h'⟩)) (fun f xs s1 k1 r1 km jc h1=>((XL m).2.2 f xs s1 k1 r1 km jc h1).imp fun m' jd=>DW.2 ⟨m',jd⟩) (fun b s1 k1 r1 km jc h1=>((XL m).2.1 b s1 k1 r1 km jc h1).imp fun m' jd=>FW.2 ⟨m',jd⟩) c s k r (fun _=>k) (fun e s' r' h'=>xB.now h') hN).some fun _ h'=>h'
theorem evC_reach {f:Nat} {args:List AV} {S0:Option AV} (hD:∀ f c,T f=some c->c.code.det=true) (c:qB) (hT:T f=some c) (hl:args.length=c.np) {F:Ex->pA->Prop} {P:RV->Prop} (h:∀ (k:Ex->pA->Option RV) (r:RV),(∀ e s',F e s'->k e s'=some r)->c.code.run (UF T ext) (KJ T ext) (pA.init args S0) k=some r) (hF:∀ e s',F e s'->∃ r,XN c S0 e s'=some r/\P r) (hm:UI args=false:=by rfl) (hS:noItO S0=true:=by rfl):∃ r,P r/\UF T ext f args S0=some r:=by
 obtain ⟨e,s',h1,h2⟩:=run_reach hD (hD f c hT) h;obtain ⟨r,h3,h4⟩:=hF e s' h1;exact ⟨r,h4,PT c hT hl (h2 _ _ h3) hm hS⟩
end
end
noncomputable def allL:List (Nat × qB):=[(5,JG),(6,HK),(9,XI),(11,DJ),(12,GJ),(13,pL),(14,AJ),(15,iL),(16,SJ),(17,FJ),(18,WW),(21,JC),(23,iG),(24,kN),(25,NQ),(26,HJ),(27,wM),(28,EK),(29,RE),(32,RF),(33,CQ),(34,iF),(35,HN),(40,BQ),(41,sJ),(43,HH),(44,tK),(45,LQ),(46,zE),(47,uP),(50,qM),(51,jN),(52,DM),(53,RO),(54,tP),(55,MR),(57,OH),(58,MQ),(60,CI),(61,FM),(65,PH),(66,xF),(68,LC),(69,tE),(74,WK),(75,BB),(76,aG),(77,SA),(78,rB),(79,UD),(80,bL),(81,XF),(82,KH),(83,kJ),(85,dI),(86,wE),(87,lL),(88,xK),(89,JM),(90,kL),(91,GM),(92,cK),(93,HM),(94,WB),(95,rG),(97,FH),(98,XQ),(99,NI),(101,XG),(102,CU),(103,rI),(104,eM),(105,KQ),(106,JJ),(111,WO),(120,QK),(121,nK),(122,sI),(123,MI),(127,cL),(128,DD),(129,qD),(130,UE),(131,ZF),(132,CE),(133,LM),(134,gJ),(135,rC),(136,KD),(137,jI),(140,LE),(141,EE),(142,SB),(143,iI),(144,QF),(145,ZG),(146,rM),(149,CA),(150,AH),(151,cA),(154,kI),(155,ZE),(156,CC),(157,GH),(158,FE),(159,DC),(160,KF),(171,eI),(172,qJ),(173,tG),(174,sH),(175,DH),(176,iJ),(178,mK),(179,KG),(180,WA),(181,zL),(182,iA),(184,xL),(185,KM),(189,GB),(191,bK),(192,FC),(193,LF),(194,uI),(195,XA),(196,gD),(197,qC),(203,CG),(204,TF),(205,QA),(206,WF),(207,FA),(208,sB),(209,SH),(210,nE),(211,aI),(212,pI),(213,mE),(214,fH),(215,TK),(216,jF),(219,XE),(221,xA),(222,RK),(223,CB),(224,BI),(225,zK),(226,GN),(227,kA),(228,CF),(234,bE),(235,lH),(236,kH),(237,DB),(238,bC),(240,mL),(241,WC),(248,dH),(249,tI),(250,nL),(251,jJ),(252,UC),(253,JB),(254,pC),(255,ZC),(256,fB),(257,lC),(258,lI),(259,XD),(260,sG),(261,fL),(262,uD),(266,eD),(267,GF),(268,FF)]
noncomputable def gA (f:Nat):Option qB:=allL.lookup f
def okL:List (Nat × qB)->Prop
 | []=>True
 | x::r=>nA Tryz.prog x.1 x.2/\okL r
theorem okL_of:∀ {l:List (Nat × qB)},okL l->∀ {f:Nat} {c:qB},l.lookup f=some c->nA Tryz.prog f c
 | [],_,_,_,h=>by cases h
 | (g,d)::r,hl,f,c,h=>by
  rw [List.lookup_cons] at h;cases e:f==g with
  | true=>rw [e] at h;cases h;cases of_decide_eq_true e;exact hl.1
  | false=>rw [e] at h;exact okL_of hl.2 h
theorem allT_ok (f:Nat) (c:qB) (h:gA f=some c):nA Tryz.prog f c:=okL_of (l:=allL) ⟨UL,KO,EN,oO,aO,xP,uO,zP,iO,pO,r8,sO,kU,CS,KX,dO,TQ,LX,RQ,XS,GX,M7,w8,HX,XY,JX,i8,bX,OS,DV,QQ,KS,bR,xU,cV,NY,mM,ZX,RN,nR,QM,nP,mH,aU,DX,LY,nU,ER,PV,fO,CY,SQ,RM,TN,zU,eN,GY,mX,B2,FY,X2,WX,C2,NG,rU,AX,OX,WV,z3,Z2,eU,UQ,cX,gO,wU,IX,TX,lU,EV,ZY,BS,mU,PQ,AQ,BY,d3,SV,WM,EM,cU,cR,UV,dU,sU,AS,OV,FQ,jU,QX,i3,bU,mR,NX,FX,hO,dK,IQ,qU,TV,uU,SS,PX,IV,UX,nV,r3,HY,KY,JY,t3,QR,RX,fK,OQ,pU,bP,UN,XK,FV,NS,tU,JS,SX,HS,EX,mV,gU,fU,WQ,FS,MX,cP,LO,XX,BX,EQ,QV,nX,q8,eZ,DQ,bV,ZS,LS,HV,JV,wZ,QU,DS,iU,MY,GV,aM,sK,WR,CX,qZ,nJ,WU,JO,EU,DY,GO,CK,mQ,nQ,trivial⟩ h
theorem detL:∀ {l:List (Nat × qB)},(l.all fun p=>p.2.code.det)=true->∀ {f:Nat} {c:qB},l.lookup f=some c->c.code.det=true
 | [],_,_,_,h=>by cases h
 | (g,d)::r,hl,f,c,h=>by
  rw [List.all_cons,y8] at hl;rw [List.lookup_cons] at h;cases e:f==g with
  | true=>rw [e] at h;cases h;exact hl.1
  | false=>rw [e] at h;exact detL hl.2 h
theorem allT_det (f:Nat) (c:qB) (h:gA f=some c):c.code.det=true:=detL (l:=allL) (by kernel_rfl) h
section
mutual
def AV.beq:AV->AV->Bool
 | .int k n,.int k' n'=>decide (k=k')&&decide (n=n')
 | .bool a,.bool b=>a == b
 | .str a,.str b=>decide (a=b)
 | .nilP,.nilP=>true
 | .ptr t n o,.ptr t' n' o'=>Nat.beq t t'&&Nat.beq n n'&&Nat.beq o o'
 | .ip l,.ip m=>AV.beqL l m
 | .bp l,.bp m=>AV.beqL l m
 | .sl b l,.sl b' m=>(b == b')&&AV.beqLL l m
 | .bl l,.bl m=>AV.beqLL l m
 | .fn f l,.fn g m=>Nat.beq f g&&AV.beqL l m
 | .agg l,.agg m=>AV.beqL l m
 | .tup l,.tup m=>AV.beqL l m
 | .undef,.undef=>true
 | _,_=>false
def AV.beqL:List AV->List AV->Bool
 | [],[]=>true
 | x :: l,y :: m=>AV.beq x y&&AV.beqL l m
 | _,_=>false
def AV.beqLL:List (List AV)->List (List AV)->Bool
 | [],[]=>true
 | x :: l,y :: m=>AV.beqL x y&&AV.beqLL l m
 | _,_=>false
end
mutual
theorem AV.beq_eq:∀ (x y:AV),AV.beq x y=true->x=y
 | .int k n,y,h=>by cases y <;> simp [AV.beq] at h <;> simp [h]
 | .bool a,y,h=>by cases y <;> simp [AV.beq] at h <;> simp [h]
 | .str a,y,h=>by cases y <;> simp [AV.beq] at h <;> simp [h]
 | .nilP,y,h=>by cases y <;> simp [AV.beq] at h <;> rfl
 | .ptr t n o,y,h=>by cases y <;> simp [AV.beq] at h <;> simp [h]
 | .ip l,y,h=>by cases y <;> simp only [AV.beq] at h <;> first | cases h | rw [AV.beqL_eq l _ h]
 | .bp l,y,h=>by cases y <;> simp only [AV.beq] at h <;> first | cases h | rw [AV.beqL_eq l _ h]
 | .sl b l,y,h=>by
  cases y <;> simp only [AV.beq] at h <;> first | cases h | skip
  rw [y8] at h
  rw [AV.beqLL_eq l _ h.2,show b=_ from by simpa using h.1]
 | .bl l,y,h=>by cases y <;> simp only [AV.beq] at h <;> first | cases h | rw [AV.beqLL_eq l _ h]
 | .ref ..,y,h=>by cases y <;> simp [AV.beq] at h
 | .mp ..,y,h=>by cases y <;> simp [AV.beq] at h
 | .fn f l,y,h=>by
  cases y <;> simp only [AV.beq] at h <;> first | cases h | skip
  rw [y8] at h
  rw [AV.beqL_eq l _ h.2,show f=_ from by simpa using h.1]
 | .agg l,y,h=>by cases y <;> simp only [AV.beq] at h <;> first | cases h | rw [AV.beqL_eq l _ h]
 | .tup l,y,h=>by cases y <;> simp only [AV.beq] at h <;> first | cases h | rw [AV.beqL_eq l _ h]
 | .undef,y,h=>by cases y <;> simp [AV.beq] at h <;> rfl
theorem AV.beqL_eq:∀ (x y:List AV),AV.beqL x y=true->x=y
 | [],[],_=>rfl
 | [],_ :: _,h=>by simp [AV.beqL] at h
 | _ :: _,[],h=>by simp [AV.beqL] at h
 | x :: l,y :: m,h=>by
  simp only [AV.beqL,y8] at h
  rw [AV.beq_eq x y h.1,AV.beqL_eq l m h.2]
theorem AV.beqLL_eq:∀ (x y:List (List AV)),AV.beqLL x y=true->x=y
 | [],[],_=>rfl
 | [],_ :: _,h=>by simp [AV.beqLL] at h
 | _ :: _,[],h=>by simp [AV.beqLL] at h
 | x :: l,y :: m,h=>by
  simp only [AV.beqLL,y8] at h
  rw [AV.beqL_eq x y h.1,AV.beqLL_eq l m h.2]
end
def AV.beqO:Option AV->Option AV->Bool
 | none,none=>true
 | some x,some y=>AV.beq x y
 | _,_=>false
theorem AV.beqO_eq:∀ (x y:Option AV),AV.beqO x y=true->x=y
 | none,none,_=>rfl
 | none,some _,h=>by cases h
 | some _,none,h=>by cases h
 | some x,some y,h=>by rw [AV.beq_eq x y h]
structure ME where
 f:Nat
 args:List AV
 S:Option AV
 r:RV
def D7:List ME->aB
 | [],_,_,_=>none
 | e :: l,f,args,S=>if Nat.beq e.f f&&(AV.beqL e.args args&&AV.beqO e.S S) then some e.r else D7 l f args S
mutual
noncomputable def eS (M:List ME) (T:Nat->Option qB) (ext:aB):Nat->aB
 | 0,f,args,S0=>match T f with
  | none=>ext f args S0
  | some _=>none
 | n + 1,f,args,S0=>match D7 M f args S0 with
  | some r=>some r
  | none=>match T f with
   | none=>ext f args S0
   | some c=>match kP args,S0 with
    | some rest,some (.agg cs)=>if rest.length=c.np/\UI rest=false then c.code.run (eS M T ext n) ⟨lpM M T ext n,hpM M T ext n⟩ (pA.initR rest cs) (WL c cs.length) else none
    | some _,_=>none
    | none,_=>if args.length=c.np/\UI args=false/\noItO S0=true then c.code.run (eS M T ext n) ⟨lpM M T ext n,hpM M T ext n⟩ (pA.init args S0) (XN c S0) else none
noncomputable def lpM (M:List ME) (T:Nat->Option qB) (ext:aB):Nat->LpT
 | 0,_,_,_=>none
 | n + 1,b,s,k=>b.run (eS M T ext n) ⟨lpM M T ext n,hpM M T ext n⟩ s (PJ (lpM M T ext n) b k)
noncomputable def hpM (M:List ME) (T:Nat->Option qB) (ext:aB):Nat->HpT
 | 0,_,_,_,_=>none
 | n + 1,f,args,s,k=>match T f with
  | none=>none
  | some c=>if args.length=c.np then c.code.run (eS M T ext n) ⟨lpM M T ext n,hpM M T ext n⟩ (s.initH args) (rL c k) else none
end
variable {T:Nat->Option qB} {ext:aB} {M:List ME}
def IA (T:Nat->Option qB) (ext:aB) (M:List ME):Prop:=∀ f args S r,D7 M f args S=some r->UF T ext f args S=some r
theorem M_late (hM:IA T ext M):∀ N,(∀ f args S r,eS M T ext N f args S=some r->xB fun m=>jD T ext m f args S=some r) ∧
  (∀ b s k r (km:Nat->Ex->pA->Option RV),(∀ e s' r',k e s'=some r'->xB fun m=>km m e s'=some r')->lpM M T ext N b s k=some r->xB fun m=>OJ T ext m b s (km m)=some r) ∧
  DU (hpM M T ext N) (FL T ext)
 | 0=>by
  refine ⟨fun f args S r h=>⟨0,fun m _=>?_⟩,fun b s k r km _ h=>(by cases h),fun f xs s k r km _ h=>(by cases h)⟩;unfold eS at h;cases hT:T f with
  | none=>rw [hT] at h; cases m <;> (unfold jD; rw [hT]; exact h)
  | some c=>rw [hT] at h; cases h
 | N + 1=>by
  obtain ⟨dp,ml,jp⟩:=M_late hM N;refine ⟨?_,?_,?_⟩
  ·intro f args S0 r h;unfold eS at h;cases hl:D7 M f args S0 with
   | some r' =>
    rw [hl] at h;injection h with h;subst h;exact iS f args S0 _ (hM f args S0 _ hl)
   | none =>
   rw [hl] at h;simp only at h;cases hT:T f with
   | none=>rw [hT] at h; exact ⟨0,fun m _=>by cases m <;> (unfold jD; rw [hT]; exact h)⟩
   | some c =>
    rw [hT] at h;cases hm:kP args with
    | some rest =>
     cases S0 with
     | none=>rw [hm] at h; cases h
     | some S =>
      cases S with
      | agg cs =>
       rw [hm] at h;simp only at h;split at h
       ·rename_i hl;refine xB.pred ((FD (lpA:=⟨lpM M T ext N,hpM M T ext N⟩) (sV:=fun m=>⟨OJ T ext m,FL T ext m⟩) dp jp ml c.code _ _ r (fun _=>WL c cs.length) (fun e s' r' h'=>xB.now h') h).imp fun m jd=>?_);unfold jD;rw [hT];simp only [hm];rw [if_pos hl];exact jd
       ·cases h
      | _=>rw [hm] at h; cases h
    | none =>
     rw [hm] at h;simp only at h;split at h
     ·rename_i hl;refine xB.pred ((FD (lpA:=⟨lpM M T ext N,hpM M T ext N⟩) (sV:=fun m=>⟨OJ T ext m,FL T ext m⟩) dp jp ml c.code _ _ r (fun _=>XN c S0) (fun e s' r' h'=>xB.now h') h).imp fun m jd=>?_);unfold jD;rw [hT];simp only [hm];rw [if_pos hl];exact jd
     ·cases h
  ·intro b s k r km hk h;unfold lpM at h;refine xB.pred ((FD (lpA:=⟨lpM M T ext N,hpM M T ext N⟩) (sV:=fun m=>⟨OJ T ext m,FL T ext m⟩) dp jp ml b s _ r (fun m=>PJ (OJ T ext m) b (km (m + 1))) (fun e s' r' h'=>?_) h).imp fun m hm=>?_)
   ·cases e with
    | nrm=>exact ml b s' k r' (fun m=>km (m + 1)) (fun e s'' r'' h''=>(hk e s'' r'' h'').succ) h'
    | exit id=>exact (hk _ _ _ h').succ
    | ret=>exact (hk _ _ _ h').succ
   ·unfold OJ;exact hm
  ·intro f xs s k r km hk h;unfold hpM at h;cases hT:T f with
   | none=>rw [hT] at h; cases h
   | some c =>
    rw [hT] at h;simp only at h;split at h
    ·rename_i hl;refine xB.pred ((FD (lpA:=⟨lpM M T ext N,hpM M T ext N⟩) (sV:=fun m=>⟨OJ T ext m,FL T ext m⟩) dp jp ml c.code _ _ r (fun m=>rL c (km (m + 1))) (fun e s' r' h'=>?_) h).imp fun m hm=>?_)
     ·cases e with
      | exit id=>cases h'
      | nrm =>
       simp only [rL] at h' ⊢;obtain ⟨y,hy,h'⟩:=y7.1 h';simp only [hy,V];exact (hk _ _ _ h').succ
      | ret =>
       simp only [rL] at h' ⊢;obtain ⟨y,hy,h'⟩:=y7.1 h';simp only [hy,V];exact (hk _ _ _ h').succ
     ·unfold FL;rw [hT];simp only;rw [if_pos hl];exact hm
    ·cases h
theorem IA.nil:IA T ext []:=fun f args S r h=>by cases h
theorem IA.run (hM:IA T ext M) {f:Nat} {args:List AV} {S:Option AV} {r:RV} (N:Nat) (h:eS M T ext N f args S=some r):UF T ext f args S=some r:=by
 obtain ⟨m,hm⟩:=((M_late hM N).1 f args S r h).some;exact dG.2 ⟨m,hm⟩
theorem IA.cons (hM:IA T ext M) {e:ME} (h:UF T ext e.f e.args e.S=some e.r):IA T ext (e :: M):=fun f args S r hl=>by
 unfold D7 at hl;split at hl
 ·rename_i hc;simp only [y8] at hc;obtain ⟨h1,h2,h3⟩:=hc;injection hl with hl;have h1:e.f=f:=by simpa using h1
  rw [<- h1,<- AV.beqL_eq _ _ h2,<- AV.beqO_eq _ _ h3,<- hl];exact h
 ·exact hM f args S r hl
theorem IA.more (hM:IA T ext M) (N:Nat) (e:ME) (h:eS M T ext N e.f e.args e.S=some e.r):IA T ext (e :: M):=hM.cons (hM.run N h)
end
section
def putE (e:Nat->qA) (d:Nat) (x:qA):Nat->qA:=fun t=>if t=d then x else e t
theorem qG (e:Nat->qA) (d:Nat) (x:qA) (t:Nat):putE e d x t=if t=d then x else e t:=(rfl)
def XV (m:Nat->Nat->Option (List qA)) (t n:Nat) (r:List qA):Nat->Nat->Option (List qA):=fun t' n'=>if t'=t/\n'=n then some r else m t' n'
theorem DA (m:Nat->Nat->Option (List qA)) (t n:Nat) (r:List qA) (t' n':Nat):XV m t n r t' n'=if t'=t/\n'=n then some r else m t' n':=(rfl)
def setO (m:Nat->Nat->Option AV) (t n:Nat) (r:AV):Nat->Nat->Option AV:=fun t' n'=>if t'=t/\n'=n then some r else m t' n'
theorem setO_at (m:Nat->Nat->Option AV) (t n:Nat) (r:AV) (t' n':Nat):setO m t n r t' n'=if t'=t/\n'=n then some r else m t' n':=(rfl)
def mY (k:Nat) (e:Nat->qA):Nat->qA:=fun t=>(e t).strip k
theorem Q1 (k:Nat) (e:Nat->qA) (t:Nat):mY k e t=(e t).strip k:=(rfl)
def OU (k:Nat) (m:Nat->Nat->Option (List qA)):Nat->Nat->Option (List qA):=fun t n=>(m t n).map (·.map (qA.strip k))
theorem W1 (k:Nat) (m:Nat->Nat->Option (List qA)) (t n:Nat):OU k m t n=(m t n).map (·.map (qA.strip k)):=(rfl)
theorem qA.strip_v (k:Nat) (x:qA):(x.strip k).v=x.v:=(rfl)
theorem qA.strip_a (k:Nat) (x:qA):(x.strip k).a=x.a.strip k:=(rfl)
theorem qA.strip_mk (k:Nat) (v:AV) (a:An):qA.strip k ⟨v,a⟩=⟨v,a.strip k⟩:=(rfl)
def argE (args:List AV):Nat->qA:=fun t=>⟨args.getD t .undef,.no⟩
theorem argE_at (args:List AV) (t:Nat):argE args t=⟨args.getD t .undef,.no⟩:=(rfl)
def noM:Nat->Nat->Option (List qA):=fun _ _=>none
theorem noM_at (t n:Nat):noM t n=none:=(rfl)
def objE (S0:Option AV):Nat->Nat->Option AV:=fun t n=>if t=0/\n=0 then S0 else none
theorem objE_at (S0:Option AV) (t n:Nat):objE S0 t n=if t=0/\n=0 then S0 else none:=(rfl)
def undE:Nat->qA:=fun _=>⟨.undef,.no⟩
theorem undE_at (t:Nat):undE t=⟨.undef,.no⟩:=(rfl)
theorem U9 {α β:Type} (a:α) (f:α->Option β):(some a).bind f=f a:=(rfl)
theorem D3 {α β:Type} (f:α->β) (l:List α):(l.map f).take l.length=l.map f:=yD (by simp)
theorem m_init (args:List AV) (S0:Option AV):pA.init args S0=⟨argE args,noM,1,objE S0,undE⟩:=(rfl)
theorem m_put (s:pA) (d:Nat) (x:qA):s.put (some d) x=⟨putE s.env d x,s.mem,s.next,s.obj,s.gh⟩:=(rfl)
theorem m_put0 (s:pA) (x:qA):s.put none x=s:=(rfl)
theorem m_row (s:pA) (t n:Nat) (r:List qA):s.setRow t n r=⟨s.env,XV s.mem t n r,s.next,s.obj,s.gh⟩:=(rfl)
theorem m_obj (s:pA) (t n:Nat) (r:AV):s.setObj t n r=⟨s.env,s.mem,s.next,setO s.obj t n r,s.gh⟩:=(rfl)
theorem m_strip (s:pA) (k:Nat):s.strip k=⟨mY k s.env,OU k s.mem,s.next,s.obj,mY k s.gh⟩:=(rfl)
theorem m_stripA (s:pA) (k:Nat) (e:TypeId):s.stripA (.own k e)=s.strip k:=(rfl)
theorem m_stripX (s:pA):s.stripA .ex=s:=(rfl)
def iV (t n:Nat) (e:Nat->qA):Nat->qA:=fun j=>(e j).kill t n
theorem eB (t n:Nat) (e:Nat->qA) (j:Nat):iV t n e j=(e j).kill t n:=(rfl)
def pV (t n:Nat) (m:Nat->Nat->Option (List qA)):Nat->Nat->Option (List qA):=fun t' n'=>if t'=t/\n'=n then none else (m t' n').map (·.map (qA.kill t n))
theorem tB (t n:Nat) (m:Nat->Nat->Option (List qA)) (t' n':Nat):pV t n m t' n'=if t'=t/\n'=n then none else (m t' n').map (·.map (qA.kill t n)):=(rfl)
theorem qA.kill_v (t n:Nat) (x:qA):(x.kill t n).v=x.v.kill t n:=(rfl)
theorem qA.kill_a (t n:Nat) (x:qA):(x.kill t n).a=x.a:=(rfl)
theorem qA.kill_mk (t n:Nat) (v:AV) (a:An):qA.kill t n ⟨v,a⟩=⟨v.kill t n,a⟩:=(rfl)
theorem m_kill (s:pA) (t n:Nat):s.killO (some (t,n))=⟨iV t n s.env,pV t n s.mem,s.next,s.obj,iV t n s.gh⟩:=(rfl)
def rowE (cs:List AV):Nat->Nat->Option (List qA):=fun t n=>if t=0/\n=0 then some (cs.map fun v=>⟨v,eC v⟩) else none
theorem rowE_at (cs:List AV) (t n:Nat):rowE cs t n=if t=0/\n=0 then some (cs.map fun v=>⟨v,eC v⟩) else none:=(rfl)
theorem m_initR (args cs:List AV):pA.initR args cs=⟨argE args,rowE cs,1,objE none,undE⟩:=by
 have:objE none=fun _ _=>none:=by funext t n; simp [objE]
 rw [this];rfl
def drop0M (m:Nat->Nat->Option (List qA)):Nat->Nat->Option (List qA):=fun t n=>if t=0/\n=0 then none else m t n
theorem drop0M_at (m:Nat->Nat->Option (List qA)) (t n:Nat):drop0M m t n=if t=0/\n=0 then none else m t n:=(rfl)
theorem m_drop0 (s:pA):s.drop0=⟨s.env,drop0M s.mem,s.next,s.obj,s.gh⟩:=(rfl)
def slotE (xs:List qA):Nat->qA:=fun t=>xs.getD t ⟨.undef,.no⟩
theorem slotE_at (xs:List qA) (t:Nat):slotE xs t=xs.getD t ⟨.undef,.no⟩:=(rfl)
def TY (nt:Nat) (e g:Nat->qA):Nat->qA:=fun t=>if t<nt then e t else g (t - nt)
theorem gE (nt:Nat) (e g:Nat->qA) (t:Nat):TY nt e g t=if t<nt then e t else g (t - nt):=(rfl)
def backE (nt:Nat) (g:Nat->qA):Nat->qA:=fun t=>if t<nt then g t else ⟨.undef,.no⟩
theorem fN (nt:Nat) (g:Nat->qA) (t:Nat):backE nt g t=if t<nt then g t else ⟨.undef,.no⟩:=(rfl)
def uT (nt:Nat) (g:Nat->qA):Nat->qA:=fun t=>g (t + nt)
theorem uY (nt:Nat) (g:Nat->qA) (t:Nat):uT nt g t=g (t + nt):=(rfl)
theorem m_initH (s:pA) (xs:List qA):s.initH xs=⟨slotE xs,s.mem,s.next,s.obj,s.gh⟩:=(rfl)
theorem m_enter (s:pA) (nt:Nat):s.enter nt=⟨s.env,s.mem,s.next + 1,s.obj,TY nt s.env s.gh⟩:=(rfl)
theorem m_leave (s:pA) (nt:Nat):s.leave nt=⟨backE nt s.gh,s.mem,s.next,s.obj,uT nt s.gh⟩:=(rfl)
theorem m_kill0 (s:pA):s.killO none=s:=(rfl)
theorem iX {v:AV} (h:v.free0=true) (t n:Nat):v.kill0 t n=v:=by
 cases v <;> first | rfl | (simp [AV.free0] at h; done)
theorem R7 {cs:List AV} (h:cs.all AV.free0=true) (t n:Nat):cs.map (AV.kill0 t n)=cs:=by
 have h1:cs.map (AV.kill0 t n)=cs.map id:=ym fun x hx=>iX (y5.1 h x hx) t n
 rwa [List.map_id] at h1
theorem u0 {v:AV} (h:v.free=true) (t n:Nat):v.kill t n=v:=by
 cases v with
 | agg cs=>exact congrArg AV.agg (R7 h t n)
 | _=>first | rfl | (simp [AV.free,AV.free0] at h; done)
theorem frz0_free {s:pA} {v:AV} (h:v.free0=true):v.frz0 s=v:=by
 cases v <;> first | rfl | (simp [AV.free0] at h; done)
theorem frz_map {s:pA} {cs:List AV} (h:cs.all AV.free0=true):cs.map (AV.frz0 s)=cs:=by
 have h1:cs.map (AV.frz0 s)=cs.map id:=ym fun x hx=>frz0_free (y5.1 h x hx)
 rwa [List.map_id] at h1
theorem frz_free {s:pA} {v:AV} (h:v.free=true):v.frz s=v:=by
 cases v with
 | agg cs=>exact congrArg AV.agg (frz_map h)
 | _=>first | rfl | (simp [AV.free,AV.free0] at h; done)
section
variable {sz:Nat} {l:List (List AV)}
theorem wG (l m:List (List AV)):sA (l++m)=sA l++sA m:=by simp [sA]
theorem mG (h:gB sz l=true):(sA l).length=l.length * sz:=by
 induction l with
 | nil=>simp [sA]
 | cons c r ih =>
  rw [aR] at h;simp only [y8,decide_eq_true_eq] at h;have:=ih h.2;simp only [sA,yF,yU,yp,yo,yE] at this ⊢;rw [this,h.1,yu];omega
theorem UP (h:gB sz l=true) {k:Nat} (hk:k<=l.length):sA l=sA (l.take k)++sA (l.drop k)/\(sA (l.take k)).length=k * sz:=by
 refine ⟨by rw [<- wG,List.take_append_drop],?_⟩;rw [mG (IW h k),yz,Nat.min_eq_left hk]
theorem gY (h:gB sz l=true) {k:Nat} (hk:k<=l.length):(sA l).take (k * sz)=sA (l.take k):=by
 obtain ⟨h1,h2⟩:=UP h hk;rw [h1,<- h2,List.take_left]
theorem xO (h:gB sz l=true) {k:Nat} (hk:k<=l.length):(sA l).drop (k * sz)=sA (l.drop k):=by
 obtain ⟨h1,h2⟩:=UP h hk;rw [h1,<- h2,List.drop_left]
theorem sM (c:List AV) (r:List (List AV)):sA (c :: r)=c.map (⟨·,.no⟩)++sA r:=by simp [sA]
theorem IZ (h:gB sz l=true) {k:Nat} {c:List AV} (hk:l[k]?=some c):c.length=sz:=by
 simp only [gB,y5] at h;simpa using h c (yk hk)
theorem cO (h:gB sz l=true) {k:Nat} {c:List AV} (hk:l[k]?=some c):wB true sz (k * sz) (sA l)=some ⟨.agg c,.no⟩:=by
 have fa:=(yb.1 hk).1;have hc:=IZ h hk;have hd:l.drop k=c :: l.drop (k + 1):=by rw [y9 fa,(yb.1 hk).2]
 simp only [wB,if_true,mG h];rw [if_pos (by rw [<- yu]; exact Y00 _ fa),xO h (by omega),hd,sM,<- hc,List.take_left' (by simp)];simp [Function.comp_def]
theorem E8 (h:gB 1 l=true) {k:Nat} {x:AV} (hk:l[k]?=some [x]):(sA l)[k]?=some ⟨x,.no⟩:=by
 have fa:=(yb.1 hk).1;obtain ⟨h1,h2⟩:=UP h (k:=k) (by omega);have hd:l.drop k=[x] :: l.drop (k + 1):=by rw [y9 fa,(yb.1 hk).2]
 rw [h1,yW (by omega),h2,hd,sM];simp
theorem R8 (h:gB 1 l=true) {k:Nat} {x:AV} (hk:l[k]?=some [x]) (sz:Nat):wB false sz k (sA l)=some ⟨x,.no⟩:=by
 simp only [wB,yq,if_false];exact E8 h hk
theorem IP (h:gB sz l=true) {k:Nat} (hk:k<l.length) {c:List AV} (hc:c.length=sz) (a:An):mA true sz (k * sz) (sA l) (.agg c) a=some (sA (l.set k c)):=by
 simp only [mA,if_true,mG h];rw [if_pos ⟨hc,by rw [<- yu]; exact Y00 _ hk⟩,gY h (by omega),<- yu,xO h hk,List.set_eq_take_append_cons_drop,if_pos hk,wG,sM,yY]
theorem U3 (h:gB 1 l=true) {k:Nat} (hk:k<l.length) {x:AV} (hx:x.leaf=true) (sz:Nat):mA false sz k (sA l) x .no=some (sA (l.set k [x])):=by
 have ia:=mG h;simp only [mA,yq,if_false];rw [if_pos ⟨hx,by omega⟩];congr 1;have e1:=gY h (k:=k) (by omega);have e2:=xO h (k:=k + 1) (by omega);simp only [Nat.mul_one] at e1 e2;rw [List.set_eq_take_append_cons_drop,if_pos (by omega),e1,e2,List.set_eq_take_append_cons_drop,if_pos hk,wG,sM];simp
theorem iB (z off:Nat) (r:List qA):wB false z off r=r[off]?:=by simp [wB]
theorem kB (z off:Nat) (x:qA) (r:List qA):wB true z off (x :: r)=if off + z<=(x :: r).length then some ⟨.agg ((((x :: r).drop off).take z).map (·.v)),.no⟩ else none:=by simp [wB]
theorem HA (z off:Nat) (y:qA) (r:List qA) (x:AV) (a:An):mA false z off (y :: r) x a=if x.leaf/\off<(y :: r).length then some ((y :: r).set off ⟨x,a⟩) else none:=by simp [mA]
theorem JA (z off:Nat) (y:qA) (r:List qA) (cs:List AV) (a:An):mA true z off (y :: r) (.agg cs) a=if cs.length=z/\off + z<=(y :: r).length then some ((y :: r).take off++cs.map (⟨·,.no⟩)++(y :: r).drop (off + z)) else none:=by simp [mA]
def nD (l:List (List AV)):Bool:=l.all fun c=>c.all AV.free0
theorem KK {α:Type} (f:α->List AV) (l:List α) (h:∀ x,(f x).all AV.free0=true):nD (l.map f)=true:=by
 simp only [nD,List.all_map,y5];exact fun x _=>h x
theorem nG (h:gB sz l=true) (hf:nD l=true):sD (sA l) sz 0 l.length=some l:=by
 unfold sD;rw [if_pos]
 ·congr 1;refine List.ext_getElem (by simp) fun i h1 h2=>?_
  simp only [List.getElem_map,List.getElem_range,yH];rw [xO h (by omega),y9 h2,sM];have hc:=IZ h (y4 h2);rw [<- hc,List.take_left' (by simp)];simp [Function.comp_def]
 ·refine ⟨by rw [mG h]; omega,?_⟩;simp only [sA,List.all_map,List.all_flatten,Function.comp_def];exact hf
end
section
variable {call:aB} {lp:LH} {T:Nat->Option qB} {ext:aB}
noncomputable def seqK (call:aB) (lp:LH) (b:C) (k:Ex->pA->Option RV):Ex->pA->Option RV:=fun e s=>match e with
 | .nrm=>b.run call lp s k
 | e=>k e s
def regK (k:Ex->pA->Option RV):pA->Option RV:=fun s=>k .nrm { s with next:=s.next + 1 }
noncomputable def opK (call:aB) (lp:LH) (r:List EA) (k:pA->Option RV):pA->Option RV:=fun s=>IF call lp r s k
def callK (d:Option Nat) (nt:Nat) (k:pA->Option RV):qA->pA->Option RV:=fun y s'=>k ((s'.leave nt).put d y)
def blkK (id:Nat) (k:Ex->pA->Option RV):Ex->pA->Option RV:=fun e s=>match e with
 | .exit j=>if j=id then k .nrm s else k (.exit j) s
 | e=>k e s
def C6 (v:AV) (a b:Option RV):Option RV:=match v with
 | .bool t=>if t then a else b
 | _=>none
def FT (v:AV) (w:Bool) (a b:Option pA):Option pA:=match v with
 | .bool t=>if t=w then a else b
 | .tup []=>b
 | _=>none
def GT (v:AV) (w:Bool) (a b:Option RV):Option RV:=match v with
 | .bool t=>if t=w then a else b
 | .tup []=>b
 | _=>none
def fnC (v:AV) (h:Nat->List AV->Option RV):Option RV:=match v with
 | .fn f cs=>h f cs
 | _=>none
variable (b c:C) (s:pA) (k:Ex->pA->Option RV) (j id:Nat)
theorem seqK_nrm:seqK call lp b k .nrm s=b.run call lp s k:=(rfl)
theorem seqK_exit:seqK call lp b k (.exit j) s=k (.exit j) s:=(rfl)
theorem seqK_ret:seqK call lp b k .ret s=k .ret s:=(rfl)
theorem regK_at:regK k s=k .nrm ⟨s.env,s.mem,s.next + 1,s.obj,s.gh⟩:=(rfl)
theorem opK_at (r:List EA) (k:pA->Option RV):opK call lp r k s=IF call lp r s k:=(rfl)
theorem callK_at (d:Option Nat) (nt:Nat) (k:pA->Option RV) (y:qA):callK d nt k y s=k ((s.leave nt).put d y):=(rfl)
theorem blkK_nrm:blkK id k .nrm s=k .nrm s:=(rfl)
theorem blkK_exit:blkK id k (.exit j) s=if j=id then k .nrm s else k (.exit j) s:=(rfl)
theorem blkK_ret:blkK id k .ret s=k .ret s:=(rfl)
theorem S9 (x y:Option RV):C6 (.bool true) x y=x:=(rfl)
theorem B6 (x y:Option RV):C6 (.bool false) x y=y:=(rfl)
theorem z7 (t w:Bool) (x y:Option pA):FT (.bool t) w x y=if t=w then x else y:=(rfl)
theorem C9 (w:Bool) (x y:Option pA):FT (.tup []) w x y=y:=(rfl)
theorem c7 (t w:Bool) (x y:Option RV):GT (.bool t) w x y=if t=w then x else y:=(rfl)
theorem B9 (w:Bool) (x y:Option RV):GT (.tup []) w x y=y:=(rfl)
theorem fnC_fn (f:Nat) (cs:List AV) (h:Nat->List AV->Option RV):fnC (.fn f cs) h=h f cs:=(rfl)
theorem r_skip:C.run call lp .skip s k=k .nrm s:=(rfl)
theorem r_seq:C.run call lp (.seq b c) s k=b.run call lp s (seqK call lp c k):=(rfl)
theorem r_reg (ops:List EA):C.run call lp (.reg ops) s k=IF call lp ops s (regK k):=(rfl)
theorem r_cond (x:FB):C.run call lp (.cond x b c) s k=C6 (x.get s) (b.run call lp s k) (c.run call lp s k):=(rfl)
theorem r_block:C.run call lp (.block id b) s k=b.run call lp s (blkK id k):=(rfl)
theorem r_loop:C.run call (KJ T ext) (.loop b) s k=TH T ext b s k:=(rfl)
theorem r_exit:C.run call lp (.exit id) s k=k (.exit id) s:=(rfl)
theorem r_ret:C.run call lp .ret s k=k .ret s:=(rfl)
theorem a_nrm:PJ lp b k .nrm s=lp b s k:=(rfl)
theorem a_exit:PJ lp b k (.exit j) s=k (.exit j) s:=(rfl)
theorem a_ret:PJ lp b k .ret s=k .ret s:=(rfl)
theorem o_nil (k:pA->Option RV):IF call lp [] s k=k s:=(rfl)
theorem o_cons (o:EA) (r:List EA) (k:pA->Option RV):IF call lp (o :: r) s k=o.stepK call lp s (opK call lp r k):=(rfl)
theorem s_plain (d:Option Nat) (op:K):EA.step call ⟨d,op,none⟩ s=(op.run call s).bind (EA.eff ⟨d,op,none⟩ s):=(rfl)
theorem s_guard (d:Option Nat) (op:K) (t:Nat) (w:Bool):EA.step call ⟨d,op,some (t,w)⟩ s=FT (s.env t).v w ((op.run call s).bind (EA.eff ⟨d,op,none⟩ s)) (some (s.put d ⟨.tup [],.no⟩)):=by
 simp only [EA.step,FT];generalize (s.env t).v=v;cases v with
 | tup l=>cases l <;> rfl
 | _=>rfl
theorem k_callh (d:Option Nat) (nt:Nat) (x:FB) (xs:List FB) (g:Option (Nat × Bool)) (k:pA->Option RV):EA.stepK call lp ⟨d,.callh nt x xs,g⟩ s k=UH s d g (OO lp d nt x xs s k) k:=(rfl)
theorem hg_none (d:Option Nat) (a:Option RV) (k:pA->Option RV):UH s d none a k=a:=(rfl)
theorem hg_some (d:Option Nat) (t:Nat) (w:Bool) (a:Option RV) (k:pA->Option RV):UH s d (some (t,w)) a k=GT (s.env t).v w a (k (s.put d ⟨.tup [],.no⟩)):=by
 simp only [UH,GT];generalize (s.env t).v=v;cases v with
 | tup l=>cases l <;> rfl
 | _=>rfl
theorem h_step (d:Option Nat) (nt:Nat) (x:FB) (xs:List FB) (k:pA->Option RV):OO (KJ T ext) d nt x xs s k=fnC (x.get s) fun f cs=>i7 T ext f (wP s xs++cs.map (⟨·,.no⟩)) (s.enter nt) (callK d nt k):=by
 simp only [OO,fnC];generalize x.get s=v;cases v <;> rfl
section
variable (d:Option Nat) (g:Option (Nat × Bool)) (k:pA->Option RV)
section
variable {x0}
include x0
theorem k_mv:EA.stepK call lp ⟨d,.mv x0,g⟩ s k=(EA.step call ⟨d,.mv x0,g⟩ s).bind k:=(rfl)
theorem k_pick {x1} {x2}:EA.stepK call lp ⟨d,.pick x0 x1 x2,g⟩ s k=(EA.step call ⟨d,.pick x0 x1 x2,g⟩ s).bind k:=(rfl)
theorem k_alloc:EA.stepK call lp ⟨d,.alloc x0,g⟩ s k=(EA.step call ⟨d,.alloc x0,g⟩ s).bind k:=(rfl)
theorem k_box {x1}:EA.stepK call lp ⟨d,.box x0 x1,g⟩ s k=(EA.step call ⟨d,.box x0 x1,g⟩ s).bind k:=(rfl)
theorem k_build {x1}:EA.stepK call lp ⟨d,.build x0 x1,g⟩ s k=(EA.step call ⟨d,.build x0 x1,g⟩ s).bind k:=(rfl)
theorem k_bsl {x1} {x2}:EA.stepK call lp ⟨d,.bsl x0 x1 x2,g⟩ s k=(EA.step call ⟨d,.bsl x0 x1 x2,g⟩ s).bind k:=(rfl)
theorem k_bslr {x1} {x2} {x3}:EA.stepK call lp ⟨d,.bslr x0 x1 x2 x3,g⟩ s k=(EA.step call ⟨d,.bslr x0 x1 x2 x3,g⟩ s).bind k:=(rfl)
theorem k_load {x1} {x2} {x3}:EA.stepK call lp ⟨d,.load x0 x1 x2 x3,g⟩ s k=(EA.step call ⟨d,.load x0 x1 x2 x3,g⟩ s).bind k:=(rfl)
theorem k_store {x1} {x2} {x3} {x4}:EA.stepK call lp ⟨d,.store x0 x1 x2 x3 x4,g⟩ s k=(EA.step call ⟨d,.store x0 x1 x2 x3 x4,g⟩ s).bind k:=(rfl)
theorem k_bin {x1} {x2} {x3}:EA.stepK call lp ⟨d,.bin x0 x1 x2 x3,g⟩ s k=(EA.step call ⟨d,.bin x0 x1 x2 x3,g⟩ s).bind k:=(rfl)
theorem k_mm {x1} {x2}:EA.stepK call lp ⟨d,.mm x0 x1 x2,g⟩ s k=(EA.step call ⟨d,.mm x0 x1 x2,g⟩ s).bind k:=(rfl)
theorem k_eqa {x1} {x2} {x3}:EA.stepK call lp ⟨d,.eqa x0 x1 x2 x3,g⟩ s k=(EA.step call ⟨d,.eqa x0 x1 x2 x3,g⟩ s).bind k:=(rfl)
theorem k_eqn {x1} {x2} {x3}:EA.stepK call lp ⟨d,.eqn x0 x1 x2 x3,g⟩ s k=(EA.step call ⟨d,.eqn x0 x1 x2 x3,g⟩ s).bind k:=(rfl)
theorem k_un {x1}:EA.stepK call lp ⟨d,.un x0 x1,g⟩ s k=(EA.step call ⟨d,.un x0 x1,g⟩ s).bind k:=(rfl)
theorem k_conv {x1}:EA.stepK call lp ⟨d,.conv x0 x1,g⟩ s k=(EA.step call ⟨d,.conv x0 x1,g⟩ s).bind k:=(rfl)
theorem k_rstr:EA.stepK call lp ⟨d,.rstr x0,g⟩ s k=(EA.step call ⟨d,.rstr x0,g⟩ s).bind k:=(rfl)
theorem k_bstr {x1}:EA.stepK call lp ⟨d,.bstr x0 x1,g⟩ s k=(EA.step call ⟨d,.bstr x0 x1,g⟩ s).bind k:=(rfl)
theorem k_clr {x1} {x2}:EA.stepK call lp ⟨d,.clr x0 x1 x2,g⟩ s k=(EA.step call ⟨d,.clr x0 x1 x2,g⟩ s).bind k:=(rfl)
theorem k_mks {x1} {x2} {x3} {x4}:EA.stepK call lp ⟨d,.mks x0 x1 x2 x3 x4,g⟩ s k=(EA.step call ⟨d,.mks x0 x1 x2 x3 x4,g⟩ s).bind k:=(rfl)
theorem k_slc {x1} {x2} {x3} {x4} {x5}:EA.stepK call lp ⟨d,.slc x0 x1 x2 x3 x4 x5,g⟩ s k=(EA.step call ⟨d,.slc x0 x1 x2 x3 x4 x5,g⟩ s).bind k:=(rfl)
theorem k_aslc {x1} {x2} {x3} {x4} {x5}:EA.stepK call lp ⟨d,.aslc x0 x1 x2 x3 x4 x5,g⟩ s k=(EA.step call ⟨d,.aslc x0 x1 x2 x3 x4 x5,g⟩ s).bind k:=(rfl)
theorem k_faddr {x1}:EA.stepK call lp ⟨d,.faddr x0 x1,g⟩ s k=(EA.step call ⟨d,.faddr x0 x1,g⟩ s).bind k:=(rfl)
theorem k_field {x1} {x2} {x3}:EA.stepK call lp ⟨d,.field x0 x1 x2 x3,g⟩ s k=(EA.step call ⟨d,.field x0 x1 x2 x3,g⟩ s).bind k:=(rfl)
theorem k_iaddr {x1} {x2}:EA.stepK call lp ⟨d,.iaddr x0 x1 x2,g⟩ s k=(EA.step call ⟨d,.iaddr x0 x1 x2,g⟩ s).bind k:=(rfl)
theorem k_aaddr {x1} {x2} {x3}:EA.stepK call lp ⟨d,.aaddr x0 x1 x2 x3,g⟩ s k=(EA.step call ⟨d,.aaddr x0 x1 x2 x3,g⟩ s).bind k:=(rfl)
theorem k_index {x1}:EA.stepK call lp ⟨d,.index x0 x1,g⟩ s k=(EA.step call ⟨d,.index x0 x1,g⟩ s).bind k:=(rfl)
theorem k_ext {x1}:EA.stepK call lp ⟨d,.ext x0 x1,g⟩ s k=(EA.step call ⟨d,.ext x0 x1,g⟩ s).bind k:=(rfl)
theorem k_call {x1} {x2}:EA.stepK call lp ⟨d,.call x0 x1 x2,g⟩ s k=(EA.step call ⟨d,.call x0 x1 x2,g⟩ s).bind k:=(rfl)
theorem k_callf {x1} {x2} {x3}:EA.stepK call lp ⟨d,.callf x0 x1 x2 x3,g⟩ s k=(EA.step call ⟨d,.callf x0 x1 x2 x3,g⟩ s).bind k:=(rfl)
theorem k_mkf {x1}:EA.stepK call lp ⟨d,.mkf x0 x1,g⟩ s k=(EA.step call ⟨d,.mkf x0 x1,g⟩ s).bind k:=(rfl)
theorem k_callv {x1} {x2}:EA.stepK call lp ⟨d,.callv x0 x1 x2,g⟩ s k=(EA.step call ⟨d,.callv x0 x1 x2,g⟩ s).bind k:=(rfl)
theorem k_callr {x1} {x2}:EA.stepK call lp ⟨d,.callr x0 x1 x2,g⟩ s k=(EA.step call ⟨d,.callr x0 x1 x2,g⟩ s).bind k:=(rfl)
theorem k_len {x1}:EA.stepK call lp ⟨d,.len x0 x1,g⟩ s k=(EA.step call ⟨d,.len x0 x1,g⟩ s).bind k:=(rfl)
theorem k_app {x1} {x2} {x3} {x4} {x5}:EA.stepK call lp ⟨d,.app x0 x1 x2 x3 x4 x5,g⟩ s k=(EA.step call ⟨d,.app x0 x1 x2 x3 x4 x5,g⟩ s).bind k:=(rfl)
theorem k_appf {x1} {x2} {x3} {x4} {x5}:EA.stepK call lp ⟨d,.appf x0 x1 x2 x3 x4 x5,g⟩ s k=(EA.step call ⟨d,.appf x0 x1 x2 x3 x4 x5,g⟩ s).bind k:=(rfl)
theorem k_appm {x1} {x2} {x3} {x4} {x5}:EA.stepK call lp ⟨d,.appm x0 x1 x2 x3 x4 x5,g⟩ s k=(EA.step call ⟨d,.appm x0 x1 x2 x3 x4 x5,g⟩ s).bind k:=(rfl)
theorem k_appn {x1} {x2} {x3} {x4} {x5}:EA.stepK call lp ⟨d,.appn x0 x1 x2 x3 x4 x5,g⟩ s k=(EA.step call ⟨d,.appn x0 x1 x2 x3 x4 x5,g⟩ s).bind k:=(rfl)
end
theorem k_mkm:EA.stepK call lp ⟨d,.mkm,g⟩ s k=(EA.step call ⟨d,.mkm,g⟩ s).bind k:=(rfl)
theorem k_bad:EA.stepK call lp ⟨d,.bad,g⟩ s k=(EA.step call ⟨d,.bad,g⟩ s).bind k:=(rfl)
theorem k_mkb {T e:TypeId}:EA.stepK call lp ⟨d,.mkb T e,g⟩ s k=(EA.step call ⟨d,.mkb T e,g⟩ s).bind k:=(rfl)
theorem k_mget {x0} {x1} {x2} {x3} {x4}:EA.stepK call lp ⟨d,.mget x0 x1 x2 x3 x4,g⟩ s k=(EA.step call ⟨d,.mget x0 x1 x2 x3 x4,g⟩ s).bind k:=(rfl)
theorem k_mset {x0} {x1} {x2} {x3}:EA.stepK call lp ⟨d,.mset x0 x1 x2 x3,g⟩ s k=(EA.step call ⟨d,.mset x0 x1 x2 x3,g⟩ s).bind k:=(rfl)
theorem k_mlen {x0}:EA.stepK call lp ⟨d,.mlen x0,g⟩ s k=(EA.step call ⟨d,.mlen x0,g⟩ s).bind k:=(rfl)
theorem k_rng {x0}:EA.stepK call lp ⟨d,.rng x0,g⟩ s k=(EA.step call ⟨d,.rng x0,g⟩ s).bind k:=(rfl)
theorem k_slz {x0}:EA.stepK call lp ⟨d,.slz x0,g⟩ s k=(EA.step call ⟨d,.slz x0,g⟩ s).bind k:=(rfl)
theorem k_ent {x0}:EA.stepK call lp ⟨d,.ent x0,g⟩ s k=(EA.step call ⟨d,.ent x0,g⟩ s).bind k:=(rfl)
theorem k_nxt {x0}:EA.stepK call lp ⟨d,.nxt x0,g⟩ s k=UH s d g (IS d x0 s k) k:=(rfl)
theorem k_nilchk {x0}:EA.stepK call lp ⟨d,.nilchk x0,g⟩ s k=(EA.step call ⟨d,.nilchk x0,g⟩ s).bind k:=(rfl)
end
theorem e_none (d:Option Nat) (op:K) (g:Option (Nat × Bool)) (x:qA):EA.eff ⟨d,op,g⟩ s (x,.none)=some (s.put d x):=(rfl)
theorem e_set (d:Option Nat) (op:K) (g:Option (Nat × Bool)) (x:qA) (t n:Nat) (r:List qA):EA.eff ⟨d,op,g⟩ s (x,.set t n r)=some ((s.setRow t n r).put d x):=(rfl)
theorem e_newp (d:Nat) (op:K) (g:Option (Nat × Bool)) (t n o:Nat) (a:An) (r:List qA):EA.eff ⟨some d,op,g⟩ s (⟨.ptr t n o,a⟩,.new r)=some ((s.setRow d s.next r).put (some d) ⟨.ptr d s.next 0,.no⟩):=(rfl)
theorem e_newr (d:Nat) (op:K) (g:Option (Nat × Bool)) (t n z o l p:Nat) (a:An) (r:List qA):EA.eff ⟨some d,op,g⟩ s (⟨.ref t n z o l p,a⟩,.new r)=some ((s.setRow d s.next r).put (some d) ⟨.ref d s.next z o l p,.no⟩):=(rfl)
theorem e_app (d:Nat) (op:K) (g:Option (Nat × Bool)) (v:AV) (a:An) (kk j:Nat) (e:TypeId):EA.eff ⟨some d,op,g⟩ s (⟨v,.own kk e⟩,.app a j)=some (((s.stripA a).strip d).put (some d) ⟨v,.own d e⟩):=(rfl)
theorem e_obj (d:Option Nat) (op:K) (g:Option (Nat × Bool)) (x:qA) (t n:Nat) (S:AV):EA.eff ⟨d,op,g⟩ s (x,.obj t n S)=some ((s.setObj t n S).put d x):=(rfl)
theorem e_mk (d:Nat) (op:K) (g:Option (Nat × Bool)) (x:qA) (S:AV):EA.eff ⟨some d,op,g⟩ s (x,.mk S)=some ((s.setObj d s.next S).put (some d) ⟨x.v.named d s.next,.no⟩):=(rfl)
theorem e_rn (d:Nat) (op:K) (g:Option (Nat × Bool)) (t n z o l p:Nat) (a:An) (q:Option (Nat × Nat)) (r:List qA):EA.eff ⟨some d,op,g⟩ s (⟨.ref t n z o l p,a⟩,.rn q r)=some (((s.killO q).setRow d s.next r).put (some d) ⟨.ref d s.next z o l p,.no⟩):=(rfl)
theorem e_ob2 (d:Nat) (op:K) (g:Option (Nat × Bool)) (t n z o l p:Nat) (a:An) (t' n':Nat) (S:AV) (r:List qA):EA.eff ⟨some d,op,g⟩ s (⟨.ref t n z o l p,a⟩,.ob2 t' n' S r)=some (((s.setObj t' n' S).setRow d s.next r).put (some d) ⟨.ref d s.next z o l p,.no⟩):=(rfl)
theorem run_cg {b:C} {s s':pA} {k:Ex->pA->Option RV} (h:s=s'):C.run call lp b s k=C.run call lp b s' k:=by rw [h]
theorem ops_cg {l:List EA} {s s':pA} {k:pA->Option RV} (h:s=s'):IF call lp l s k=IF call lp l s' k:=by rw [h]
theorem stepK_cg {o:EA} {s s':pA} {k:pA->Option RV} (h:s=s'):EA.stepK call lp o s k=EA.stepK call lp o s' k:=by rw [h]
theorem bind_cg {α β:Type} {a a':Option α} {f:α->Option β} (h:a=a'):a.bind f=a'.bind f:=by rw [h]
theorem condC_cg {v v':AV} {a b:Option RV} (h:v=v'):C6 v a b=C6 v' a b:=by rw [h]
theorem guardC_cg {v v':AV} {w:Bool} {a b:Option pA} (h:v=v'):FT v w a b=FT v' w a b:=by rw [h]
theorem guardK_cg {v v':AV} {w:Bool} {a b:Option RV} (h:v=v'):GT v w a b=GT v' w a b:=by rw [h]
theorem fnC_cg {v v':AV} {g:Nat->List AV->Option RV} (h:v=v'):fnC v g=fnC v' g:=by rw [h]
theorem evL_cg {T:Nat->Option qB} {ext:aB} {b:C} {s s':pA} {k:Ex->pA->Option RV} (h:s=s'):TH T ext b s k=TH T ext b s' k:=by rw [h]
theorem evH_cg {T:Nat->Option qB} {ext:aB} {f:Nat} {xs cj:List qA} {s s':pA} {k:qA->pA->Option RV} (hx:xs=cj) (h:s=s'):i7 T ext f xs s k=i7 T ext f cj s' k:=by rw [h,hx]
end
attribute [congr] run_cg ops_cg stepK_cg bind_cg condC_cg guardC_cg guardK_cg fnC_cg evL_cg evH_cg
attribute [simp] k_clr k_rng k_slz k_ent k_nxt k_bad k_mkb k_mv k_pick k_alloc k_box k_build k_bsl k_bslr k_load k_store k_bin k_mm k_eqa k_eqn k_un k_conv k_rstr k_bstr k_mks k_slc k_aslc k_faddr k_field k_iaddr k_aaddr k_index k_ext k_call k_callf k_mkf k_callv k_callr k_callh k_len k_app k_appf k_appm k_appn k_mkm k_mget k_mset k_mlen k_nilchk c7 B9 fnC_fn hg_none hg_some h_step opK_at callK_at undE_at rowE_at drop0M_at slotE_at gE fN uY m_initH m_enter m_leave m_initR m_drop0
attribute [simp] qG DA setO_at Q1 W1 qA.strip_v qA.strip_a qA.strip_mk argE_at noM_at objE_at eB tB qA.kill_v qA.kill_a qA.kill_mk
attribute [simp] e_ob2 frz_free frz_map AV.frz AV.frz0 u0 R7 AV.kill AV.kill0 m_kill m_kill0 e_rn m_init m_put m_put0 m_row m_obj m_strip m_stripA m_stripX An.strip e_none e_set e_newp e_newr e_app e_obj e_mk K.run FB.get mA AV.leaf AV.whole AV.cells WT mmC eL TS wB jG Cl.okPtr Cl.okMem aS XN GW objAt IJ tT AV.free AV.free0 AV.back AV.backN AV.isObj AV.named ZV jE PF cD gP AV.capOk mS bJ lJ AV.elems FB.an eC elsOk_nil aR Q2 tC IW J9 D3
attribute [simp ↓] U9 seqK_nrm seqK_exit seqK_ret regK_at blkK_nrm blkK_exit blkK_ret S9 B6 z7 C9 r_skip r_seq r_reg r_cond r_block r_loop r_exit r_ret a_nrm a_exit a_ret o_nil o_cons s_plain s_guard
end
def eA:aB:=fun _ _ _=>none
theorem cZ {O:uH} (f:FuncId) (args:List AV) (S:Option AV) (r:RV) (h:eA f args S=some r):rD Tryz.prog O f args S r:=by cases h
abbrev i6 (n:Int):AV:=.int .i64 n
abbrev f6:AV:=.bool false
abbrev t6:AV:=.bool true
abbrev n6:AV:=.sl true []
abbrev e6:AV:=.str ⟨#[]⟩
abbrev i0:AV:=.int .i64 0
def awkh_M0:List ME:=[]
theorem awkh_k0:IA gA eA awkh_M0:=IA.nil
abbrev va:AV:=(.sl false [[(i6 5),(.str (.mk #[82])),i0,i0,i0,n6,(.sl false [[(i6 1),(.str (.mk #[120])),(i6 1),f6,t6,(i6 1),t6,i0,e6,i0,n6,n6,n6]]),i0,i0,f6],[(i6 1),e6,i0,i0,i0,n6,n6,i0,i0,f6]])
abbrev vc:AV:=(.sl false [[(i6 5),(.str (.mk #[82])),i0,i0,i0,n6,(.sl false [[(i6 1),(.str (.mk #[120])),(i6 1),f6,t6,(i6 1),f6,i0,e6,i0,n6,n6,n6]]),i0,i0,f6],[(i6 1),e6,i0,i0,i0,n6,n6,i0,i0,f6]])
abbrev vf:AV:=(.sl false [[(i6 5),(.str (.mk #[82])),i0,i0,i0,n6,n6,i0,i0,f6],[(i6 1),e6,i0,i0,i0,n6,n6,i0,i0,f6]])
abbrev vg:AV:=(.sl false [[(.sl false [[t6],[t6],[f6]])],[(.sl false [[t6],[t6],[t6]])],[(.sl false [[f6],[t6],[t6]])]])
abbrev vh:AV:=(.agg [vf,i0])
abbrev vj:AV:=(.agg [vc,i0])
abbrev vl:AV:=(.agg [va,i0])
abbrev vm:AV:=(.agg [vc])
abbrev vn:AV:=(.agg [va])
abbrev vo:AV:=(.tup [(.sl false [[i0,i0]]),(.sl false [[(i6 (-1))]])])
abbrev vp:AV:=(.tup [(.sl false [[i0,i0],[(i6 1),(i6 1)]]),(.sl false [[(i6 (-1))],[i0]])])
abbrev vq:AV:=(.agg [vf])
abbrev vt:AV:=(.tup [n6,i0,(i6 15)])
abbrev vu:AV:=(.sl false [[va,i0],[vf,i0],[vc,i0]])
abbrev vv:AV:=(.tup [t6,i0])
abbrev vz:AV:=(.sl false [[(i6 1),(i6 1)]])
def awkh_M1:List ME:=⟨102,[t6,t6],none,(vl,none)⟩ :: awkh_M0
theorem awkh_k1:IA gA eA awkh_M1:=awkh_k0.more 3000 _ (by kernel_rfl)
def awkh_M2:List ME:=⟨102,[f6,f6],none,(vh,none)⟩ :: awkh_M1
theorem awkh_k2:IA gA eA awkh_M2:=awkh_k1.more 3000 _ (by kernel_rfl)
def awkh_M3:List ME:=⟨102,[t6,f6],none,(vj,none)⟩ :: awkh_M2
theorem awkh_k3:IA gA eA awkh_M3:=awkh_k2.more 3000 _ (by kernel_rfl)
def awkh_M4:List ME:=⟨203,[vn],none,(i0,none)⟩ :: awkh_M3
theorem awkh_k4:IA gA eA awkh_M4:=awkh_k3.more 3000 _ (by kernel_rfl)
def awkh_M5:List ME:=⟨204,[vn],none,((.tup [i0,i0,i0]),none)⟩ :: awkh_M4
theorem awkh_k5:IA gA eA awkh_M5:=awkh_k4.more 3000 _ (by kernel_rfl)
def awkh_M6:List ME:=⟨173,[vn],none,(i0,none)⟩ :: awkh_M5
theorem awkh_k6:IA gA eA awkh_M6:=awkh_k5.more 3000 _ (by kernel_rfl)
def awkh_M7:List ME:=⟨174,[vn],none,((.sl false [[(i6 2)],[(i6 2)]]),none)⟩ :: awkh_M6
theorem awkh_k7:IA gA eA awkh_M7:=awkh_k6.more 3000 _ (by kernel_rfl)
def awkh_M8:List ME:=⟨144,[vn],none,((.tup [(.sl false [[t6],[t6]]),i0]),none)⟩ :: awkh_M7
theorem awkh_k8:IA gA eA awkh_M8:=awkh_k7.more 3000 _ (by kernel_rfl)
def awkh_M9:List ME:=⟨95,[vn],none,(i0,none)⟩ :: awkh_M8
theorem awkh_k9:IA gA eA awkh_M9:=awkh_k8.more 3000 _ (by kernel_rfl)
def E4:List ME:=⟨203,[vq],none,(i0,none)⟩ :: awkh_M9
theorem awkh_k10:IA gA eA E4:=awkh_k9.more 3000 _ (by kernel_rfl)
def R4:List ME:=⟨204,[vq],none,((.tup [i0,i0,i0]),none)⟩ :: E4
theorem awkh_k11:IA gA eA R4:=awkh_k10.more 3000 _ (by kernel_rfl)
def T4:List ME:=⟨173,[vq],none,(i0,none)⟩ :: R4
theorem awkh_k12:IA gA eA T4:=awkh_k11.more 3000 _ (by kernel_rfl)
def U4:List ME:=⟨174,[vq],none,((.sl false [[(i6 1)],[(i6 2)]]),none)⟩ :: T4
theorem awkh_k13:IA gA eA U4:=awkh_k12.more 3000 _ (by kernel_rfl)
def I4:List ME:=⟨144,[vq],none,((.tup [(.sl false [[t6],[t6]]),i0]),none)⟩ :: U4
theorem awkh_k14:IA gA eA I4:=awkh_k13.more 3000 _ (by kernel_rfl)
def O4:List ME:=⟨95,[vq],none,(i0,none)⟩ :: I4
theorem awkh_k15:IA gA eA O4:=awkh_k14.more 3000 _ (by kernel_rfl)
def P4:List ME:=⟨203,[vm],none,(i0,none)⟩ :: O4
theorem awkh_k16:IA gA eA P4:=awkh_k15.more 3000 _ (by kernel_rfl)
def A4:List ME:=⟨204,[vm],none,((.tup [i0,i0,i0]),none)⟩ :: P4
theorem awkh_k17:IA gA eA A4:=awkh_k16.more 3000 _ (by kernel_rfl)
def S4:List ME:=⟨173,[vm],none,(i0,none)⟩ :: A4
theorem awkh_k18:IA gA eA S4:=awkh_k17.more 3000 _ (by kernel_rfl)
def D4:List ME:=⟨174,[vm],none,((.sl false [[(i6 2)],[(i6 2)]]),none)⟩ :: S4
theorem awkh_k19:IA gA eA D4:=awkh_k18.more 3000 _ (by kernel_rfl)
def F4:List ME:=⟨144,[vm],none,((.tup [(.sl false [[t6],[t6]]),i0]),none)⟩ :: D4
theorem awkh_k20:IA gA eA F4:=awkh_k19.more 3000 _ (by kernel_rfl)
def G4:List ME:=⟨95,[vm],none,(i0,none)⟩ :: F4
theorem awkh_k21:IA gA eA G4:=awkh_k20.more 3000 _ (by kernel_rfl)
def H4:List ME:=⟨103,[vu],none,(i0,none)⟩ :: G4
theorem awkh_k22:IA gA eA H4:=awkh_k21.more 3000 _ (by kernel_rfl)
def J4:List ME:=⟨79,[vn,i0,vn,i0],none,(vz,none)⟩ :: H4
theorem awkh_k23:IA gA eA J4:=awkh_k22.more 3000 _ (by kernel_rfl)
def K4:List ME:=⟨79,[vn,(i6 1),vn,(i6 1)],none,(n6,none)⟩ :: J4
theorem awkh_k24:IA gA eA K4:=awkh_k23.more 3000 _ (by kernel_rfl)
def L4:List ME:=⟨81,[vl,vl],none,(vp,none)⟩ :: K4
theorem awkh_k25:IA gA eA L4:=awkh_k24.more 3000 _ (by kernel_rfl)
def Z4:List ME:=⟨77,[vn,i0,vn,i0],none,(i0,none)⟩ :: L4
theorem awkh_k26:IA gA eA Z4:=awkh_k25.more 3000 _ (by kernel_rfl)
def X4:List ME:=⟨77,[vn,(i6 1),vn,(i6 1)],none,(i0,none)⟩ :: Z4
theorem awkh_k27:IA gA eA X4:=awkh_k26.more 3000 _ (by kernel_rfl)
def C4:List ME:=⟨32,[vl,vl],none,(vt,none)⟩ :: X4
theorem awkh_k28:IA gA eA C4:=awkh_k27.more 3000 _ (by kernel_rfl)
def B4:List ME:=⟨21,[vl,vl],none,(vv,none)⟩ :: C4
theorem awkh_k29:IA gA eA B4:=awkh_k28.more 3000 _ (by kernel_rfl)
def N4:List ME:=⟨79,[vn,i0,vq,i0],none,(n6,none)⟩ :: B4
theorem awkh_k30:IA gA eA N4:=awkh_k29.more 3000 _ (by kernel_rfl)
def M4:List ME:=⟨81,[vl,vh],none,(vo,none)⟩ :: N4
theorem awkh_k31:IA gA eA M4:=awkh_k30.more 3000 _ (by kernel_rfl)
def r5:List ME:=⟨77,[vn,i0,vq,i0],none,(i0,none)⟩ :: M4
theorem awkh_k32:IA gA eA r5:=awkh_k31.more 3000 _ (by kernel_rfl)
def t5:List ME:=⟨32,[vl,vh],none,(vt,none)⟩ :: r5
theorem awkh_k33:IA gA eA t5:=awkh_k32.more 3000 _ (by kernel_rfl)
def u5:List ME:=⟨21,[vl,vh],none,(vv,none)⟩ :: t5
theorem awkh_k34:IA gA eA u5:=awkh_k33.more 3000 _ (by kernel_rfl)
def i5:List ME:=⟨79,[vn,i0,vm,i0],none,(vz,none)⟩ :: u5
theorem awkh_k35:IA gA eA i5:=awkh_k34.more 3000 _ (by kernel_rfl)
def p5:List ME:=⟨79,[vn,(i6 1),vm,(i6 1)],none,(n6,none)⟩ :: i5
theorem awkh_k36:IA gA eA p5:=awkh_k35.more 3000 _ (by kernel_rfl)
def s5:List ME:=⟨81,[vl,vj],none,(vp,none)⟩ :: p5
theorem awkh_k37:IA gA eA s5:=awkh_k36.more 3000 _ (by kernel_rfl)
def j5:List ME:=⟨77,[vn,i0,vm,i0],none,((i6 10),none)⟩ :: s5
theorem awkh_k38:IA gA eA j5:=awkh_k37.more 3000 _ (by kernel_rfl)
def z5:List ME:=⟨32,[vl,vj],none,((.tup [(.sl false [[i0,i0]]),(i6 10),i0]),none)⟩ :: j5
theorem awkh_k39:IA gA eA z5:=awkh_k38.more 3000 _ (by kernel_rfl)
def b5:List ME:=⟨21,[vl,vj],none,((.tup [f6,i0]),none)⟩ :: z5
theorem awkh_k40:IA gA eA b5:=awkh_k39.more 3000 _ (by kernel_rfl)
def n5:List ME:=⟨79,[vq,i0,vn,i0],none,(n6,none)⟩ :: b5
theorem awkh_k41:IA gA eA n5:=awkh_k40.more 3000 _ (by kernel_rfl)
def Q5:List ME:=⟨81,[vh,vl],none,(vo,none)⟩ :: n5
theorem awkh_k42:IA gA eA Q5:=awkh_k41.more 3000 _ (by kernel_rfl)
def W5:List ME:=⟨77,[vq,i0,vn,i0],none,(i0,none)⟩ :: Q5
theorem awkh_k43:IA gA eA W5:=awkh_k42.more 3000 _ (by kernel_rfl)
def E5:List ME:=⟨32,[vh,vl],none,(vt,none)⟩ :: W5
theorem awkh_k44:IA gA eA E5:=awkh_k43.more 3000 _ (by kernel_rfl)
def R5:List ME:=⟨21,[vh,vl],none,(vv,none)⟩ :: E5
theorem awkh_k45:IA gA eA R5:=awkh_k44.more 3000 _ (by kernel_rfl)
def T5:List ME:=⟨79,[vq,i0,vq,i0],none,(n6,none)⟩ :: R5
theorem awkh_k46:IA gA eA T5:=awkh_k45.more 3000 _ (by kernel_rfl)
def U5:List ME:=⟨81,[vh,vh],none,(vo,none)⟩ :: T5
theorem awkh_k47:IA gA eA U5:=awkh_k46.more 3000 _ (by kernel_rfl)
def I5:List ME:=⟨77,[vq,i0,vq,i0],none,(i0,none)⟩ :: U5
theorem awkh_k48:IA gA eA I5:=awkh_k47.more 3000 _ (by kernel_rfl)
def O5:List ME:=⟨32,[vh,vh],none,(vt,none)⟩ :: I5
theorem awkh_k49:IA gA eA O5:=awkh_k48.more 3000 _ (by kernel_rfl)
def P5:List ME:=⟨21,[vh,vh],none,(vv,none)⟩ :: O5
theorem awkh_k50:IA gA eA P5:=awkh_k49.more 3000 _ (by kernel_rfl)
def A5:List ME:=⟨79,[vq,i0,vm,i0],none,(n6,none)⟩ :: P5
theorem awkh_k51:IA gA eA A5:=awkh_k50.more 3000 _ (by kernel_rfl)
def S5:List ME:=⟨81,[vh,vj],none,(vo,none)⟩ :: A5
theorem awkh_k52:IA gA eA S5:=awkh_k51.more 3000 _ (by kernel_rfl)
def D5:List ME:=⟨77,[vq,i0,vm,i0],none,(i0,none)⟩ :: S5
theorem awkh_k53:IA gA eA D5:=awkh_k52.more 3000 _ (by kernel_rfl)
def F5:List ME:=⟨32,[vh,vj],none,(vt,none)⟩ :: D5
theorem awkh_k54:IA gA eA F5:=awkh_k53.more 3000 _ (by kernel_rfl)
def G5:List ME:=⟨21,[vh,vj],none,(vv,none)⟩ :: F5
theorem awkh_k55:IA gA eA G5:=awkh_k54.more 3000 _ (by kernel_rfl)
def H5:List ME:=⟨79,[vm,i0,vn,i0],none,(vz,none)⟩ :: G5
theorem awkh_k56:IA gA eA H5:=awkh_k55.more 3000 _ (by kernel_rfl)
def J5:List ME:=⟨79,[vm,(i6 1),vn,(i6 1)],none,(n6,none)⟩ :: H5
theorem awkh_k57:IA gA eA J5:=awkh_k56.more 3000 _ (by kernel_rfl)
def K5:List ME:=⟨81,[vj,vl],none,(vp,none)⟩ :: J5
theorem awkh_k58:IA gA eA K5:=awkh_k57.more 3000 _ (by kernel_rfl)
def L5:List ME:=⟨77,[vm,i0,vn,i0],none,((i6 10),none)⟩ :: K5
theorem awkh_k59:IA gA eA L5:=awkh_k58.more 3000 _ (by kernel_rfl)
def Z5:List ME:=⟨32,[vj,vl],none,((.tup [(.sl false [[i0,i0]]),(i6 10),i0]),none)⟩ :: L5
theorem awkh_k60:IA gA eA Z5:=awkh_k59.more 3000 _ (by kernel_rfl)
def X5:List ME:=⟨21,[vj,vl],none,((.tup [f6,i0]),none)⟩ :: Z5
theorem awkh_k61:IA gA eA X5:=awkh_k60.more 3000 _ (by kernel_rfl)
def C5:List ME:=⟨79,[vm,i0,vq,i0],none,(n6,none)⟩ :: X5
theorem awkh_k62:IA gA eA C5:=awkh_k61.more 3000 _ (by kernel_rfl)
def B5:List ME:=⟨81,[vj,vh],none,(vo,none)⟩ :: C5
theorem awkh_k63:IA gA eA B5:=awkh_k62.more 3000 _ (by kernel_rfl)
def N5:List ME:=⟨77,[vm,i0,vq,i0],none,(i0,none)⟩ :: B5
theorem awkh_k64:IA gA eA N5:=awkh_k63.more 3000 _ (by kernel_rfl)
def M5:List ME:=⟨32,[vj,vh],none,(vt,none)⟩ :: N5
theorem awkh_k65:IA gA eA M5:=awkh_k64.more 3000 _ (by kernel_rfl)
def r6:List ME:=⟨21,[vj,vh],none,(vv,none)⟩ :: M5
theorem awkh_k66:IA gA eA r6:=awkh_k65.more 3000 _ (by kernel_rfl)
def u6:List ME:=⟨79,[vm,i0,vm,i0],none,(vz,none)⟩ :: r6
theorem awkh_k67:IA gA eA u6:=awkh_k66.more 3000 _ (by kernel_rfl)
def p6:List ME:=⟨79,[vm,(i6 1),vm,(i6 1)],none,(n6,none)⟩ :: u6
theorem awkh_k68:IA gA eA p6:=awkh_k67.more 3000 _ (by kernel_rfl)
def s6:List ME:=⟨81,[vj,vj],none,(vp,none)⟩ :: p6
theorem awkh_k69:IA gA eA s6:=awkh_k68.more 3000 _ (by kernel_rfl)
def d6:List ME:=⟨77,[vm,i0,vm,i0],none,(i0,none)⟩ :: s6
theorem awkh_k70:IA gA eA d6:=awkh_k69.more 3000 _ (by kernel_rfl)
def j6:List ME:=⟨77,[vm,(i6 1),vm,(i6 1)],none,(i0,none)⟩ :: d6
theorem awkh_k71:IA gA eA j6:=awkh_k70.more 3000 _ (by kernel_rfl)
def l6:List ME:=⟨32,[vj,vj],none,(vt,none)⟩ :: j6
theorem awkh_k72:IA gA eA l6:=awkh_k71.more 3000 _ (by kernel_rfl)
def z6:List ME:=⟨21,[vj,vj],none,(vv,none)⟩ :: l6
theorem awkh_k73:IA gA eA z6:=awkh_k72.more 3000 _ (by kernel_rfl)
def x6:List ME:=⟨46,[vu],none,((.tup [vg,i0]),none)⟩ :: z6
theorem awkh_k74:IA gA eA x6:=awkh_k73.more 3000 _ (by kernel_rfl)
def b6:List ME:=⟨54,[vu],none,((.tup [(.sl false [[i0,(i6 2)]]),i0]),none)⟩ :: x6
theorem awkh_k75:IA gA eA b6:=awkh_k74.more 3000 _ (by kernel_rfl)
def Q6:List ME:=⟨50,[vu],none,((.tup [f6,i0]),none)⟩ :: b6
theorem awkh_k76:IA gA eA Q6:=awkh_k75.more 3000 _ (by kernel_rfl)
def W6:List ME:=⟨105,[(.agg [(i6 5),(.str (.mk #[82])),i0,i0,i0,n6,(.sl false [[(i6 1),(.str (.mk #[120])),(i6 1),f6,t6,(i6 1),t6,i0,e6,i0,n6,n6,n6]]),i0,i0,f6])],none,((.sl false [[(i6 1)]]),none)⟩ :: Q6
theorem awkh_k77:IA gA eA W6:=awkh_k76.more 3000 _ (by kernel_rfl)
def E6:List ME:=⟨105,[(.agg [(i6 5),(.str (.mk #[82])),i0,i0,i0,n6,n6,i0,i0,f6])],none,(n6,none)⟩ :: W6
theorem awkh_k78:IA gA eA E6:=awkh_k77.more 3000 _ (by kernel_rfl)
def R6:List ME:=⟨105,[(.agg [(i6 5),(.str (.mk #[82])),i0,i0,i0,n6,(.sl false [[(i6 1),(.str (.mk #[120])),(i6 1),f6,t6,(i6 1),f6,i0,e6,i0,n6,n6,n6]]),i0,i0,f6])],none,((.sl false [[(i6 1)]]),none)⟩ :: E6
theorem awkh_k79:IA gA eA R6:=awkh_k78.more 3000 _ (by kernel_rfl)
def T6:List ME:=⟨106,[(.sl false [[(i6 1)]]),(i6 1)],none,(t6,none)⟩ :: R6
theorem awkh_k80:IA gA eA T6:=awkh_k79.more 3000 _ (by kernel_rfl)
def U6:List ME:=⟨106,[n6,(i6 1)],none,(f6,none)⟩ :: T6
theorem awkh_k81:IA gA eA U6:=awkh_k80.more 3000 _ (by kernel_rfl)
def I6:List ME:=⟨40,[vg,vg],none,(t6,none)⟩ :: U6
theorem awkh_k82:IA gA eA I6:=awkh_k81.more 3000 _ (by kernel_rfl)
def O6:List ME:=⟨28,[(.sl false [[i0,(i6 2)]]),(.sl false [[i0,(i6 2)]])],none,(t6,none)⟩ :: I6
theorem awkh_k83:IA gA eA O6:=awkh_k82.more 3000 _ (by kernel_rfl)
def nW:List ME:=⟨61,[vg,(.int .u8 3)],none,((.int .u8 3),none)⟩ :: O6
theorem awkh_k84:IA gA eA nW:=awkh_k83.more 3000 _ (by kernel_rfl)
theorem mW:IA gA eA nW:=awkh_k84
section
def rvBeq:RV->RV->Bool
 | (a,S),(b,S')=>AV.beq a b&&AV.beqO S S'
theorem rvBeq_eq {x y:RV} (h:rvBeq x y=true):x=y:=by
 obtain ⟨a,S⟩:=x;obtain ⟨b,S'⟩:=y;simp only [rvBeq,y8] at h;rw [AV.beq_eq _ _ h.1,AV.beqO_eq _ _ h.2]
def pickB (f:Nat->Option RV) (z:Option RV):List Nat->Option RV
 | []=>z
 | [i]=>f i
 | i :: j :: r=>match f i with
  | none=>none
  | some v=>if (j :: r).all (fun x=>match f x with | some y=>rvBeq y v | none=>false) then some v else none
theorem pickB_some {f:Nat->Option RV} {z:Option RV} {r:RV}:∀ (l:List Nat),pickB f z l=some r->(l=[]->z=some r)/\∀ i∈l,f i=some r
 | [],h=>⟨fun _=>h,fun i hi=>absurd hi (by simp)⟩
 | [a],h=>⟨fun e=>(by cases e),fun i hi=>(by rw [yO.1 hi]; exact h)⟩
 | a :: b :: l,h=>by
  refine ⟨fun e=>(by cases e),fun i hi=>?_⟩;simp only [pickB] at h;split at h
  ·cases h
  ·rename_i v hv;split at h
   ·rename_i ha;injection h with h;subst h;rcases yh.1 hi with rfl | hi
    ·exact hv
    ·have:=y5.1 ha i hi;split at this
     ·rename_i y hy;rw [hy,rvBeq_eq this]
     ·cases this
   ·cases h
def nstepB (d:Option Nat) (x:FB) (s:pA) (k:pA->Option RV):Option RV:=match x.get s with
 | .ptr t n 0=>match (s.obj t n).bind xV with
  | some (tm,nm,N,seen)=>match (s.obj tm nm).bind BH with
   | some L=>if L.length=N then pickB (fun i=>match L[i]? with
     | some [y,v]=>if y.flat&&v.flat then k ((s.setObj t n (SY tm nm N (seen++[i]))).put d ⟨.tup [.bool true,y,v],.no⟩) else none
     | _=>none) (k (s.put d ⟨.tup [.bool false],.no⟩)) ((List.range N).filter fun i=>!seen.contains i) else none
   | none=>none
  | none=>none
 | _=>none
theorem U0 {d:Option Nat} {x:FB} {s:pA} {k:pA->Option RV} {r:RV} (h:nstepB d x s k=some r):IS d x s k=some r:=by
 unfold nstepB at h;unfold IS;split at h
 ·rename_i t n hx;simp only [hx];split at h
  ·rename_i tm nm N seen hi;simp only [hi];split at h
   ·rename_i L hL;simp only [hL];split at h
    ·rename_i hN;simp only [hN,if_true];obtain ⟨h1,h2⟩:=pickB_some _ h;exact TR _ h1 h2
    ·cases h
   ·cases h
  ·cases h
 ·cases h
def stepB (call:aB) (o:EA) (s:pA) (k:pA->Option RV):Option RV:=match o.op with
 | .callh ..=>none
 | .nxt x=>UH s o.dst o.guard (nstepB o.dst x s k) k
 | _=>(o.step call s).bind k
def opsB (call:aB):List EA->pA->(pA->Option RV)->Option RV
 | [],s,k=>k s
 | o :: r,s,k=>stepB call o s fun s=>opsB call r s k
def tZ (call:aB) (lp:LpT):C->pA->(Ex->pA->Option RV)->Option RV
 | .skip,s,k=>k .nrm s
 | .seq a b,s,k=>tZ call lp a s fun e s=>match e with
  | .nrm=>tZ call lp b s k
  | e=>k e s
 | .reg ops,s,k=>opsB call ops s fun s=>k .nrm { s with next:=s.next + 1 }
 | .cond c t e,s,k=>match c.get s with
  | .bool b=>if b then tZ call lp t s k else tZ call lp e s k
  | _=>none
 | .block id b,s,k=>tZ call lp b s fun e s=>match e with
  | .exit j=>if j=id then k .nrm s else k (.exit j) s
  | e=>k e s
 | .loop b,s,k=>lp b s k
 | .exit id,s,k=>k (.exit id) s
 | .ret,s,k=>k .ret s
theorem stepB_le {call:aB} {lh:LH} {o:EA} {s:pA} {k:pA->Option RV} {r:RV} (h:stepB call o s k=some r):o.stepK call lh s k=some r:=by
 obtain ⟨d,op,g⟩:=o;by_cases eb:isH op=true
 ·cases op with
  | callh nt x xs=>cases h
  | nxt x =>
   simp only [stepB,UH] at h;simp only [EA.stepK,UH];cases g with
   | none=>exact U0 h
   | some p =>
    obtain ⟨t,want⟩:=p;simp only at h ⊢;cases hv:(s.env t).v with
    | bool b =>
     rw [hv] at h;simp only at h ⊢;by_cases hb:b=want
     ·rw [if_pos hb] at h;simp only [if_pos hb];exact U0 h
     ·rw [if_neg hb] at h;simp only [if_neg hb];exact h
    | tup l=>rw [hv] at h; cases l with
     | nil=>exact h
     | cons=>cases h
    | _=>rw [hv] at h; cases h
  | _=>cases eb
 ·have eb:isH op=false:=by simpa using eb
  rw [rH eb];cases op <;> first | exact h | cases eb
theorem O0 {callA:aB} {callB:Nat->aB} {lhB:Nat->LH} (hc:∀ f args S r,callA f args S=some r->xB fun m=>callB m f args S=some r):∀ (ops:List EA) {s:pA} {k:pA->Option RV} {r:RV} {km:Nat->pA->Option RV},(∀ s' r',k s'=some r'->xB fun m=>km m s'=some r')->opsB callA ops s k=some r->xB fun m=>IF (callB m) (lhB m) ops s (km m)=some r
 | [],s,k,r,km,hk,h=>hk _ _ h
 | o :: l,s,k,r,km,hk,h=>nY (lhA:=⟨fun _ _ _=>none,fun _ _ _ _=>none⟩) hc (fun f xs s k r km _ h=>by cases h) o (km:=fun m s=>IF (callB m) (lhB m) l s (km m)) (fun s' r' h'=>O0 hc l hk h') (stepB_le h)
theorem jK {callA:aB} {lpA:LpT} {callB:Nat->aB} {sV:Nat->LH} (hc:∀ f args S r,callA f args S=some r->xB fun m=>callB m f args S=some r)
  (hl:∀ b s k r (km:Nat->Ex->pA->Option RV),(∀ e s' r',k e s'=some r'->xB fun m=>km m e s'=some r')->lpA b s k=some r->xB fun m=>sV m b s (km m)=some r) :
  ∀ (c:C) (s:pA) (k:Ex->pA->Option RV) (r:RV) (km:Nat->Ex->pA->Option RV),(∀ e s' r',k e s'=some r'->xB fun m=>km m e s'=some r')->tZ callA lpA c s k=some r->xB fun m=>c.run (callB m) (sV m) s (km m)=some r
 | .skip,s,k,r,km,hk,h=>hk _ _ _ h
 | .exit id,s,k,r,km,hk,h=>hk _ _ _ h
 | .ret,s,k,r,km,hk,h=>hk _ _ _ h
 | .seq a b,s,k,r,km,hk,h=>by
  refine jK hc hl a s _ r (fun m e s'=>match e with | .nrm=>b.run (callB m) (sV m) s' (km m) | e=>km m e s') (fun e s' r' h'=>?_) h;cases e with
  | nrm=>exact jK hc hl b s' k r' km hk h'
  | exit id=>exact hk _ _ _ h'
  | ret=>exact hk _ _ _ h'
 | .reg ops,s,k,r,km,hk,h=>by
  simp only [tZ] at h;simp only [C.run];exact O0 hc ops (km:=fun m s=>km m .nrm { s with next:=s.next + 1 }) (fun s' r' h'=>hk _ _ _ h') h
 | .cond x t e,s,k,r,km,hk,h=>by
  simp only [tZ] at h;simp only [C.run];cases hv:x.get s with
  | bool b =>
   rw [hv] at h;cases b with
   | true=>exact jK hc hl t s k r km hk (by simpa using h)
   | false=>exact jK hc hl e s k r km hk (by simpa using h)
  | _=>rw [hv] at h; cases h
 | .block id b,s,k,r,km,hk,h=>by
  refine jK hc hl b s _ r (fun m e s'=>match e with | .exit j=>if j=id then km m .nrm s' else km m (.exit j) s' | e=>km m e s') (fun e s' r' h'=>?_) h;cases e with
  | nrm=>exact hk _ _ _ h'
  | ret=>exact hk _ _ _ h'
  | exit j =>
   simp only at h' ⊢;by_cases e:j=id
   ·rw [if_pos e] at h'; simp only [if_pos e]; exact hk _ _ _ h'
   ·rw [if_neg e] at h'; simp only [if_neg e]; exact hk _ _ _ h'
 | .loop b,s,k,r,km,hk,h=>hl b s k r km hk h
def sV (call:aB):Nat->LpT
 | 0,_,_,_=>none
 | n + 1,b,s,k=>tZ call (sV call n) b s (PJ (sV call n) b k)
variable {T:Nat->Option qB} {ext:aB} {M:List ME}
theorem gX (hM:IA T ext M):∀ n b s k r (km:Nat->Ex->pA->Option RV),(∀ e s' r',k e s'=some r'->xB fun m=>km m e s'=some r')->sV (D7 M) n b s k=some r->xB fun m=>OJ T ext m b s (km m)=some r
 | 0,b,s,k,r,km,hk,h=>by cases h
 | n + 1,b,s,k,r,km,hk,h=>by
  unfold sV at h;refine xB.pred ((jK (sV:=fun m=>⟨OJ T ext m,FL T ext m⟩) (fun f args S r hl=>iS f args S _ (hM f args S _ hl)) (gX hM n) b s _ r (fun m=>PJ (OJ T ext m) b (km (m + 1))) (fun e s' r' h'=>?_) h).imp fun m hm=>?_)
  ·cases e with
   | nrm=>exact gX hM n b s' k r' (fun m=>km (m + 1)) (fun e s'' r'' h''=>(hk e s'' r'' h'').succ) h'
   | exit id=>exact (hk _ _ _ h').succ
   | ret=>exact (hk _ _ _ h').succ
  ·unfold OJ;exact hm
theorem IA.every (hM:IA T ext M) {f:Nat} {c:qB} (hT:T f=some c) {args:List AV} (ha:args.length=c.np) (hm:UI args=false) (hr:kP args=none) {r:RV} (N:Nat) (h:tZ (D7 M) (sV (D7 M) N) c.code (pA.init args none) (XN c none)=some r):UF T ext f args none=some r:=by
 obtain ⟨m,hm⟩:=(xB.pred (p:=fun m=>jD T ext m f args none=some r) ((jK (sV:=fun m=>⟨OJ T ext m,FL T ext m⟩) (km:=fun _=>XN c none) (fun f args S r hl=>iS f args S _ (hM f args S _ hl)) (gX hM N) c.code _ _ r (fun e s' r' h'=>xB.now h') h).imp fun m jd=>by
  unfold jD;rw [hT];simp only [hr];rw [if_pos ⟨ha,hm,rfl⟩];exact jd)).some
 exact dG.2 ⟨m,hm⟩
end
section
open Go.ChangeShapes Go.WideShapes Go.ChangeAt Go.RowKit
theorem own:ownKnob Tryz.prog.godebug=none:=by kernel_rfl
theorem laidOut:laidOutB Tryz.prog=true:=by kernel_rfl
theorem rZ {H:Type} {enc:TypeId × Value->H} {P:Program} {f:Func} {s:ChangeSpec} {apart fresh ov:Bool} {W W':World} {args:Array Value} {v:Value} {ds gs:List (DataW H)} {before pa pv:List MemPlace}
  (hW:DataW.Whole enc P f.params.toList s.vars apart W args.toList ds gs before)
  (md:∀ (b:Nat) (sp:Nat->Bool) (hd:Bool),DataW.TrodAll enc P W' b sp hd f.resultTypes.toList (v.resultList f.resultTypes.size) (s.fn H (ds++gs)).results [])
  (oc:DataW.TrodAll enc P W' 0 (fun b=>decide (b<W.heap.size)) true f.params.toList args.toList (s.fn H (ds++gs)).args pa)
  (hvars:DataW.TrodVars enc P W' (fun b=>decide (b<W.heap.size)) s.vars (s.fn H (ds++gs)).vars pv)
  (hb:Below W.heap.size W W'):s.post enc P f apart fresh ov false W args v W' :=
 ⟨ds,gs,before,[],pa,pv,hW,md _ _ _,oc,hvars,hb.frame _,fun h=>by cases h⟩
end
abbrev joinA (P:Program) (f:FuncId) (fn:Func) (s:ChangeSpec) (c:OpenClaim):Bool:=(c.wf (OpenSpec.ofChange s)&&laidOutB P&&mapsRowed P&&fn.params.all (P.readableRec ·)&&namedTie P c.named s.vars&&(c.stops == [])&&(P.stops == [])&&(c.knobs == [])&&(P.stopKnobs == []))
abbrev joinB (P:Program) (f:FuncId) (fn:Func) (s:ChangeSpec) (c:OpenClaim):Bool:=((c.inPlace == P.inPlace f)&&(c.unfollowed == P.unfollowed f))
abbrev joinC (P:Program) (f:FuncId) (fn:Func) (s:ChangeSpec) (c:OpenClaim):Bool:=((c.recurses == P.recurses f)&&(c.named == P.varsNamed f))
abbrev joinD (P:Program) (f:FuncId) (fn:Func) (s:ChangeSpec) (c:OpenClaim):Bool:=((c.maps == (fn.params.toList++s.plain.varTypes P).any (P.mapsRec ·))&&(c.ifaces == (fn.params.toList++s.plain.varTypes P).any (P.ifacesRec ·))&&(c.mapsOut == P.mapsAmong fn.resultTypes.toList)&&(c.loops == (fn.params.toList++s.plain.varTypes P).any (P.loopsFrom ·))&&(c.wideKeys == (fn.params.toList++s.plain.varTypes P++fn.resultTypes.toList).any (P.wideKeysFrom ·))&&s.vars.all (P.varReadable ·)&&fn.resultTypes.all (fun t=>P.readableRec t&&decide (t<P.types.size))&&(c.ifacesOut == fn.resultTypes.toList.any (P.ifacesRec ·))&&(c.loopsOut == fn.resultTypes.toList.any (P.loopsFrom ·))&&(c.plainKeys == P.plainKeys)&&c.shortTexts.isNone&&P.stopsHeard)
abbrev joinE (P:Program) (f:FuncId) (fn:Func) (s:ChangeSpec) (c:OpenClaim):Bool:=P.mayEnter
abbrev joinF (P:Program) (f:FuncId) (fn:Func) (s:ChangeSpec) (c:OpenClaim):Bool:=(c.lifted == P.liftsFinal)
abbrev joinG (P:Program) (f:FuncId) (fn:Func) (s:ChangeSpec) (c:OpenClaim):Bool:=((P.make == some c.make)&&(c.kinds == (if c.domain.isEmpty then [] else fn.params.toList.map fun t=>match P.underlying t with | some (.int k)=>some k | _=>none))&&(c.pinned == c.pinnedBy)&&(c.veiled == (fn.params.toList++s.plain.varTypes P++fn.resultTypes.toList).any (P.veiledRec ·))&&c.veiledFits P fn.params.toList (fn.params.toList++s.plain.varTypes P++fn.resultTypes.toList))
theorem joined_of {P:Program} {f:FuncId} {fn:Func} {s:ChangeSpec} {c:OpenClaim} (h1:joinA P f fn s c=true) (h2:joinB P f fn s c=true) (tl:joinC P f fn s c=true) (h3:joinD P f fn s c=true) (h4:joinE P f fn s c=true) (h5:joinF P f fn s c=true) (h6:joinG P f fn s c=true):joinedFacts P f fn s c=true:=by
 have e:joinedFacts P f fn s c=((c.wf (OpenSpec.ofChange s)&&laidOutB P&&mapsRowed P&&fn.params.all (P.readableRec ·)&&namedTie P c.named s.vars&&(c.stops == [])&&(P.stops == [])&&(c.knobs == [])&&(P.stopKnobs == []))&&(((c.inPlace == P.inPlace f)&&(c.unfollowed == P.unfollowed f))&&(((c.recurses == P.recurses f)&&(c.named == P.varsNamed f))&&(((c.maps == (fn.params.toList++s.plain.varTypes P).any (P.mapsRec ·))&&(c.ifaces == (fn.params.toList++s.plain.varTypes P).any (P.ifacesRec ·))&&(c.mapsOut == P.mapsAmong fn.resultTypes.toList)&&(c.loops == (fn.params.toList++s.plain.varTypes P).any (P.loopsFrom ·))&&(c.wideKeys == (fn.params.toList++s.plain.varTypes P++fn.resultTypes.toList).any (P.wideKeysFrom ·))&&s.vars.all (P.varReadable ·)&&fn.resultTypes.all (fun t=>P.readableRec t&&decide (t<P.types.size))&&(c.ifacesOut == fn.resultTypes.toList.any (P.ifacesRec ·))&&(c.loopsOut == fn.resultTypes.toList.any (P.loopsFrom ·))&&(c.plainKeys == P.plainKeys)&&c.shortTexts.isNone&&P.stopsHeard)&&(P.mayEnter&&((c.lifted == P.liftsFinal)&&((P.make == some c.make)&&(c.kinds == (if c.domain.isEmpty then [] else fn.params.toList.map fun t=>match P.underlying t with | some (.int k)=>some k | _=>none))&&(c.pinned == c.pinnedBy)&&(c.veiled == (fn.params.toList++s.plain.varTypes P++fn.resultTypes.toList).any (P.veiledRec ·))&&c.veiledFits P fn.params.toList (fn.params.toList++s.plain.varTypes P++fn.resultTypes.toList)))))))):=by
  simp only [joinedFacts,Bool.and_assoc];rfl
 dsimp only [joinA,joinB,joinC,joinD,joinE,joinF,joinG] at h1 h2 tl h3 h4 h5 h6;rw [e,h1,h2,tl,h3,h4,h5,h6];rfl
end Go.Proofs.YtbnlmgncbgaepaaGreat
