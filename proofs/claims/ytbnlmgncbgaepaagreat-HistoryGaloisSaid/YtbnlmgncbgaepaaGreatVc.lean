/- Part of the proof: the machine, the code of functions, and what it computes. -/
import Derived.Test.YtbnlmgncbgaepaaGreatVb
import Derived.LoopN
import Derived.Deep.Slices
import Derived.Deep.Fields
import Derived.ChangeSame
import Derived.OpenShut
import Derived.Carry
import Derived.ChangeOld
import Derived.SizedLaws
import Derived.Test.YtbnlmgncbgaepaaGreatChecked
import Derived.Lib.Builder
import Derived.Lib.UnsafeStr
import Derived.Shelf.RegionOpenPlain
import Derived.Lib.Zigzag
set_option linter.unusedSimpArgs false
set_option linter.unusedVariables false
set_option linter.unusedSectionVars false
set_option maxRecDepth 100000
set_option maxHeartbeats 8000000
open Option renaming bind_some → y0, bind_eq_some_iff → y4, map_eq_some_iff → y9, map_some → yf
open List renaming map_map → y3, all_eq_true → y5, range_succ → y6, getElem?_eq_some_iff → yb, mem_cons_self → yd, map_cons → yg, getElem?_eq_getElem → yj, flatten_cons → yl, mem_cons_of_mem → ym, length_append → yp, getElem?_map → yq, map_congr_left → yr, length_map → yt, mem_cons → yu, length_cons → yx, size_toArray → yy, length_take → yz, getElem?_take → yB, getElem?_append_left → yC, getElem?_drop → yD
open Int renaming toNat_lt → y7
open Bool renaming and_eq_true → y8, false_eq_true → yk
open Nat renaming le_refl → yc, le_trans → ye, succ_mul → yh, zero_add → yi, lt_of_lt_of_le → yw, mul_le_mul_right → yF
open Array renaming getD_eq_getD_getElem? → yG
namespace Go.Proofs.YtbnlmgncbgaepaaGreat
open Go
section
open Go Go.RowKit
section
variable {P:Program} {O:Objs} {nt B:Nat} {F0:Own} {av0:Av} {w0:World} {s s':MSt} {a:Act} {w w':World} {call:q09} {lp:LH}
def exOf:Ex->Exit
 | .nrm=>.normal
 | .exit id=>.exit id
 | .ret=>.ret
def LpOk (P:Program) (O:Objs) (N:Nat) (lp:LpT):Prop :=
 ∀ (boxes:List Nat) (nt B:Nat) (F0:Own) (av0:Av) (w0:World) (code:Code) (b:C) (s:MSt) (k:Ex->MSt->Option RV) (r:RV) (a:Act) (w:World) (Q:Exit->Act->World->Prop),comp P boxes nt code=some b->lp b s k=some r->RelE P O nt B F0 av0 w0 (fun _=>False) s a w →
  (∀ e s' a' w',RelE P O nt B F0 av0 w0 (fun _=>False) s' a' w'->k e s'=some r->Q (exOf e) a' w')->Code.rounds P code Q N a w
theorem q0M (hm:P.follows .mixedOrders=true) (hcall:∀ f args S r,call f args S=some r->q0n P O f args S r) {N:Nat} (hlp:LpOk P O N lp.l) (hhp:HpOk P O lp.h) {boxes:List Nat} :
  ∀ (code:Code) (c:C) (s:MSt) (k:Ex->MSt->Option RV) (r:RV) (a:Act) (w:World) (Q:Exit->Act->World->Prop),comp P boxes nt code=some c->c.run call lp s k=some r->RelE P O nt B F0 av0 w0 (fun _=>False) s a w →
   (∀ e s' a' w',RelE P O nt B F0 av0 w0 (fun _=>False) s' a' w'->k e s'=some r->Q (exOf e) a' w')->code.wp P Q a w
 | .skip,c,s,k,r,a,w,Q,hc,hr,R,hk=>by
  injection hc with hc;subst hc;exact wp_skip (hk .nrm s a w R hr)
 | .seq x y,c,s,k,r,a,w,Q,hc,hr,R,hk=>by
  unfold comp at hc;split at hc
  ·rename_i cx cy hx hy;injection hc with hc;subst hc;refine wp_seq (q0M hm hcall hlp hhp x cx s _ r a w _ hx hr R fun e s' a' w' R' he=>?_);cases e with
   | nrm=>exact q0M hm hcall hlp hhp y cy s' k r a' w' Q hy he R' hk
   | exit id=>exact hk _ _ _ _ R' he
   | ret=>exact hk _ _ _ _ R' he
  ·cases hc
 | .region id ops draw,c,s,k,r,a,w,Q,hc,hr,R,hk=>by
  unfold comp at hc;split at hc
  ·rename_i cs hcs;split at hc
   ·rename_i hok;injection hc with hc;subst hc;simp only [y8,Bool.or_eq_true] at hok;simp only [C.run] at hr;exact region_sound hm hcall hhp hcs hok.1 (fun h=>by rcases hok.2 with h' | h'; rw [h] at h'; cases h'; exact h') R hr fun s' a' w' R' hk'=>hk .nrm _ _ _ R' hk'
   ·cases hc
  ·cases hc
 | .cond x t e,c,s,k,r,a,w,Q,hc,hr,R,hk=>by
  unfold comp at hc;split at hc
  ·rename_i cx ct ce hx ht he;injection hc with hc;subst hc;simp only [C.run] at hr;split at hr
   ·rename_i b hb;have hv:a.eval x=.bool b:=by
     obtain ⟨ι,Θ,R⟩:=R;have:=(R.opd hx).1
     rwa [hb,q06] at this
    cases b with
    | true=>exact wp_cond_true hv (q0M hm hcall hlp hhp t ct s k r a w Q ht (by simpa using hr) R hk)
    | false=>exact wp_cond_false hv (q0M hm hcall hlp hhp e ce s k r a w Q he (by simpa using hr) R hk)
   ·cases hr
  ·cases hc
 | .block id b,c,s,k,r,a,w,Q,hc,hr,R,hk=>by
  unfold comp at hc;obtain ⟨cb,hb,rfl⟩:=y9.1 hc;refine wp_block (q0M hm hcall hlp hhp b cb s _ r a w _ hb hr R fun e s' a' w' R' he=>?_);cases e with
  | nrm=>exact hk _ _ _ _ R' he
  | ret=>exact hk _ _ _ _ R' he
  | exit j =>
   simp only at he;show Exit.inBlock id Q (.exit j) a' w';unfold Exit.inBlock;split at he
   ·rename_i e; simp only [e,if_true]; exact hk _ _ _ _ R' he
   ·rename_i e; simp only [e,if_false]; exact hk _ _ _ _ R' he
 | .loop b,c,s,k,r,a,w,Q,hc,hr,R,hk=>by
  unfold comp at hc;obtain ⟨cb,hb,rfl⟩:=y9.1 hc;exact wp_loop_rounds N (hlp boxes nt B F0 av0 w0 b cb s k r a w Q hb hr R hk)
 | .exit id,c,s,k,r,a,w,Q,hc,hr,R,hk=>by
  injection hc with hc;subst hc;exact wp_exit (hk (.exit id) s a w R hr)
 | .ret,c,s,k,r,a,w,Q,hc,hr,R,hk=>by
  injection hc with hc;subst hc;exact wp_ret (hk .ret s a w R hr)
 | .scope b,c,s,k,r,a,w,Q,hc,hr,R,hk=>by
  unfold comp at hc;refine wp_scope_straight (q0M hm hcall hlp hhp b c s k r a w _ hc hr R fun e s' a' w' R' he=>?_);have:=hk _ _ _ _ R' he;cases e <;> exact this
 | .rangeFunc ..,_,_,_,_,_,_,_,hc,_,_,_=>by cases hc
 | .label _,_,_,_,_,_,_,_,hc,_,_,_=>by cases hc
 | .goto _,_,_,_,_,_,_,_,hc,_,_,_=>by cases hc
 | .refuse _,_,_,_,_,_,_,_,hc,_,_,_=>by cases hc
theorem rep_of_S {ι:Ix} {av:Av} {x:AV} {v:Value} (h:RepS ι av (fun _ _=>False) w x v) (hx:x.free=true):Rep av w x v:=by
  cases x <;> first
    | exact h
    | (simp [AV.free,AV.free0] at hx; done)
    | (obtain ⟨us,hv,hc⟩:=h
       exact ⟨us,hv,q1h hc fun y hy=>y5.1 hx y hy⟩)
theorem RepT_length {av:Av}:∀ {xs:List AV} {us:List Value},RepT av w xs us->us.length=xs.length
 | [],_,h=>by simp only [RepT] at h; subst h; rfl
 | x :: r,_,h=>by
  simp only [RepT] at h;obtain ⟨u,us',rfl,_,h⟩:=h;simp [RepT_length h]
theorem q64 {p:Nat} {av:Av}:∀ {xs:List AV} {us:List Value},q4F p av w xs us->us.length=xs.length
 | [],_,h=>by simp only [q4F] at h; subst h; rfl
 | x :: r,_,h=>by
  simp only [q4F] at h;obtain ⟨u,us',rfl,_,h⟩:=h;simp [q64 h]
def q5D (ι:Ix) (av avb:Av) (w:World):List AV->List Value->Prop
 | [],us=>us=[]
 | x :: r,us=>∃ u us',us=u :: us'/\RepS ι av avb w x u/\q5D ι av avb w r us'
theorem RepS.toRep {ι:Ix} {av av' avb:Av} {x:AV} {v:Value} (h:RepS ι av avb w x v) (hx:x.free=true) (hav:∀ b o,av' b o->av b o):Rep av' w x v :=
 Rep.held (Held.less hav) _ _ (rep_of_S (free_rep (ι':=ι) h hx) hx)
theorem q5D.toT {ι:Ix} {av av' avb:Av} (hav:∀ b o,av' b o->av b o):∀ {xs:List AV} {us:List Value},q5D ι av avb w xs us->(∀ v∈xs,v.free=true)->RepT av' w xs us
 | [],_,h,_=>h
 | x :: r,_,h,hf=>by
  simp only [q5D] at h;obtain ⟨u,us',rfl,h0,h⟩:=h;exact ⟨u,us',rfl,h0.toRep (hf x yd) hav,h.toT hav fun v hv=>hf v (ym _ hv)⟩
theorem unname_ptr {t n:Nat} {x:AV} (h:(q2A t n x).isObj=true):x=.ptr t n 0:=by
 cases x with
 | ptr t' n' o =>
  simp only [q2A] at h;split at h
  ·rename_i e; obtain ⟨rfl,rfl,rfl⟩:=e; rfl
  ·cases h
 | _=>cases h
theorem unname_free {t n:Nat} {x:AV} (h:(q2A t n x).free=true):q2A t n x=x:=by
 cases x with
 | ptr t' n' o =>
  simp only [q2A] at h;split at h <;> cases h
 | _=>rfl
theorem q5D.toO {ι:Ix} {av av' avb:Av} {t n p:Nat} (hp:ι t n=some p) (hav:∀ b o,av' b o->av b o):∀ {xs:List AV} {us:List Value},q5D ι av avb w xs us->(∀ v∈xs,((q2A t n v).free||(q2A t n v).isObj)=true)->q4F p av' w (xs.map (q2A t n)) us
 | [],_,h,_=>h
 | x :: r,_,h,hf=>by
  simp only [q5D] at h;obtain ⟨u,us',rfl,h0,h⟩:=h;refine ⟨u,us',rfl,?_,h.toO hp hav fun v hv=>hf v (ym _ hv)⟩;have h1:=hf x yd;unfold RepO;split
  ·rename_i ho;have:=unname_ptr ho;subst this;obtain ⟨b,hb,hv⟩:=h0;rw [hp] at hb;injection hb with hb;rw [hv,hb]
  ·rename_i ho;have hfr:(q2A t n x).free=true:=by
    rcases Bool.or_eq_true_iff.1 h1 with h | h
    ·exact h
    ·exact absurd h ho
   have hsame:=unname_free hfr;rw [hsame] at hfr ⊢;exact h0.toRep hfr hav
def avF (s:MSt) (av:Av) (ι:Ix):Av:=fun b o=>av b o/\¬ ∃ t n r,s.mem t n=some r/\ι t n=some b
theorem RepC.frz1 {D:Nat->Prop} {ι:Ix} {Θ:Fam} (R:Rel P O nt B F0 av0 w0 D s a w ι Θ) {x:AV} {u:Value} (h:RepC ι (avA av0 ι Θ) w x u):RepC ι (avF s (avA av0 ι Θ) ι) w (x.frz1 s) u:=by
 have less:Held (avA av0 ι Θ) (avF s (avA av0 ι Θ) ι) w w:=Held.less fun b o h=>h.1
 have same:=RepC.held (Ix.Le.refl ι) less x u h;cases x with
 | ref t n sz off len c =>
  simp only [AV.frz1];split
  ·rename_i l hl;obtain ⟨r,hm,hl⟩:=y4.1 hl;obtain ⟨b,hb,hle,cc,hcc,hz,hv⟩:=h;obtain ⟨hno,b',cur,ty,hb',hheap,hrow,_⟩:=R.rows t n r hm;rw [hb] at hb';injection hb' with hb';subst hb';obtain ⟨h1,h2,us,hL,hus⟩:=q2e hrow hheap hl;subst h1;show Rep _ w (.sl false l) u;simp only [Rep];refine ⟨_,cc,hv,ye hle hcc,fun x hx y hy=>(h2 x hx).trans (h2 y hy).symm,(fun h=>by cases h),fun _=>⟨fun h=>(by cases h),fun _=>⟨b,off,rfl,?_⟩⟩⟩;rw [q0T];exact q2k (RepL.held less _ _ hL) fun j u hj=>⟨hus j u hj,fun h=>h.2 ⟨t,n,r,hm,hb⟩⟩
  ·exact same
 | _=>exact same
theorem q04.frz1 {D:Nat->Prop} {ι:Ix} {Θ:Fam} (R:Rel P O nt B F0 av0 w0 D s a w ι Θ):∀ {xs:List AV} {us:List Value},q04 ι (avA av0 ι Θ) w xs us->q04 ι (avF s (avA av0 ι Θ) ι) w (xs.map (AV.frz1 s)) us
 | [],_,h=>h
 | x :: r,_,h=>by
  simp only [q04] at h;obtain ⟨u,us',rfl,h0,h1,h⟩:=h;exact ⟨u,us',rfl,h0.frz1 R,h1,h.frz1 R⟩
theorem RepC.frz {D:Nat->Prop} {ι:Ix} {Θ:Fam} (R:Rel P O nt B F0 av0 w0 D s a w ι Θ) {x:AV} {u:Value} (h:RepC ι (avA av0 ι Θ) w x u):RepC ι (avF s (avA av0 ι Θ) ι) w (x.frz0 s) u:=by
 have less:Held (avA av0 ι Θ) (avF s (avA av0 ι Θ) ι) w w:=Held.less fun b o h=>h.1
 have same:=RepC.held (Ix.Le.refl ι) less x u h;cases x with
 | ref t n sz off len c =>
  simp only [AV.frz0];split
  ·rename_i l hl;obtain ⟨r,hm,hl⟩:=y4.1 hl;obtain ⟨b,hb,hle,cc,hcc,hz,hv⟩:=h;obtain ⟨hno,b',cur,ty,hb',hheap,hrow,_⟩:=R.rows t n r hm;rw [hb] at hb';injection hb' with hb';subst hb';obtain ⟨h1,h2,us,hL,hus⟩:=q2e hrow hheap hl;subst h1;show Rep _ w (.sl false l) u;simp only [Rep];refine ⟨_,cc,hv,ye hle hcc,fun x hx y hy=>(h2 x hx).trans (h2 y hy).symm,(fun h=>by cases h),fun _=>⟨fun h=>(by cases h),fun _=>⟨b,off,rfl,?_⟩⟩⟩;rw [q0T];exact q2k (RepL.held less _ _ hL) fun j u hj=>⟨hus j u hj,fun h=>h.2 ⟨t,n,r,hm,hb⟩⟩
  ·split
   ·rename_i l hl;obtain ⟨r,hm,hl⟩:=y4.1 hl;obtain ⟨l0,hl0,hl⟩:=y4.1 hl;split at hl
    ·rename_i hfree;injection hl with hl;subst hl;obtain ⟨b,hb,hle,cc,hcc,hz,hv⟩:=h;obtain ⟨hno,b',cur,ty,hb',hheap,hrow,_⟩:=R.rows t n r hm;rw [hb] at hb';injection hb' with hb';subst hb';obtain ⟨h1,h2,us,hL,hus⟩:=q4Y hrow hheap hl0;subst h1;have hL1:=q04.frz1 R hL;rw [List.map_flatten] at hL1;have hL2:=q1h hL1 fun x hx=>y5.1 hfree x hx
     show Rep _ w (.sl false _) u;simp only [Rep];refine ⟨_,cc,by rw [yt]; exact hv,by rw [yt]; exact ye hle hcc,fun x hx y hy=>?_,(fun h=>by cases h),fun _=>⟨fun h=>(by cases h),fun _=>⟨b,off,rfl,?_⟩⟩⟩
     ·obtain ⟨x',hx',rfl⟩:=List.mem_map.1 hx;obtain ⟨y',hy',rfl⟩:=List.mem_map.1 hy;rw [yt,yt,h2 x' hx',h2 y' hy']
     ·rw [q0T];exact q2k hL2 fun j u hj=>⟨hus j u hj,fun h=>h.2 ⟨t,n,r,hm,hb⟩⟩
    ·cases hl
   ·exact same
 | _=>exact same
theorem q04.frz {D:Nat->Prop} {ι:Ix} {Θ:Fam} (R:Rel P O nt B F0 av0 w0 D s a w ι Θ):∀ {xs:List AV} {us:List Value},q04 ι (avA av0 ι Θ) w xs us->q04 ι (avF s (avA av0 ι Θ) ι) w (xs.map (AV.frz0 s)) us
 | [],_,h=>h
 | x :: r,_,h=>by
  simp only [q04] at h;obtain ⟨u,us',rfl,h0,h1,h⟩:=h;exact ⟨u,us',rfl,h0.frz R,h1,h.frz R⟩
theorem RepS.frz {D:Nat->Prop} {ι:Ix} {Θ:Fam} (R:Rel P O nt B F0 av0 w0 D s a w ι Θ) {x:AV} {u:Value} (h:RepS ι (avA av0 ι Θ) (avB ι Θ) w x u):RepS ι (avF s (avA av0 ι Θ) ι) (avB ι Θ) w (x.frz s) u:=by
 have less:Held (avA av0 ι Θ) (avF s (avA av0 ι Θ) ι) w w:=Held.less fun b o h=>h.1
 have same:=RepS.held (Ix.Le.refl ι) less (Held.refl _ _) x u h;cases x with
 | agg cs=>obtain ⟨us,hv,hc⟩:=h; exact ⟨us,hv,hc.frz R⟩
 | ref t n sz off len c =>
  have:=RepC.frz R (x:=.ref t n sz off len c) h;show RepS _ _ _ w (AV.frz0 s (.ref t n sz off len c)) u;generalize hy:AV.frz0 s (.ref t n sz off len c)=y at this ⊢;simp only [AV.frz0] at hy;split at hy
  ·subst hy; exact this
  ·split at hy <;> (subst hy; exact this)
 | _=>exact same
theorem q5D.frz {D:Nat->Prop} {ι:Ix} {Θ:Fam} (R:Rel P O nt B F0 av0 w0 D s a w ι Θ):∀ {xs:List AV} {us:List Value},q5D ι (avA av0 ι Θ) (avB ι Θ) w xs us->q5D ι (avF s (avA av0 ι Θ) ι) (avB ι Θ) w (xs.map (AV.frz s)) us
 | [],_,h=>h
 | x :: r,_,h=>by
  simp only [q5D] at h;obtain ⟨u,us',rfl,h0,h⟩:=h;exact ⟨u,us',rfl,h0.frz R,h.frz R⟩
def packV (us:List Value):Value:=if h:us.toArray.size=1 then us.toArray[0] else .tuple us.toArray
theorem pack_rep {av:Av}:∀ {xs:List AV} {us:List Value},RepT av w xs us->Rep av w (pack xs) (packV us)
 | [],us,h=>by simp only [RepT] at h; subst h; exact ⟨#[],rfl,rfl⟩
 | [x],us,h=>by
  simp only [RepT] at h;obtain ⟨u,us',rfl,h0,rfl⟩:=h;exact h0
 | x :: y :: r,us,h=>by
  have hl:=RepT_length h;have:¬ us.toArray.size=1:=by simp; simp at hl; omega
  unfold packV;rw [dif_neg this];exact ⟨_,rfl,h⟩
theorem pack_repN {p:Nat} {av:Av}:∀ {xs:List AV} {us:List Value},q4F p av w xs us->(∀ v∈xs,(v.free||v.isObj)=true)->RepN p av w (pack xs) (packV us)
 | [],us,h,_=>by simp only [q4F] at h; subst h; exact ⟨#[],rfl,rfl⟩
 | [x],us,h,hf=>by
  simp only [q4F] at h;obtain ⟨u,us',rfl,h0,rfl⟩:=h;have:=hf x yd;cases x with
  | tup vs=>cases this
  | _=>exact h0
 | x :: y :: r,us,h,_=>by
  have hl:=q64 h;have:¬ us.toArray.size=1:=by simp; simp at hl; omega
  unfold packV;rw [dif_neg this];exact ⟨_,rfl,h⟩
def q5y (tmps:Array Value):ResultVar->Sem Value
 | .tmp t=>pure (tmps.getD t undef)
 | .cell b t=>do loadVar t (<- asAddr (tmps.getD b undef))
theorem res_run {D:Nat->Prop} {ι:Ix} {Θ:Fam} (R:Rel P O nt B F0 av0 w0 D s a w ι Θ):∀ {rs:List ResultVar} {cs:List ResC} {vs:List AV},q31 P rs=some cs->resC s cs=some vs →
  ∃ us,(rs.mapM (q5y a.tmps)).run P w=Result.ok us w/\q5D ι (avA av0 ι Θ) (avB ι Θ) w vs us
 | [],cs,vs,h,hr=>by
  injection h with h;subst h;injection hr with hr;subst hr;exact ⟨[],by simp,rfl⟩
 | .tmp t :: rs,cs,vs,h,hr=>by
  unfold q31 at h;obtain ⟨l,hl,rfl⟩:=y9.1 h;simp only [resC] at hr;obtain ⟨vs',hv,rfl⟩:=y9.1 hr;obtain ⟨us,hu,hT⟩:=res_run R hl hv;refine ⟨a.tmps.getD t undef :: us,by rw [List.mapM_cons]; simp only [q5y,Sem.run_bind,Sem.run_pure,Result.andThen_ok,hu],_,us,rfl,R.env t,hT⟩
 | .cell b t :: rs,cs,vs,h,hr=>by
  unfold q31 at h;split at h
  ·rename_i ag z l hA hz hl;injection h with h;subst h;simp only [resC] at hr;split at hr
   ·rename_i t' n off hb;cases hm:s.mem t' n with
    | none=>rw [hm] at hr; cases hr
    | some row =>
     rw [hm,y0] at hr;obtain ⟨x,hx,hr⟩:=y4.1 hr;obtain ⟨vs',hv,rfl⟩:=y9.1 hr;obtain ⟨us,hu,hT⟩:=res_run R hl hv;have hv:=R.env b;rw [hb,q0S] at hv;obtain ⟨bb,hbb,hv⟩:=hv;obtain ⟨hnob,b',cur,ty,hb',hheap,hrow,_⟩:=R.rows t' n row hm;rw [hbb] at hb';injection hb' with hb';subst hb';have hcell:∀ (j:Nat) (u:Value),((cur.toList.take row.length).drop off)[j]?=some u->w.cell? ⟨bb,off + j,none⟩=some u:=fun j u hu=>by
      rw [cell_of_row w bb (off + j) cur ty (0,0) hheap];rw [yD,yB] at hu;split at hu
      ·simpa using hu
      ·cases hu
     have hrep:=q0L off hrow.rep;have hi:q1N ag z ((row.map (·.v)).drop off)=some x.v:=by
      cases ag with
      | true =>
       simp only [q41,if_true] at hx;split at hx
       ·rename_i hle;injection hx with hx;subst hx;simp only [q1N,if_true,List.length_drop,yt];rw [if_pos (by omega)];simp [List.map_take,List.map_drop]
       ·cases hx
      | false =>
       simp only [q41,yk,if_false] at hx;simp [q1N,yD,hx]
     obtain ⟨u,hrun,hS,_⟩:=q5k (P:=P) (avb:=avB ι Θ) hA hz hrep hcell hi;refine ⟨u :: us,by rw [List.mapM_cons]; simp only [q5y,Sem.run_bind,hv,asAddr,Sem.run_pure,Result.andThen_ok,hrun,hu],_,us,rfl,hS,hT⟩
   ·cases hr
  ·cases h
structure FnOk (P:Program) (f:FuncId) (c:FnC):Prop where
 enter:∀ xs w,(callFunc f xs).run P w=.ok (.enter f xs) w
 fn:∃ fn,P.funcs[f]?=some fn/\compF P c.mu fn=some c
theorem RepA_length {ι:Ix} {av avl:Av}:∀ {xs:List AV} {us:List Value},RepA ι av avl w xs us->us.length=xs.length
 | [],_,h=>by simp only [RepA] at h; subst h; rfl
 | x :: r,_,h=>by
  simp only [RepA] at h;obtain ⟨u,us',rfl,_,h⟩:=h;simp [RepA_length h]
theorem RepA_get {ι:Ix} {av avl:Av}:∀ {xs:List AV} {us:List Value} (_:RepA ι av avl w xs us) (t:Nat),RepS ι av avl w (xs.getD t .undef) (us.getD t undef)
 | [],_,_,_=>by simp [RepS]
 | x :: r,_,h,t=>by
  simp only [RepA] at h;obtain ⟨u,us',rfl,h0,h⟩:=h;cases t with
  | zero=>simpa using h0
  | succ t=>simpa using RepA_get h t
theorem init_size {vs:List Value} {args:List AV} {ι:Ix} {av avl:Av} {np:Nat} (h:RepA ι av avl w args vs) (hl:args.length=np) (hn:np<=nt):(vs.toArray++Array.replicate (nt - vs.toArray.size) undef).size=nt:=by
 have:=RepA_length h;simp;omega
theorem init_env {vs:List Value} {args:List AV} {ι ι':Ix} {av av' avb avl:Av} {S0:Option AV} (h:RepA ι av avl w args vs) (hι:Ix.Le ι ι') (hA:Held av av' w w) (hB:Held avl avb w w) (t:Nat) :
  RepS ι' av' avb w ((MSt.init args S0).env t).v ((vs.toArray++Array.replicate (nt - vs.toArray.size) undef).getD t undef):=by
 have h1:=RepS.held hι hA hB _ _ (RepA_get h t);have h2:(vs.toArray++Array.replicate (nt - vs.toArray.size) undef).getD t undef=vs.getD t undef:=by
  simp only [yG,List.getD_eq_getElem?_getD,Array.getElem?_append,yy,List.getElem?_toArray];split
  ·rfl
  ·rename_i hge;rw [List.getElem?_eq_none (by omega)];simp only [Array.getElem?_replicate];split <;> rfl
 rw [h2];exact h1
theorem init_none {vs:List Value} {args:List AV} {av:Av} {np:Nat} (h:RepA Ix.none av (fun _ _=>False) w args vs) (hav:∀ b o,av b o->b<w.heap.size) (hl:args.length=np) (hn:np<=nt) :
  RelE P O nt w.heap.size ⟨fun _=>False,none,fun _=>False,0,fun _=>undef⟩ av w (fun _=>False) (MSt.init args none) { tmps:=vs.toArray++Array.replicate (nt - vs.toArray.size) undef,defers:=[] } w:=by
 have hB0:∀ b o,avB Ix.none (fun _=>none) b o->False:=fun b o h=>by rcases h with (⟨t,n,h⟩ | ⟨t,n,H,h,_⟩) | ⟨k,ow,h,_⟩ <;> cases h
 have hA:Held av (avA av Ix.none (fun _=>none)) w w:=Held.less fun b o h=>h.resolve_right (hB0 b o)
 have hB:Held (fun _ _=>False) (avB Ix.none (fun _=>none)) w w:=Held.less fun b o h=>hB0 b o h
 exact ⟨Ix.none,fun _=>none,rfl,init_size h hl hn,fun t=>init_env h (Ix.Le.refl _) hA hB t,fun t=>trivial,fun t n r h=>(by cases h),fun t n b h=>(by cases h),fun _ _ _ _ _ h=>(by cases h),fun _ _ h=>(by cases h),fun _ _ _ _ h=>(by cases h),fun _ _ _ _ h=>(by cases h),hav,fun _ h=>(by cases h),Keep.refl _ _,rfl,fun t n S h=>(by simp [MSt.init] at h),fun t n H h=>(by cases h),fun _=>trivial,fun _=>trivial⟩
theorem init_some {vs:List Value} {args:List AV} {av:Av} {np p:Nat} {H:Nat->Prop} {S:AV} (h:RepA (Ix.one p) av (fun b _=>H b) w args vs) (hav:∀ b o,av b o->b<w.heap.size) (hH:∀ b o,H b->av b o) (hat:O.at_ S H p w) (hni:noIt S=true) (hl:args.length=np) (hn:np<=nt) :
  RelE P O nt w.heap.size ⟨H,some p,fun _=>False,0,fun _=>undef⟩ av w (fun _=>False) (MSt.init args (some S)) { tmps:=vs.toArray++Array.replicate (nt - vs.toArray.size) undef,defers:=[] } w:=by
 obtain ⟨ι,hι⟩:∃ ι:Ix,ι=⟨fun t n=>if t=0/\n=0 then some p else none,fun t n=>if t=0/\n=0 then some H else none,fun _=>0⟩:=⟨_,rfl⟩;have hf:∀ t n b,ι t n=some b->t=0/\n=0/\b=p:=fun t n b h=>by
  subst hι;have h':(if t=0/\n=0 then some p else none)=some b:=h;split at h'
  ·rename_i e; injection h' with h'; exact ⟨e.1,e.2,h'.symm⟩
  ·cases h'
 have ho:∀ t n H1,ι.ob t n=some H1->t=0/\n=0/\H1=H:=fun t n b h=>by
  subst hι;simp only at h;split at h
  ·rename_i e; injection h with h'; exact ⟨e.1,e.2,h'.symm⟩
  ·cases h
 have h0:ι 0 0=some p:=by subst hι; rfl
 have h1:ι.ob 0 0=some H:=by subst hι; rfl
 have hsub:∀ t n b,Ix.one p t n=some b->ι t n=some b:=fun t n b h=>by subst hι; exact h
 have hle:Ix.Le (Ix.one p) ι:=⟨hsub,fun _ _ _ _=>by subst hι; rfl⟩;clear hι;have hpH:=O.main hat;have hB0:∀ b o,avB ι (fun _=>none) b o->H b:=fun b o h=>by
  rcases h with (⟨t,n,h⟩ | ⟨t,n,H1,h,hb⟩) | ⟨k,ow,h,_⟩
  ·rw [(hf _ _ _ h).2.2]; exact hpH
  ·rw [(ho _ _ _ h).2.2] at hb; exact hb
  ·cases h
 have hA:Held av (avA av ι (fun _=>none)) w w:=Held.less fun b o h=>h.elim id fun h=>hH b o (hB0 b o h)
 refine ⟨ι,fun _=>none,rfl,init_size h hl hn,fun t=>?_,fun t=>trivial,fun t n r h=>(by cases h),fun t n b h=>?_,fun t n t' n' b h h'=>?_,fun _ _ h=>(by cases h),fun _ _ _ _ h=>(by cases h),fun _ _ _ _ h=>(by cases h),hav,fun q h=>?_,Keep.refl _ _,rfl,fun t n S1 h=>?_,fun t n H1 h=>?_,fun _=>trivial,fun _=>trivial⟩
 ·exact init_env h hle hA (Held.less fun b o h=>hB0 b o h) t
 ·obtain ⟨rfl,rfl,rfl⟩:=hf _ _ _ h;exact ⟨.inr hpH,O.lt hat hpH,.inl (by simp [MSt.init])⟩
 ·obtain ⟨rfl,rfl,_⟩:=hf _ _ _ h;obtain ⟨rfl,rfl,_⟩:=hf _ _ _ h';exact ⟨rfl,rfl⟩
 ·injection h with h;subst h;exact ⟨h0,.inr ⟨H,h1⟩⟩
 ·simp only [MSt.init] at h;split at h
  ·rename_i e;injection h with h;subst h;exact ⟨p,H,by rw [e.1,e.2]; exact h0,by rw [e.1,e.2]; exact h1,hat,Tie.no hni⟩
  ·cases h
 ·obtain ⟨rfl,rfl,rfl⟩:=ho _ _ _ h;refine ⟨fun b hb=>⟨.inr hb,O.lt hat hb,fun t' n' h=>?_,fun _ _ h=>(by cases h),fun t' n' H' h _=>?_⟩,.inl (by simp [MSt.init])⟩
  ·obtain ⟨rfl,rfl,_⟩:=hf _ _ _ h; exact ⟨rfl,rfl⟩
  ·obtain ⟨rfl,rfl,_⟩:=ho _ _ _ h; exact ⟨rfl,rfl⟩
theorem init_row {vs:List Value} {args cs:List AV} {av:Av} {np p:Nat} {cur:Array Value} {ty:TypeId} (h:RepA (Ix.row p cur.size) av (fun b _=>b=p) w args vs) (hav:∀ b o,av b o->b<w.heap.size) (hap:∀ o,av p o) (hheap:w.heap[p]?=some (.cells cur ty (0,0))) (hcs:cs.length<=cur.size) (hrep:RepL av w cs (cur.toList.take cs.length)) (hl:args.length=np) (hn:np<=nt) :
  RelE P O nt w.heap.size ⟨fun b=>b=p,some p,fun b=>b=p,cur.size,fun _=>undef⟩ av w (fun _=>False) (MSt.initR args cs) { tmps:=vs.toArray++Array.replicate (nt - vs.toArray.size) undef,defers:=[] } w:=by
 have hf:∀ t n b,(Ix.row p cur.size) t n=some b->t=0/\n=0/\b=p:=fun t n b h=>by
  have h':(if t=0/\n=0 then some p else none)=some b:=h;split at h'
  ·rename_i e; injection h' with h'; exact ⟨e.1,e.2,h'.symm⟩
  ·cases h'
 have hB0:∀ b o,avB (Ix.row p cur.size) (fun _=>none) b o->b=p:=fun b o h=>by
  rcases h with (⟨t,n,h⟩ | ⟨t,n,H1,h,hb⟩) | ⟨k,ow,h,_⟩
  ·exact (hf _ _ _ h).2.2
  ·cases h
  ·cases h
 have hA:Held av (avA av (Ix.row p cur.size) (fun _=>none)) w w:=Held.less fun b o h=>h.elim id fun h=>hB0 b o h ▸ hap o
 refine ⟨Ix.row p cur.size,fun _=>none,rfl,init_size h hl hn,fun t=>?_,fun t=>trivial,fun t n r h=>?_,fun t n b h=>?_,fun t n t' n' b h h'=>?_,fun _ _ h=>(by cases h),fun _ _ _ _ h=>(by cases h),fun _ _ _ _ h=>(by cases h),hav,fun q h=>?_,Keep.refl _ _,rfl,fun t n S1 h=>(by cases h),fun t n H1 h=>(by cases h),fun _=>trivial,fun _=>trivial⟩
 ·exact init_env (S0:=none) h (Ix.Le.refl _) hA (Held.less fun b o h=>hB0 b o h) t
 ·simp only [MSt.initR] at h;split at h
  ·rename_i e;injection h with h;subst h;refine ⟨rfl,p,cur,ty,by rw [e.1,e.2]; rfl,hheap,row_ofz (RepL.held hA _ _ hrep) fun j u hu=>?_,.inr rfl,rfl⟩;have hj:j<cs.length:=by
    have:=(yb.1 hu).1;rw [yz] at this;omega
   rw [List.getElem?_take_of_lt hj] at hu;simpa using hu
  ·cases h
 ·obtain ⟨rfl,rfl,rfl⟩:=hf _ _ _ h;exact ⟨.inr rfl,q01 hheap,.inl (by simp [MSt.initR])⟩
 ·obtain ⟨rfl,rfl,_⟩:=hf _ _ _ h;obtain ⟨rfl,rfl,_⟩:=hf _ _ _ h';exact ⟨rfl,rfl⟩
 ·injection h with h;subst h;exact ⟨rfl,.inl ⟨rfl,rfl⟩⟩
theorem Rel.drop0 {D:Nat->Prop} {ι:Ix} {Θ:Fam} (R:Rel P O nt B F0 av0 w0 D s a w ι Θ):Rel P O nt B F0 av0 w0 D s.drop0 a w ι Θ :=
 ⟨R.defers,R.size,R.env,R.ann,fun t n r h=>by
  simp only [MSt.drop0] at h;split at h
  ·cases h
  ·exact R.rows t n r h,R.mine,R.inj,R.tok,R.tinj,R.apart,R.out,R.pin,R.kept,R.base,R.objs,R.obs,R.gen,R.gann⟩
theorem row_sound (hm:P.follows .mixedOrders=true) {call:q09} {lp:LH} {N:Nat} (hcall:∀ f args S r,call f args S=some r->q0n P O f args S r) (hlp:LpOk P O N lp.l) (hhp:HpOk P O lp.h) {f:FuncId} {fn:Func} {c:FnC} (henter:∀ xs w,(callFunc f xs).run P w=.ok (.enter f xs) w) (hfn:P.funcs[f]?=some fn) (hcF:compF P c.mu fn=some c) {rest cs:List AV} {r:RV} (hlen:rest.length=c.np)
  (h:c.code.run call lp (MSt.initR rest cs) (finR c cs.length)=some r):CallRow P f rest (some (.agg cs)) r:=by
 unfold compF at hcF;split at hcF
 ·cases hcF
 ·rename_i code hbody;split at hcF
  ·rename_i cc rr hcc hrr;split at hcF
   ·rename_i hcond;injection hcF with hcF;obtain ⟨mu,hmu⟩:∃ mu,mu=c.mu:=⟨_,rfl⟩;rw [<- hmu] at hcF hcc;clear hmu;subst hcF;have hnp:fn.params.size + fn.nfree<=fn.ntmps:=hcond;refine ⟨henter,?_⟩;obtain ⟨r1,r2⟩:=r
    match r2,h with
    | some (.agg cs'),h =>
     intro av w vs p cur ty hav hap hheap hle hrep hargs;refine calls_of_wp hfn hbody ?_;refine q0M hm hcall hlp hhp code cc _ _ _ _ w _ hcc h (init_row hargs hav hap hheap hle hrep hlen hnp) fun e s' a' w' R' he=>?_
     have hfin:e=.nrm\/e=.ret:=by
      cases e with
      | nrm=>exact .inl rfl
      | ret=>exact .inr rfl
      | exit id=>cases he
     have he':∃ xs,resC s' rr=some xs/\finVR cs.length s' (xs.map (AV.frz s'.drop0))=some (r1,some (.agg cs')):=by
      rcases hfin with rfl | rfl <;> exact y4.1 he
     obtain ⟨xs,hxs,hfv⟩:=he';obtain ⟨ι,Θ,R'⟩:=R';obtain ⟨us,hus,hT'⟩:=res_run R' hrr hxs;have hres:(results fn a'.tmps).run P w'=.ok (packV us) w':=by
      have he:results fn a'.tmps=(do let vs <- fn.results.mapM (q5y a'.tmps); pure (if h:vs.size=1 then vs[0] else .tuple vs)):=rfl;rw [he,Array.mapM_eq_mapM_toList];simp only [Sem.run_bind,Sem.run_map,hus,Result.andThen_ok,Sem.run_pure];rfl
     have hs:=hT'.frz R'.drop0;unfold finVR at hfv;split at hfv
     ·rename_i hall;obtain ⟨row,hrow0,hfv⟩:=y4.1 hfv;split at hfv
      ·rename_i hcond;injection hfv with hfv;injection hfv with hfv1 hfv2;injection hfv2 with hfv2;injection hfv2 with hfv2;subst hfv1;subst hfv2;obtain ⟨hno,b,cur',ty',hb,hheap',hrow,_,hz⟩:=R'.rows 0 0 row hrow0;obtain ⟨hpp,hpz⟩:=R'.pin p rfl;rw [hpp] at hb;injection hb with hb;subst hb;have hz':ι.z p=cur.size:=by
        rcases hpz with ⟨_,h⟩ | ⟨H,h⟩
        ·exact h
        ·rw [h] at hno; cases hno
       have hsub:∀ b o,av b o->avF s'.drop0 (avA av ι Θ) ι b o:=fun b o h=>⟨.inl h,fun ⟨t,n,r,hm,hb⟩=>by
        simp only [MSt.drop0] at hm;split at hm
        ·cases hm
        ·rename_i hn;obtain ⟨_,b',_,_,hb',_,_,hBb,_⟩:=R'.rows t n r hm;rw [hb] at hb';injection hb' with hb';subst hb';rcases hBb with hBb | hBb
         ·have:=hav _ _ h; omega
         ·have:b=p:=hBb;subst this;exact hn (R'.inj _ _ _ _ _ hb hpp)⟩
       have post:a'.defers=[]/\∃ v,(results fn a'.tmps).run P w'=.ok v w'/\∃ v' cur'' ty'',Ending.returned v=.returned v'/\Rep av w' (pack (xs.map (AV.frz s'.drop0))) v'/\w'.heap[p]?=some (.cells cur'' ty'' (0,0))/\cur''.size=cur.size/\RepL av w' (row.map fun x=>AV.frz0 s'.drop0 x.v) (cur''.toList.take (row.map fun x=>AV.frz0 s'.drop0 x.v).length)/\Keep (fun b=>b=p) w w':=by
        refine ⟨R'.defers,_,hres,_,cur',ty',rfl,pack_rep (hs.toT hsub fun v hv=>y5.1 hall v hv),hheap',hz.trans hz',?_,R'.kept⟩;have h1:=hrow.rep.frz R'.drop0;rw [y3] at h1;have h2:=q1h h1 fun x hx=>y5.1 hcond.1 x hx
        rw [yt];exact RepL.held (Held.less hsub) _ _ h2
       rcases hfin with rfl | rfl <;> exact post
      ·cases hfv
     ·cases hfv
    | none,h=>trivial
    | some (.int ..),h=>trivial
    | some (.bool _),h=>trivial
    | some (.str _),h=>trivial
    | some .nilP,h=>trivial
    | some (.ptr ..),h=>trivial
    | some (.ip _),h=>trivial
    | some (.bp _),h=>trivial
    | some (.sl ..),h=>trivial
    | some (.bl _),h=>trivial
    | some (.ref ..),h=>trivial
    | some (.mp ..),h=>trivial
    | some (.fn ..),h=>trivial
    | some (.tup _),h=>trivial
    | some .undef,h=>trivial
   ·cases hcF
  ·cases hcF
theorem resS_run {D:Nat->Prop} {ι:Ix} {Θ:Fam} (R:Rel P O nt B F0 av0 w0 D s a w ι Θ):∀ {rs:List ResultVar} {cs:List ResC} {vs:List Slot},q31 P rs=some cs->resS s cs=some vs →
  ∃ us,(rs.mapM (q5y a.tmps)).run P w=Result.ok us w/\q2g ι Θ (avA av0 ι Θ) (avB ι Θ) w vs us
 | [],cs,vs,h,hr=>by
  injection h with h;subst h;injection hr with hr;subst hr;exact ⟨[],by simp,rfl⟩
 | .tmp t :: rs,cs,vs,h,hr=>by
  unfold q31 at h;obtain ⟨l,hl,rfl⟩:=y9.1 h;simp only [resS] at hr;obtain ⟨vs',hv,rfl⟩:=y9.1 hr;obtain ⟨us,hu,hT⟩:=resS_run R hl hv;refine ⟨a.tmps.getD t undef :: us,by rw [List.mapM_cons]; simp only [q5y,Sem.run_bind,Sem.run_pure,Result.andThen_ok,hu],_,us,rfl,R.env t,R.ann t,hT⟩
 | .cell b t :: rs,cs,vs,h,hr=>by
  unfold q31 at h;split at h
  ·rename_i ag z l hA hz hl;injection h with h;subst h;simp only [resS] at hr;split at hr
   ·rename_i t' n off hb;cases hm:s.mem t' n with
    | none=>rw [hm] at hr; cases hr
    | some row =>
     rw [hm,y0] at hr;obtain ⟨x,hx,hr⟩:=y4.1 hr;obtain ⟨vs',hv,rfl⟩:=y9.1 hr;obtain ⟨us,hu,hT⟩:=resS_run R hl hv;have hv:=R.env b;rw [hb,q0S] at hv;obtain ⟨bb,hbb,hv⟩:=hv;obtain ⟨hnob,b',cur,ty,hb',hheap,hrow,_⟩:=R.rows t' n row hm;rw [hbb] at hb';injection hb' with hb';subst hb';have hcell:∀ (j:Nat) (u:Value),((cur.toList.take row.length).drop off)[j]?=some u->w.cell? ⟨bb,off + j,none⟩=some u:=fun j u hu=>by
      rw [cell_of_row w bb (off + j) cur ty (0,0) hheap];rw [yD,yB] at hu;split at hu
      ·simpa using hu
      ·cases hu
     have hrep:=q0L off hrow.rep;have hi:q1N ag z ((row.map (·.v)).drop off)=some x.v:=by
      cases ag with
      | true =>
       simp only [q41,if_true] at hx;split at hx
       ·rename_i hle;injection hx with hx;subst hx;simp only [q1N,if_true,List.length_drop,yt];rw [if_pos (by omega)];simp [List.map_take,List.map_drop]
       ·cases hx
      | false =>
       simp only [q41,yk,if_false] at hx;simp [q1N,yD,hx]
     obtain ⟨u,hrun,hS,_⟩:=q5k (P:=P) (avb:=avB ι Θ) hA hz hrep hcell hi;refine ⟨u :: us,by rw [List.mapM_cons]; simp only [q5y,Sem.run_bind,hv,asAddr,Sem.run_pure,Result.andThen_ok,hrun,hu],u,us,rfl,hS,trivial,hT⟩
   ·cases hr
  ·cases h
theorem q3B {ι:Ix} {Θ:Fam} {av avb:Av}:∀ {xs:List Slot} {us:List Value},q2g ι Θ av avb w xs us->us.length=xs.length
 | [],_,h=>by simp only [q2g] at h; subst h; rfl
 | x :: r,_,h=>by
  simp only [q2g] at h;obtain ⟨u,us',rfl,_,_,h⟩:=h;simp [q3B h]
theorem RepSs_get {ι:Ix} {Θ:Fam} {av avb:Av}:∀ {xs:List Slot} {us:List Value} (_:q2g ι Θ av avb w xs us) (t:Nat),RepS ι av avb w (xs.getD t ⟨.undef,.no⟩).v (us.getD t undef)/\AnOk Θ (xs.getD t ⟨.undef,.no⟩).a (us.getD t undef)
 | [],_,_,_=>by simp [RepS,AnOk]
 | x :: r,_,h,t=>by
  simp only [q2g] at h;obtain ⟨u,us',rfl,h0,h1,h⟩:=h;cases t with
  | zero=>simpa using ⟨h0,h1⟩
  | succ t=>simpa using RepSs_get h t
theorem RepU_ofS {ι:Ix} {av avb:Av} {x:AV} {v:Value} (h:RepS ι av avb w x v) (hx:x.tupOk=true):RepU ι av w x v:=by
 cases x <;> first
  | exact h
  | (cases hx; done)
theorem RepCT_ofSs {ι:Ix} {Θ:Fam} {av avb:Av}:∀ {xs:List Slot} {us:List Value},q2g ι Θ av avb w xs us->xs.all (fun x=>x.v.tupOk)=true->q1W ι av w (xs.map (·.v)) us
 | [],_,h,_=>h
 | x :: r,_,h,hf=>by
  simp only [q2g] at h;obtain ⟨u,us',rfl,h0,_,h⟩:=h;simp only [List.all_cons,y8] at hf;exact ⟨u,us',rfl,RepU_ofS h0 hf.1,RepCT_ofSs h hf.2⟩
theorem packS_rep {ι:Ix} {Θ:Fam} {av avb:Av}:∀ {xs:List Slot} {us:List Value} {y:Slot},q2g ι Θ av avb w xs us->packS xs=some y->RepS ι av avb w y.v (packV us)/\AnOk Θ y.a (packV us)
 | [],us,y,h,hp=>by
  simp only [q2g] at h;subst h;injection hp with hp;subst hp;exact ⟨⟨#[],rfl,rfl⟩,trivial⟩
 | [x],us,y,h,hp=>by
  simp only [q2g] at h;obtain ⟨u,us',rfl,h0,h1,rfl⟩:=h;injection hp with hp;subst hp;exact ⟨h0,h1⟩
 | x :: z :: r,us,y,h,hp=>by
  have hl:=q3B h;have:¬ us.toArray.size=1:=by simp; simp at hl; omega
  unfold packV;rw [dif_neg this];unfold packS at hp;split at hp
  ·rename_i e; cases e
  ·split at hp
   ·rename_i hall;injection hp with hp;subst hp;exact ⟨⟨_,rfl,RepCT_ofSs h hall⟩,trivial⟩
   ·cases hp
theorem initH_rel {B:Nat} {F0:Own} {av0:Av} {w0 w:World} {ι:Ix} {Θ:Fam} {xs:List Slot} {us:List Value} (R:RelG P O B F0 av0 w0 s w ι Θ) (h:q2g ι Θ (avA av0 ι Θ) (avB ι Θ) w xs us) {np:Nat} (hl:xs.length=np) (hn:np<=nt) :
  Rel P O nt B F0 av0 w0 (fun _=>False) (s.initH xs) { tmps:=us.toArray++Array.replicate (nt - us.toArray.size) undef,defers:=[] } w ι Θ:=by
 have hg:∀ t,(us.toArray++Array.replicate (nt - us.toArray.size) undef).getD t undef=us.getD t undef:=fun t=>by
  simp only [yG,List.getD_eq_getElem?_getD,Array.getElem?_append,yy,List.getElem?_toArray];split
  ·rfl
  ·rename_i hge;rw [List.getElem?_eq_none (by omega)];simp only [Array.getElem?_replicate];split <;> rfl
 have hsz:(us.toArray++Array.replicate (nt - us.toArray.size) undef).size=nt:=by
  have:=q3B h;simp;omega
 exact ⟨rfl,hsz,fun t=>by simp only [MSt.initH]; rw [hg]; exact (RepSs_get h t).1,fun t=>by simp only [MSt.initH]; rw [hg]; exact (RepSs_get h t).2,R.rows,R.mine,R.inj,R.tok,R.tinj,R.apart,R.out,R.pin,R.kept,R.base,R.objs,R.obs,R.gen,R.gann⟩
theorem Rel.bare {D:Nat->Prop} {ι:Ix} {Θ:Fam} (R:Rel P O nt B F0 av0 w0 (fun _=>False) s a w ι Θ):RelG P O B F0 av0 w0 s w ι Θ :=
 ⟨rfl,rfl,fun _=>trivial,fun _=>trivial,R.rows,R.mine,R.inj,R.tok,R.tinj,R.apart,R.out,R.pin,R.kept,R.base,R.objs,R.obs,R.gen,R.gann⟩
theorem heap_sound (hm:P.follows .mixedOrders=true) {call:q09} {lp:LH} {N:Nat} (hcall:∀ f args S r,call f args S=some r->q0n P O f args S r) (hlp:LpOk P O N lp.l) (hhp:HpOk P O lp.h) {f:FuncId} {fn:Func} {c:FnC} (henter:∀ xs w,(callFunc f xs).run P w=.ok (.enter f xs) w) (hfn:P.funcs[f]?=some fn) (hcF:compF P c.mu fn=some c) {xs:List Slot} {k:Slot->MSt->Option RV} {r:RV} (hlen:xs.length=c.np)
  (h:c.code.run call lp (s.initH xs) (finH c k)=some r):(∀ vs w,(callFunc f vs).run P w=.ok (.enter f vs) w) ∧
 ∀ (B:Nat) (F0:Own) (av0:Av) (w0 w:World) (ι:Ix) (Θ:Fam) (us:List Value) (E:Ending->World->Prop),RelG P O B F0 av0 w0 s w ι Θ->q2g ι Θ (avA av0 ι Θ) (avB ι Θ) w xs us →
  (∀ y s' w' ι' Θ' v,RelG P O B F0 av0 w0 s' w' ι' Θ'->RepS ι' (avA av0 ι' Θ') (avB ι' Θ') w' y.v v->AnOk Θ' y.a v->k y s'=some r->E (.returned v) w')->Calls P f us.toArray w E:=by
 unfold compF at hcF;split at hcF
 ·cases hcF
 ·rename_i code hbody;split at hcF
  ·rename_i cc rr hcc hrr;split at hcF
   ·rename_i hcond;injection hcF with hcF;obtain ⟨mu,hmu⟩:∃ mu,mu=c.mu:=⟨_,rfl⟩;rw [<- hmu] at hcF hcc;clear hmu;subst hcF;have hnp:fn.params.size + fn.nfree<=fn.ntmps:=hcond;refine ⟨henter,fun B F0 av0 w0 w ι Θ us E R hxs hE=>?_⟩;refine calls_of_wp hfn hbody ?_;refine q0M hm hcall hlp hhp code cc _ _ _ _ w _ hcc h ⟨ι,Θ,initH_rel R hxs hlen hnp⟩ fun e s' a' w' R' he=>?_
    have hfin:e=.nrm\/e=.ret:=by
     cases e with
     | nrm=>exact .inl rfl
     | ret=>exact .inr rfl
     | exit id=>cases he
    have he':∃ y,(resS s' rr).bind packS=some y/\k y s'=some r:=by
     rcases hfin with rfl | rfl <;> exact y4.1 he
    obtain ⟨y,hy,hk⟩:=he';obtain ⟨l,hl,hp⟩:=y4.1 hy;obtain ⟨ι',Θ',R'⟩:=R';obtain ⟨vs,hvs,hT'⟩:=resS_run R' hrr hl;have hres:(results fn a'.tmps).run P w'=.ok (packV vs) w':=by
     have he:results fn a'.tmps=(do let vs <- fn.results.mapM (q5y a'.tmps); pure (if h:vs.size=1 then vs[0] else .tuple vs)):=rfl;rw [he,Array.mapM_eq_mapM_toList];simp only [Sem.run_bind,Sem.run_map,hvs,Result.andThen_ok,Sem.run_pure];rfl
    obtain ⟨hr1,hr2⟩:=packS_rep hT' hp;have post:a'.defers=[]/\∃ v,(results fn a'.tmps).run P w'=.ok v w'/\E (.returned v) w':=⟨R'.defers,_,hres,hE y s' w' ι' Θ' _ (Rel.bare (D:=fun _=>False) R') hr1 hr2 hk⟩;rcases hfin with rfl | rfl <;> exact post
   ·cases hcF
  ·cases hcF
theorem markR_some {args rest:List AV} (h:markR args=some rest):args=.undef :: .undef :: rest:=by
 unfold markR at h;split at h
 ·injection h with h; subst h; rfl
 ·cases h
theorem call_sound (hm:P.follows .mixedOrders=true) {T:Nat->Option FnC} {ext:q09} (hT:∀ f c,T f=some c->FnOk P f c) (hext:∀ f args S r,ext f args S=some r->q0n P O f args S r) :
  ∀ N,(∀ f args S r,q16 T ext N f args S=some r->q0n P O f args S r)/\LpOk P O N (lpN T ext N)/\HpOk P O (hpN T ext N)
 | 0=>by
  refine ⟨fun f args S r h=>?_,fun _ _ _ _ _ _ _ _ _ _ _ _ _ _ _ h _ _=>(by cases h),fun _ _ _ _ _ h=>(by cases h)⟩;unfold q16 at h;split at h
  ·exact hext f args S r h
  ·cases h
 | N + 1=>by
  obtain ⟨ih1,ih2,ih3⟩:=call_sound hm hT hext N;refine ⟨fun f args S0 r h=>?_,fun boxes nt B F0 av0 w0 code b s k r a w Q hc h R hk=>?_,fun f xs s k r h=>?_⟩
  ·unfold q16 at h;split at h
   ·exact hext f args S0 r h
   ·rename_i c hTc;obtain ⟨henter,fn,hfn,hcF⟩:=hT f c hTc;cases hmk:markR args with
    | some rest =>
     rw [hmk] at h
     match S0,h with
     | some (.agg cs),h =>
      simp only at h;split at h
      ·rename_i hl;rw [markR_some hmk];exact row_sound (lp:=⟨lpN T ext N,hpN T ext N⟩) hm ih1 ih2 ih3 henter hfn hcF hl.1 h
      ·cases h
     | none,h=>cases h
     | some (.int ..),h=>cases h
     | some (.bool _),h=>cases h
     | some (.str _),h=>cases h
     | some .nilP,h=>cases h
     | some (.ptr ..),h=>cases h
     | some (.ip _),h=>cases h
     | some (.bp _),h=>cases h
     | some (.sl ..),h=>cases h
     | some (.bl _),h=>cases h
     | some (.ref ..),h=>cases h
     | some (.mp ..),h=>cases h
     | some (.fn ..),h=>cases h
     | some (.tup _),h=>cases h
     | some .undef,h=>cases h
    | none =>
    rw [hmk] at h;simp only at h;split at h
    ·rename_i hlm;obtain ⟨hlen,hmark,hnoit⟩:=hlm;unfold compF at hcF;split at hcF
     ·cases hcF
     ·rename_i code hbody;split at hcF
      ·rename_i cc rr hcc hrr;split at hcF
       ·rename_i hcond;injection hcF with hcF;obtain ⟨mu,hmu⟩:∃ mu,mu=c.mu:=⟨_,rfl⟩;rw [<- hmu] at hcF hcc;clear hmu;subst hcF;have hnp:fn.params.size + fn.nfree<=fn.ntmps:=hcond;have ending:∀ {F0:Own} {av:Av} {w:World} {vs:List Value} {E:Ending->World->Prop},
          RelE P O fn.ntmps w.heap.size F0 av w (fun _=>False) (MSt.init args S0) { tmps:=vs.toArray++Array.replicate (fn.ntmps - vs.toArray.size) undef,defers:=[] } w →
          (∀ (s':MSt) (a':Act) (w':World) (ι:Ix) (Θ:Fam) (us:List Value) (xs:List AV),Rel P O fn.ntmps w.heap.size F0 av w (fun _=>False) s' a' w' ι Θ->q5D ι (avF s' (avA av ι Θ) ι) (avB ι Θ) w' xs us->finV S0 s' xs=some r->E (.returned (packV us)) w')->Calls P f vs.toArray w E:=fun {F0 av w vs E} R hE=>by
         refine calls_of_wp hfn hbody ?_;refine q0M (lp:=⟨lpN T ext N,hpN T ext N⟩) hm ih1 ih2 ih3 code cc _ _ r _ w _ hcc h R fun e s' a' w' R' he=>?_
         have hfin:e=.nrm\/e=.ret:=by
          cases e with
          | nrm=>exact .inl rfl
          | ret=>exact .inr rfl
          | exit id=>cases he
         have he':∃ xs,resC s' rr=some xs/\finV S0 s' (xs.map (AV.frz s'))=some r:=by
          rcases hfin with rfl | rfl <;> exact y4.1 he
         obtain ⟨xs,hxs,hfv⟩:=he';obtain ⟨ι,Θ,R'⟩:=R';obtain ⟨us,hus,hT'⟩:=res_run R' hrr hxs;have hres:(results fn a'.tmps).run P w'=.ok (packV us) w':=by
          have he:results fn a'.tmps=(do let vs <- fn.results.mapM (q5y a'.tmps); pure (if h:vs.size=1 then vs[0] else .tuple vs)):=rfl;rw [he,Array.mapM_eq_mapM_toList];simp only [Sem.run_bind,Sem.run_map,hus,Result.andThen_ok,Sem.run_pure];rfl
         have post:a'.defers=[]/\∃ v,(results fn a'.tmps).run P w'=.ok v w'/\E (.returned v) w':=⟨R'.defers,_,hres,hE s' a' w' ι Θ us _ R' (hT'.frz R') hfv⟩;rcases hfin with rfl | rfl <;> exact post
        refine (q0n.of hmark).2 ⟨henter,?_⟩;obtain ⟨r1,r2⟩:=r;cases S0 with
        | none =>
         cases r2 with
         | none =>
          intro av w vs hav hargs;refine ending (init_none hargs hav hlen hnp) fun s' a' w' ι Θ us xs R' hs hfv=>?_
          refine ⟨_,rfl,?_,R'.kept.below⟩;simp only [finV] at hfv;split at hfv
          ·rename_i hall;injection hfv with hfv;injection hfv with hfv;subst hfv;exact pack_rep (hs.toT (fun b o h=>⟨.inl h,fun ⟨t,n,r,hm,hb⟩=>by
            obtain ⟨_,b',cur,ty,hb',_,_,hBb,_⟩:=R'.rows t n r hm;rw [hb] at hb';injection hb' with hb';subst hb';have:=hav _ _ h;have:=hBb.elim id False.elim;omega⟩) fun v hv=>y5.1 hall v hv)
          ·split at hfv
           ·split at hfv
            ·split at hfv <;> cases hfv
            ·cases hfv
           ·cases hfv
         | some S' =>
          intro av w vs hav hargs;refine ending (init_none hargs hav hlen hnp) fun s' a' w' ι Θ us xs R' hs hfv=>?_
          simp only [finV] at hfv;split at hfv
          ·cases hfv
          ·split at hfv
           ·rename_i t n _;split at hfv
            ·rename_i S hS;split at hfv
             ·rename_i hall;injection hfv with hfv;injection hfv with hfv1 hfv2;injection hfv2 with hfv2;subst hfv1;subst hfv2;obtain ⟨p,H,hp,hob,hat,_⟩:=R'.objs t n S hS;refine ⟨_,p,H,rfl,?_,hat,fun b hb=>(((R'.obs t n H hob).1 b hb).1).elim id False.elim,R'.kept.below⟩;have hall':∀ v∈xs,((q2A t n v).free||(q2A t n v).isObj)=true:=fun v hv=>y5.1 hall _ (List.mem_map_of_mem hv)
              refine pack_repN (hs.toO hp (fun b o h=>?_) hall') fun v hv=>y5.1 hall v hv
              refine ⟨?_,fun ⟨t',n',r,hm,hb⟩=>?_⟩
              ·rcases h with h | h
               ·exact .inl h
               ·exact .inr (.inl (.inr ⟨t,n,H,hob,h⟩))
              ·obtain ⟨hno,b',cur,ty,hb',_,_,hBb,_⟩:=R'.rows t' n' r hm;rw [hb] at hb';injection hb' with hb';subst hb';rcases h with h | h
               ·have:=hav _ _ h;have:=hBb.elim id False.elim;omega
               ·have e:=((R'.obs t n H hob).1 b h).2.2.1 t' n' hb;rw [e.1,e.2,hob] at hno;cases hno
             ·cases hfv
            ·cases hfv
           ·cases hfv
        | some S =>
         cases r2 with
         | none =>
          trivial
         | some S' =>
          intro av w vs p H hav hH hat hargs;have hni:noIt S=true:=hnoit;refine ending (init_some hargs hav hH hat hni hlen hnp) fun s' a' w' ι Θ us xs R' hs hfv=>?_
          simp only [finV] at hfv;split at hfv
          ·rename_i hall;obtain ⟨S1,hS1,hfv⟩:=y9.1 hfv;injection hfv with hfv1 hfv2;injection hfv2 with hfv2;subst hfv1;subst hfv2;obtain ⟨p',H',hp,hob,hat',_⟩:=R'.objs 0 0 S1 hS1;have hpp:=(R'.pin p rfl).1;rw [hpp] at hp;injection hp with hp;subst hp;refine ⟨_,H',rfl,pack_rep (hs.toT (fun b o h=>?_) fun v hv=>y5.1 hall v hv),hat',fun b hb=>(((R'.obs 0 0 H' hob).1 b hb).1).symm,R'.kept⟩;refine ⟨?_,fun ⟨t',n',r,hm,hb⟩=>?_⟩
           ·rcases h with h | h
            ·exact .inl h
            ·exact .inr (.inl (.inr ⟨0,0,H',hob,h⟩))
           ·obtain ⟨hno,b',cur,ty,hb',_,_,hBb,_⟩:=R'.rows t' n' r hm;rw [hb] at hb';injection hb' with hb';subst hb';rcases h with h | h
            ·have:=hav _ _ h;have:=hBb.elim id False.elim;omega
            ·have e:=((R'.obs 0 0 H' hob).1 b h).2.2.1 t' n' hb;rw [e.1,e.2,hob] at hno;cases hno
          ·cases hfv
       ·cases hcF
      ·cases hcF
    ·cases h
  ·unfold lpN at h;rw [rounds_succ];refine q0M (lp:=⟨lpN T ext N,hpN T ext N⟩) hm ih1 ih2 ih3 code b s _ r a w _ hc h R fun e s' a' w' R' he=>?_
   cases e with
   | nrm=>exact ih2 boxes nt B F0 av0 w0 code b s' k r a' w' Q hc he R' hk
   | exit id=>exact hk _ _ _ _ R' he
   | ret=>exact hk _ _ _ _ R' he
  ·unfold hpN at h;split at h
   ·cases h
   ·rename_i c hTc;obtain ⟨henter,fn,hfn,hcF⟩:=hT f c hTc;split at h
    ·rename_i hlen;exact heap_sound (lp:=⟨lpN T ext N,hpN T ext N⟩) hm ih1 ih2 ih3 henter hfn hcF hlen h
    ·cases h
end
end
section
section
variable {α:Type}
def Late (p:Nat->Prop):Prop:=∃ n,∀ m,n<=m->p m
theorem Late.and {p q:Nat->Prop} (h:Late p) (h':Late q):Late fun m=>p m/\q m:=by
 obtain ⟨n,h⟩:=h;obtain ⟨n',h'⟩:=h';exact ⟨max n n',fun m hm=>⟨h m (by omega),h' m (by omega)⟩⟩
theorem Late.imp {p q:Nat->Prop} (h:Late p) (hi:∀ m,p m->q m):Late q:=by
 obtain ⟨n,h⟩:=h;exact ⟨n,fun m hm=>hi m (h m hm)⟩
theorem Late.now {p:Prop} (h:p):Late fun _=>p:=⟨0,fun _ _=>h⟩
theorem Late.succ {p:Nat->Prop} (h:Late p):Late fun m=>p (m + 1):=by
 obtain ⟨n,h⟩:=h;exact ⟨n,fun m hm=>h (m + 1) (by omega)⟩
theorem Late.pred {p:Nat->Prop} (h:Late fun m=>p (m + 1)):Late p:=by
 obtain ⟨n,h⟩:=h;exact ⟨n + 1,fun m hm=>by have:=h (m - 1) (by omega); simp only at this; rwa [show m - 1 + 1=m from by omega] at this⟩
theorem Late.some {p:Nat->Prop} (h:Late p):∃ m,p m:=by
 obtain ⟨n,h⟩:=h;exact ⟨n,h n (yc _)⟩
theorem run_late {s:MSt} {callA:q09} {callB:Nat->q09} (hc:∀ f args S r,callA f args S=some r->Late fun m=>callB m f args S=some r) (k:K) {xe:Slot × Eff} (h:k.run callA s=some xe):Late fun m=>k.run (callB m) s=some xe:=by
 cases k with
 | call cl f xs =>
  simp only [K.run] at h ⊢;cases hl:q0F s cl xs with
  | none=>rw [hl] at h; cases h
  | some vs =>
   rw [hl] at h;simp only [y0] at h ⊢;split at h
   ·obtain ⟨r,hr,h⟩:=y4.1 h;exact (hc f vs _ r hr).imp fun m hm=>by rw [hm]; exact h
   ·obtain ⟨r,hr,h⟩:=y4.1 h;exact (hc f vs _ r hr).imp fun m hm=>by rw [hm]; exact h
   ·cases h
 | callf cl f z xs =>
  simp only [K.run] at h ⊢;cases hl:q0F s cl xs with
  | none=>rw [hl] at h; cases h
  | some vs =>
   rw [hl] at h;simp only [y0] at h ⊢;split at h
   ·obtain ⟨r,hr,h⟩:=y4.1 h;exact (hc f (.undef :: vs) _ r hr).imp fun m hm=>by rw [hm]; exact h
   ·cases h
 | callv cl x xs =>
  simp only [K.run] at h ⊢;split at h
  ·rename_i f cs hx
   try simp only [hx]
   split at h
   ·rename_i vs ws hl hw ho
    try simp only [hl,hw,ho]
    obtain ⟨r,hr,h⟩:=y4.1 h;exact (hc f (vs++ws) _ r hr).imp fun m hm=>by rw [hm]; exact h
   ·cases h
  ·cases h
 | callr cl f xs =>
  simp only [K.run] at h ⊢;split at h
  ·rename_i t n hp
   try simp only [hp]
   split at h
   ·rename_i hok;simp only [if_pos hok];split at h
    ·rename_i r vs hr hv
     try simp only [hr,hv]
     split at h
     ·rename_i hall;simp only [if_pos hall];obtain ⟨q,hq,h⟩:=y4.1 h;exact (hc f _ _ q hq).imp fun m hm=>by rw [hm]; exact h
     ·cases h
    ·cases h
   ·cases h
  ·cases h
 | _=>exact Late.now h
theorem step_late {s s1:MSt} {callA:q09} {callB:Nat->q09} (hc:∀ f args S r,callA f args S=some r->Late fun m=>callB m f args S=some r) (o:OpC) (h1:o.step callA s=some s1):Late fun m=>o.step (callB m) s=some s1:=by
 unfold OpC.step at h1 ⊢;cases hg:o.guard with
 | none =>
  rw [hg] at h1;simp only at h1 ⊢;obtain ⟨xe,hx,he⟩:=y4.1 h1;exact (run_late hc o.op hx).imp fun m hm=>by rw [hm]; exact he
 | some p =>
  obtain ⟨t,want⟩:=p;rw [hg] at h1;simp only at h1 ⊢;cases hv:(s.env t).v with
  | bool b =>
   rw [hv] at h1;simp only at h1 ⊢;by_cases hb:b=want
   ·rw [if_pos hb] at h1;simp only [if_pos hb];obtain ⟨xe,hx,he⟩:=y4.1 h1;exact (run_late hc o.op hx).imp fun m hm=>by rw [hm]; exact he
   ·rw [if_neg hb] at h1;simp only [if_neg hb];exact Late.now h1
  | tup l=>rw [hv] at h1; cases l with
   | nil=>exact Late.now h1
   | cons=>cases h1
  | _=>rw [hv] at h1; cases h1
def HLate (hA:HpT) (hB:Nat->HpT):Prop:=∀ f xs s k r (km:Nat->Slot->MSt->Option RV),(∀ y s' r',k y s'=some r'->Late fun m=>km m y s'=some r')->hA f xs s k=some r->Late fun m=>hB m f xs s (km m)=some r
theorem hstep_late {s:MSt} {lhA:LH} {lhB:Nat->LH} (hh:HLate lhA.h fun m=>(lhB m).h) (d:Option Nat) (nt:Nat) (x:Opd) (xs:List Opd) {k:MSt->Option RV} {r:RV} {km:Nat->MSt->Option RV} (hk:∀ s' r',k s'=some r'->Late fun m=>km m s'=some r') (h:hstep lhA d nt x xs s k=some r):Late fun m=>hstep (lhB m) d nt x xs s (km m)=some r:=by
 unfold hstep at h ⊢;split at h
 ·rename_i f cs hx
  try simp only [hx]
  exact hh _ _ _ _ _ (fun m y s'=>km m ((s'.leave nt).put d y)) (fun y s' r' h'=>hk _ _ h') h
 ·cases h
theorem Late.all {l:List Nat} {Q:Nat->Nat->Prop} (h:∀ i∈l,Late fun m=>Q i m):Late fun m=>∀ i∈l,Q i m:=by
 induction l with
 | nil=>exact ⟨0,fun m _ i hi=>by cases hi⟩
 | cons a r ih =>
  refine ((h a yd).and (ih fun i hi=>h i (ym _ hi))).imp fun m hm i hi=>?_
  rcases yu.1 hi with rfl | hi
  ·exact hm.1
  ·exact hm.2 i hi
theorem nstep_late {s:MSt} (d:Option Nat) (x:Opd) {k:MSt->Option RV} {r:RV} {km:Nat->MSt->Option RV} (hk:∀ s' r',k s'=some r'->Late fun m=>km m s'=some r') (h:nstep d x s k=some r):Late fun m=>nstep d x s (km m)=some r:=by
 unfold nstep at h ⊢;split at h
 ·rename_i t n hx
  try simp only [hx]
  split at h
  ·rename_i tm nm N seen hi
   try simp only [hi]
   split at h
   ·rename_i L hL
    try simp only [hL]
    split at h
    ·rename_i hN
     try simp only [hN,if_true]
     obtain ⟨h1,h2⟩:=q6q _ h;have h2':=Late.all (Q:=fun i m=>(match L[i]? with | some [y,v]=>if y.flat&&v.flat then km m ((s.setObj t n (itAV tm nm N (seen++[i]))).put d ⟨.tup [.bool true,y,v],.no⟩) else none | _=>none)=some r) fun i hi'=>by
      have:=h2 i hi';split at this
      ·rename_i y v hy;split at this
       ·rename_i hf;simp only [hy,hf,if_true];exact hk _ _ this
       ·cases this
      ·cases this
     by_cases he:(List.range N).filter (fun i=>!seen.contains i)=[]
     ·refine (hk _ _ (h1 he)).imp fun m hm=>q61 _ (fun _=>hm) fun i hi'=>?_
      rw [he] at hi';cases hi'
     ·exact h2'.imp fun m hm=>q61 _ (fun e=>absurd e he) hm
    ·cases h
   ·cases h
  ·cases h
 ·cases h
theorem stepK_late {s:MSt} {callA:q09} {callB:Nat->q09} {lhA:LH} {lhB:Nat->LH} (hc:∀ f args S r,callA f args S=some r->Late fun m=>callB m f args S=some r) (hh:HLate lhA.h fun m=>(lhB m).h) (o:OpC) {k:MSt->Option RV} {r:RV} {km:Nat->MSt->Option RV} (hk:∀ s' r',k s'=some r'->Late fun m=>km m s'=some r') (h:o.stepK callA lhA s k=some r):Late fun m=>o.stepK (callB m) (lhB m) s (km m)=some r:=by
 obtain ⟨d,op,g⟩:=o;by_cases hop:isH op=true
 ·cases op with
  | callh nt x xs =>
   simp only [OpC.stepK,q2w] at h ⊢;cases g with
   | none=>exact hstep_late hh d nt x xs hk h
   | some p =>
    obtain ⟨t,want⟩:=p;simp only at h ⊢;cases hv:(s.env t).v with
    | bool b =>
     rw [hv] at h;simp only at h ⊢;by_cases hb:b=want
     ·rw [if_pos hb] at h;simp only [if_pos hb];exact hstep_late hh d nt x xs hk h
     ·rw [if_neg hb] at h;simp only [if_neg hb];exact hk _ _ h
    | tup l=>rw [hv] at h; cases l with
     | nil=>exact hk _ _ h
     | cons=>cases h
    | _=>rw [hv] at h; cases h
  | nxt x =>
   simp only [OpC.stepK,q2w] at h ⊢;cases g with
   | none=>exact nstep_late d x hk h
   | some p =>
    obtain ⟨t,want⟩:=p;simp only at h ⊢;cases hv:(s.env t).v with
    | bool b =>
     rw [hv] at h;simp only at h ⊢;by_cases hb:b=want
     ·rw [if_pos hb] at h;simp only [if_pos hb];exact nstep_late d x hk h
     ·rw [if_neg hb] at h;simp only [if_neg hb];exact hk _ _ h
    | tup l=>rw [hv] at h; cases l with
     | nil=>exact hk _ _ h
     | cons=>cases h
    | _=>rw [hv] at h; cases h
  | _=>cases hop
 ·have hop:isH op=false:=by simpa using hop
  rw [q1b hop] at h;obtain ⟨s1,h1,h2⟩:=y4.1 h;exact ((step_late hc ⟨d,op,g⟩ h1).and (hk _ _ h2)).imp fun m hm=>by rw [q1b hop,hm.1]; exact hm.2
theorem ops_late {callA:q09} {callB:Nat->q09} {lhA:LH} {lhB:Nat->LH} (hc:∀ f args S r,callA f args S=some r->Late fun m=>callB m f args S=some r) (hh:HLate lhA.h fun m=>(lhB m).h):∀ (ops:List OpC) {s:MSt} {k:MSt->Option RV} {r:RV} {km:Nat->MSt->Option RV},(∀ s' r',k s'=some r'->Late fun m=>km m s'=some r')->q1q callA lhA ops s k=some r->Late fun m=>q1q (callB m) (lhB m) ops s (km m)=some r
 | [],s,k,r,km,hk,h=>hk _ _ h
 | o :: l,s,k,r,km,hk,h=>stepK_late hc hh o (km:=fun m s=>q1q (callB m) (lhB m) l s (km m)) (fun s' r' h'=>ops_late hc hh l hk h') h
theorem q0v {callA:q09} {lpA:LH} {callB:Nat->q09} {lpB:Nat->LH} (hc:∀ f args S r,callA f args S=some r->Late fun m=>callB m f args S=some r) (hh:HLate lpA.h fun m=>(lpB m).h)
  (hl:∀ b s k r (km:Nat->Ex->MSt->Option RV),(∀ e s' r',k e s'=some r'->Late fun m=>km m e s'=some r')->lpA b s k=some r->Late fun m=>lpB m b s (km m)=some r) :
  ∀ (c:C) (s:MSt) (k:Ex->MSt->Option RV) (r:RV) (km:Nat->Ex->MSt->Option RV),(∀ e s' r',k e s'=some r'->Late fun m=>km m e s'=some r')->c.run callA lpA s k=some r->Late fun m=>c.run (callB m) (lpB m) s (km m)=some r
 | .skip,s,k,r,km,hk,h=>hk _ _ _ h
 | .exit id,s,k,r,km,hk,h=>hk _ _ _ h
 | .ret,s,k,r,km,hk,h=>hk _ _ _ h
 | .seq a b,s,k,r,km,hk,h=>by
  refine q0v hc hh hl a s _ r (fun m e s'=>match e with | .nrm=>b.run (callB m) (lpB m) s' (km m) | e=>km m e s') (fun e s' r' h'=>?_) h;cases e with
  | nrm=>exact q0v hc hh hl b s' k r' km hk h'
  | exit id=>exact hk _ _ _ h'
  | ret=>exact hk _ _ _ h'
 | .reg ops,s,k,r,km,hk,h=>by
  simp only [C.run] at h ⊢;exact ops_late hc hh ops (km:=fun m s=>km m .nrm { s with next:=s.next + 1 }) (fun s' r' h'=>hk _ _ _ h') h
 | .cond x t e,s,k,r,km,hk,h=>by
  simp only [C.run] at h ⊢;cases hv:x.get s with
  | bool b =>
   rw [hv] at h;cases b with
   | true=>exact q0v hc hh hl t s k r km hk (by simpa using h)
   | false=>exact q0v hc hh hl e s k r km hk (by simpa using h)
  | _=>rw [hv] at h; cases h
 | .block id b,s,k,r,km,hk,h=>by
  refine q0v hc hh hl b s _ r (fun m e s'=>match e with | .exit j=>if j=id then km m .nrm s' else km m (.exit j) s' | e=>km m e s') (fun e s' r' h'=>?_) h;cases e with
  | nrm=>exact hk _ _ _ h'
  | ret=>exact hk _ _ _ h'
  | exit j =>
   simp only at h' ⊢;by_cases e:j=id
   ·rw [if_pos e] at h'; simp only [if_pos e]; exact hk _ _ _ h'
   ·rw [if_neg e] at h'; simp only [if_neg e]; exact hk _ _ _ h'
 | .loop b,s,k,r,km,hk,h=>hl b s k r km hk h
variable {T:Nat->Option FnC} {ext:q09}
theorem N_mono {ext':q09} (hx:∀ f args S r,ext f args S=some r->ext' f args S=some r):∀ N,(∀ f args S r,q16 T ext N f args S=some r->Late fun m=>q16 T ext' m f args S=some r) ∧
  (∀ b s k r (km:Nat->Ex->MSt->Option RV),(∀ e s' r',k e s'=some r'->Late fun m=>km m e s'=some r')->lpN T ext N b s k=some r->Late fun m=>lpN T ext' m b s (km m)=some r) ∧
  HLate (hpN T ext N) (hpN T ext')
 | 0=>by
  refine ⟨fun f args S r h=>⟨0,fun m _=>?_⟩,fun b s k r km _ h=>(by cases h),fun f xs s k r km _ h=>(by cases h)⟩;unfold q16 at h;cases hT:T f with
  | none=>rw [hT] at h; cases m <;> (unfold q16; rw [hT]; exact hx _ _ _ _ h)
  | some c=>rw [hT] at h; cases h
 | N + 1=>by
  obtain ⟨ih1,ih2,ih3⟩:=N_mono hx N;refine ⟨?_,?_,?_⟩
  ·intro f args S0 r h;unfold q16 at h;cases hT:T f with
   | none=>rw [hT] at h; exact ⟨0,fun m _=>by cases m <;> (unfold q16; rw [hT]; exact hx _ _ _ _ h)⟩
   | some c =>
    rw [hT] at h;cases hm:markR args with
    | some rest =>
     cases S0 with
     | none=>rw [hm] at h; cases h
     | some S =>
      cases S with
      | agg cs =>
       rw [hm] at h;simp only at h;split at h
       ·rename_i hl;refine Late.pred ((q0v (lpA:=⟨lpN T ext N,hpN T ext N⟩) (lpB:=fun m=>⟨lpN T ext' m,hpN T ext' m⟩) ih1 ih3 ih2 c.code _ _ r (fun _=>finR c cs.length) (fun e s' r' h'=>Late.now h') h).imp fun m hm'=>?_);unfold q16;rw [hT];simp only [hm];rw [if_pos hl];exact hm'
       ·cases h
      | _=>rw [hm] at h; cases h
    | none =>
     rw [hm] at h;simp only at h;split at h
     ·rename_i hl;refine Late.pred ((q0v (lpA:=⟨lpN T ext N,hpN T ext N⟩) (lpB:=fun m=>⟨lpN T ext' m,hpN T ext' m⟩) ih1 ih3 ih2 c.code _ _ r (fun _=>fin c S0) (fun e s' r' h'=>Late.now h') h).imp fun m hm'=>?_);unfold q16;rw [hT];simp only [hm];rw [if_pos hl];exact hm'
     ·cases h
  ·intro b s k r km hk h;unfold lpN at h;refine Late.pred ((q0v (lpA:=⟨lpN T ext N,hpN T ext N⟩) (lpB:=fun m=>⟨lpN T ext' m,hpN T ext' m⟩) ih1 ih3 ih2 b s _ r (fun m=>again (lpN T ext' m) b (km (m + 1))) (fun e s' r' h'=>?_) h).imp fun m hm=>?_)
   ·cases e with
    | nrm=>exact ih2 b s' k r' (fun m=>km (m + 1)) (fun e s'' r'' h''=>(hk e s'' r'' h'').succ) h'
    | exit id=>exact (hk _ _ _ h').succ
    | ret=>exact (hk _ _ _ h').succ
   ·unfold lpN;exact hm
  ·intro f xs s k r km hk h;unfold hpN at h;cases hT:T f with
   | none=>rw [hT] at h; cases h
   | some c =>
    rw [hT] at h;simp only at h;split at h
    ·rename_i hl;refine Late.pred ((q0v (lpA:=⟨lpN T ext N,hpN T ext N⟩) (lpB:=fun m=>⟨lpN T ext' m,hpN T ext' m⟩) ih1 ih3 ih2 c.code _ _ r (fun m=>finH c (km (m + 1))) (fun e s' r' h'=>?_) h).imp fun m hm=>?_)
     ·cases e with
      | exit id=>cases h'
      | nrm =>
       simp only [finH] at h' ⊢;obtain ⟨y,hy,h'⟩:=y4.1 h';simp only [hy,y0];exact (hk _ _ _ h').succ
      | ret =>
       simp only [finH] at h' ⊢;obtain ⟨y,hy,h'⟩:=y4.1 h';simp only [hy,y0];exact (hk _ _ _ h').succ
     ·unfold hpN;rw [hT];simp only;rw [if_pos hl];exact hm
    ·cases h
theorem q54:∀ N,(∀ f args S r,q16 T ext N f args S=some r->Late fun m=>q16 T ext m f args S=some r) ∧
  (∀ b s k r (km:Nat->Ex->MSt->Option RV),(∀ e s' r',k e s'=some r'->Late fun m=>km m e s'=some r')->lpN T ext N b s k=some r->Late fun m=>lpN T ext m b s (km m)=some r)/\HLate (hpN T ext N) (hpN T ext):=N_mono fun _ _ _ _ h=>h
open Classical in
noncomputable def evC (T:Nat->Option FnC) (ext:q09) (f:Nat) (args:List AV) (S0:Option AV):Option RV:=if h:∃ r n,q16 T ext n f args S0=some r then some h.choose else none
open Classical in
noncomputable def evL (T:Nat->Option FnC) (ext:q09):LpT:=fun b s k=>if h:∃ r n,lpN T ext n b s k=some r then some h.choose else none
open Classical in
noncomputable def evH (T:Nat->Option FnC) (ext:q09):HpT:=fun f xs s k=>if h:∃ r n,hpN T ext n f xs s k=some r then some h.choose else none
noncomputable def evK (T:Nat->Option FnC) (ext:q09):LH:=⟨evL T ext,evH T ext⟩
theorem q1X {f:Nat} {args:List AV} {S0:Option AV} {r:RV}:evC T ext f args S0=some r ↔ ∃ n,q16 T ext n f args S0=some r:=by
 unfold evC;constructor
 ·intro h;split at h
  ·rename_i hh; injection h with h; exact h ▸ hh.choose_spec
  ·cases h
 ·rintro ⟨n,hn⟩;have hh:∃ r n,q16 T ext n f args S0=some r:=⟨r,n,hn⟩;rw [dif_pos hh];obtain ⟨n',hn'⟩:=hh.choose_spec;obtain ⟨m,h1,h2⟩:=(((q54 n).1 f args S0 r hn).and ((q54 n').1 f args S0 _ hn')).some;rw [h1] at h2;exact h2.symm
theorem evL_some {b:C} {s:MSt} {k:Ex->MSt->Option RV} {r:RV}:evL T ext b s k=some r ↔ ∃ n,lpN T ext n b s k=some r:=by
 unfold evL;constructor
 ·intro h;split at h
  ·rename_i hh; injection h with h; exact h ▸ hh.choose_spec
  ·cases h
 ·rintro ⟨n,hn⟩;have hh:∃ r n,lpN T ext n b s k=some r:=⟨r,n,hn⟩;rw [dif_pos hh];obtain ⟨n',hn'⟩:=hh.choose_spec;obtain ⟨m,h1,h2⟩:=(((q54 n).2.1 b s k r (fun _=>k) (fun e s' r' h=>Late.now h) hn).and ((q54 n').2.1 b s k _ (fun _=>k) (fun e s' r' h=>Late.now h) hn')).some;rw [h1] at h2;exact h2.symm
theorem evH_some {f:Nat} {xs:List Slot} {s:MSt} {k:Slot->MSt->Option RV} {r:RV}:evH T ext f xs s k=some r ↔ ∃ n,hpN T ext n f xs s k=some r:=by
 unfold evH;constructor
 ·intro h;split at h
  ·rename_i hh; injection h with h; exact h ▸ hh.choose_spec
  ·cases h
 ·rintro ⟨n,hn⟩;have hh:∃ r n,hpN T ext n f xs s k=some r:=⟨r,n,hn⟩;rw [dif_pos hh];obtain ⟨n',hn'⟩:=hh.choose_spec;obtain ⟨m,h1,h2⟩:=(((q54 n).2.2 f xs s k r (fun _=>k) (fun e s' r' h=>Late.now h) hn).and ((q54 n').2.2 f xs s k _ (fun _=>k) (fun e s' r' h=>Late.now h) hn')).some;rw [h1] at h2;exact h2.symm
theorem evC_mono {ext':q09} (hx:∀ f args S r,ext f args S=some r->ext' f args S=some r) {f:Nat} {args:List AV} {S0:Option AV} {r:RV} (h:evC T ext f args S0=some r):evC T ext' f args S0=some r:=by
 obtain ⟨n,hn⟩:=q1X.1 h;exact q1X.2 ((N_mono hx n).1 f args S0 r hn).some
theorem q6S (f:Nat) (args:List AV) (S0:Option AV) (r:RV) (h:evC T ext f args S0=some r):Late fun m=>q16 T ext m f args S0=some r:=by
 obtain ⟨n,hn⟩:=q1X.1 h;exact (q54 n).1 f args S0 r hn
theorem ev_late2 (b:C) (s:MSt) (k:Ex->MSt->Option RV) (r:RV) (km:Nat->Ex->MSt->Option RV) (hk:∀ e s' r',k e s'=some r'->Late fun m=>km m e s'=some r') (h:evL T ext b s k=some r):Late fun m=>lpN T ext m b s (km m)=some r:=by
 obtain ⟨n,hn⟩:=evL_some.1 h;exact (q54 n).2.1 b s k r km hk hn
theorem ev_late3:HLate (evH T ext) (hpN T ext):=fun f xs s k r km hk h=>by
 obtain ⟨n,hn⟩:=evH_some.1 h;exact (q54 n).2.2 f xs s k r km hk hn
theorem ev_code (c:C) (s:MSt) (k:Ex->MSt->Option RV) (r:RV) (km:Nat->Ex->MSt->Option RV) (hk:∀ e s' r',k e s'=some r'->Late fun m=>km m e s'=some r') (h:c.run (evC T ext) (evK T ext) s k=some r):Late fun m=>c.run (q16 T ext m) ⟨lpN T ext m,hpN T ext m⟩ s (km m)=some r :=
 q0v (lpA:=evK T ext) (lpB:=fun m=>⟨lpN T ext m,hpN T ext m⟩) q6S ev_late3 ev_late2 c s k r km hk h
theorem evC_intro {f:Nat} {args:List AV} {S0:Option AV} {r:RV} (c:FnC) (hT:T f=some c) (hl:args.length=c.np) (h:c.code.run (evC T ext) (evK T ext) (MSt.init args S0) (fin c S0)=some r) (hm:q3s args=false:=by rfl) (hS:noItO S0=true:=by rfl):evC T ext f args S0=some r:=by
 obtain ⟨m,hm'⟩:=(ev_code c.code _ _ r (fun _=>fin c S0) (fun e s' r' h'=>Late.now h') h).some;refine q1X.2 ⟨m + 1,?_⟩;have hR:markR args=none:=by
  unfold markR;split
  ·cases hm
  ·rfl
 unfold q16;rw [hT];simp only [hR];rw [if_pos ⟨hl,hm,hS⟩];exact hm'
theorem q1p {b:C} {s:MSt} {k:Ex->MSt->Option RV} {r:RV} (h:b.run (evC T ext) (evK T ext) s (again (evL T ext) b k)=some r):evL T ext b s k=some r:=by
 have:=ev_code b s _ r (fun m=>again (lpN T ext m) b k) (fun e s' r' h'=>by
  cases e with
  | nrm=>exact ev_late2 b s' k r' (fun _=>k) (fun e s'' r'' h''=>Late.now h'') h'
  | exit id=>exact Late.now h'
  | ret=>exact Late.now h') h
 obtain ⟨m,hm⟩:=this.some;refine evL_some.2 ⟨m + 1,?_⟩;unfold lpN;exact hm
theorem q6T {P:Program} {O:Objs} (hm:P.follows .mixedOrders=true) (hT:∀ f c,T f=some c->FnOk P f c) (hext:∀ f args S r,ext f args S=some r->q0n P O f args S r) {f:Nat} {args:List AV} {S0:Option AV} {r:RV} (h:evC T ext f args S0=some r):q0n P O f args S0 r:=by
 obtain ⟨n,hn⟩:=q1X.1 h;exact (call_sound hm hT hext n).1 f args S0 r hn
end
end
section
open Go Go.RowKit Go.ChangeShapes Go.WideShapes Go.Deep
section
variable {H:Type} {enc:TypeId × Value->H} {P:Program} {w:World} {base:Nat} {spare:Nat->Bool} {held:Bool}
theorem Rows_of {av:Av} {b sz:Nat}:∀ {els:List (List AV)} {off:Nat},(∀ av1∈els,av1.length=sz)->(∀ (i:Nat) (av1:List AV),els[i]?=some av1->q13 av w av1 b (off + i * sz))->Rows av w els b off
 | [],_,_,_=>by simp [Rows]
 | av1 :: r,off,hl,h=>by
  simp only [Rows];have h0:=h 0 av1 rfl;rw [Nat.zero_mul,Nat.add_zero] at h0;refine ⟨h0,Rows_of (fun x hx=>hl x (ym _ hx)) fun i x hx=>?_⟩;have:=h (i + 1) x (by simpa using hx);rw [hl av1 yd,show off + sz + i * sz=off + (i + 1) * sz from by rw [yh]; omega];exact this
abbrev Av0:Av:=fun _ _=>False
end
end
section
open Go Go.RowKit Go.ChangeShapes Go.WideShapes Go.Deep
def q4b (P:Program) (t:TypeId):Bool:=match P.underlying t with
 | some (.struct _) | some (.array ..)=>true
 | _=>false
section
variable {H:Type} {enc:TypeId × Value->H} {P:Program} {w:World} {base:Nat} {spare:Nat->Bool} {held:Bool}
theorem args_back (hl:laidOutB P=true) {W W':World} (hb:Below W.heap.size W W'):∀ {ts:List TypeId} {vs:List Value} {ds:List (DataW H)} {p:List MemPlace},DataW.TrodAll enc P W 0 (fun _=>true) true ts vs ds p->ts.all (fun t=>P.readableRec t&&decide (t<P.types.size))=true →
  DataW.TrodAll enc P W' 0 (fun b=>decide (b<W.heap.size)) true ts vs ds p
 | [],vs,ds,p,h,_=>by
  cases vs with
  | nil=>cases ds with
   | nil=>exact h
   | cons=>exact h.elim
  | cons=>cases ds <;> exact h.elim
 | t :: ts,vs,ds,p,h,hs=>by
  have hlt:=DataW.TrodAll.lt h;obtain ⟨v,vs',d,ds',p',q',rfl,rfl,rfl,h0,h⟩:=trodAll_cons h;simp only [List.all_cons,y8,decide_eq_true_eq] at hs;exact trodAll_cons_mk (Below.trod hl hs.1.1 hs.1.2 h0 hb fun x hx=>hlt x (List.mem_append_left _ hx)) (args_back hl hb h hs.2)
end
end
section
open Go Go.RowKit Go.ChangeShapes Go.WideShapes Go.Deep
def PartsT (P:Program) (r:TypeId->List AV->Prop):List Field->List AV->Prop
 | [],av1=>av1=[]
 | f :: fs,av1=>∃ a b,av1=a++b/\a.length=P.cellsOf f.type/\r f.type a/\PartsT P r fs b
def ArrT (P:Program) (r:TypeId->List AV->Prop) (e:TypeId):Nat->List AV->Prop
 | 0,av1=>av1=[]
 | n + 1,av1=>∃ a b,av1=a++b/\a.length=P.cellsOf e/\r e a/\ArrT P r e n b
def TyT (P:Program):Nat->TypeId->List AV->Prop
 | 0,_,_=>False
 | n + 1,t,av1=>match P.underlying t with
  | some .bool=>∃ b,av1=[.bool b]
  | some (.int k)=>∃ i,av1=[.int k i]/\(Lit.int k i).wf=true
  | some .string=>∃ s,av1=[.str s]/\s.size<=maxLen
  | some (.slice e)=>∃ nl els,av1=[.sl nl els]/\els.length<=maxLen/\els.length * P.bytesOf e<=reachBytes/\(nl=true->els=[])/\∀ x∈els,x.length=P.cellsOf e/\TyT P n e x
  | some (.struct fs)=>PartsT P (TyT P n) fs.toList av1
  | some (.array k e)=>ArrT P (TyT P n) e k av1
  | _=>False
def goodFs (P:Program) (ts:List TypeId):Nat->Nat->List Field->Bool
 | off,total,[]=>decide (off=total)
 | off,total,f :: fs=>decide (f.offset=off)&&ts.contains f.type&&goodFs P ts (off + P.cellsOf f.type) total fs
def q6k (P:Program) (ts:List TypeId) (t:TypeId):Bool:=match P.underlying t with
 | some .bool | some (.int _) | some .string=>decide (P.cellsOf t=1)
 | some (.slice e)=>ts.contains e&&decide (0<P.cellsOf e)&&decide (P.cellsOf t=1)
 | some (.struct fs)=>goodFs P ts 0 (P.cellsOf t) fs.toList
 | some (.array k e)=>ts.contains e&&decide (0<P.cellsOf e)&&decide (k * P.cellsOf e=P.cellsOf t)
 | _=>false
section
variable {H:Type} {enc:TypeId × Value->H} {P:Program} {w:World} {base:Nat} {spare:Nat->Bool} {held:Bool}
theorem open_sliceN {t e:TypeId} {fuel:Nat} {cs:List Value} {x:DataW H × List MemPlace} (ht:P.underlying t=some (.slice e)) (h:DataW.trod enc P w base spare held fuel t cs=some x) :
  (∃ n,fuel=n + 1)/\((cs=[.slice none 0 0]) ∨
  ∃ (a:Addr) (len cap n:Nat) (y:Nat->DataW H × List MemPlace) (D sp:List (DataW H)),cs=[.slice (some a) len cap]/\fuel=n + 1/\len<=cap/\cap<=maxLen/\x.1=.slice D sp/\D.length=len/\(∀ i,i<len->(y i).1∈D) ∧
   ∀ i,i<len->∃ cs',w.cells? base (a.add (i * P.cellsOf e)) (P.cellsOf e)=some cs'/\DataW.trod enc P w base spare held n e cs'=some (y i)):=by
 refine ⟨?_,?_⟩
 ·cases fuel with
  | zero=>simp [DataW.trod] at h
  | succ n=>exact ⟨n,rfl⟩
 rcases DataW.trod_slice ht h with h0 | ⟨a,len,cap,elems,rest,n,hfu,rfl,rfl,hb,hl,hm,hlen,hel,hsp,hns⟩
 ·exact Or.inl h0.1
 right;refine ⟨a,len,cap,n,fun i=>elems.getD i (.nil,[]),elems.map (·.1),rest.map (·.1),rfl,hfu,hl,hm,rfl,by simpa using hlen,fun i hi=>?_,fun i hi=>?_⟩
 ·have e:elems.getD i (.nil,[])=elems[i]'(by omega):=by simp [List.getD,yj (show i<elems.length by omega)]
  show (elems.getD i (.nil,[])).1∈_;rw [e];exact List.mem_map_of_mem (List.getElem_mem _)
 have key:=hel i hi;rw [yj (by omega)] at key;obtain ⟨cs',h1,h2⟩:=y4.1 key;refine ⟨cs',h1,?_⟩;rw [h2];simp [List.getD,yj (show i<elems.length by omega)]
theorem q53 {e:TypeId}:∀ {D:List (DataW H)} {d:DataW H},d∈D->∀ m∈d.weights P e,m∈DataW.weightsAll P e D
 | d0 :: r,d,h,m,hm=>by
  simp only [DataW.weightsAll,List.mem_append];rcases yu.1 h with rfl | h
  ·exact .inl hm
  ·exact .inr (q53 h m hm)
def q40 (P:Program) (t:TypeId) (d:DataW H):Prop:=∀ m∈d.weights P t,m<=reachBytes
theorem light_elem {t e:TypeId} {D sp:List (DataW H)} (ht:P.underlying t=some (.slice e)) (h:q40 P t (.slice D sp)) {d:DataW H} (hd:d∈D):q40 P e d:=fun m hm=>h m (by
 simp only [DataW.weights,ht,yu,List.mem_append];exact .inr (.inl (q53 hd m hm)))
theorem light_len {t e:TypeId} {D sp:List (DataW H)} (ht:P.underlying t=some (.slice e)) (h:q40 P t (.slice D sp)):D.length * P.bytesOf e<=reachBytes:=by
 have:=h ((D.length + sp.length) * P.bytesOf e) (by simp [DataW.weights,ht]);exact ye (yF _ (by omega)) this
theorem light_arr {t e:TypeId} {k:Nat} {D:List (DataW H)} (ht:P.underlying t=some (.array k e)) (h:q40 P t (.agg D)) {d:DataW H} (hd:d∈D):q40 P e d:=fun m hm=>h m (by
 simp only [DataW.weights,ht];exact q53 hd m hm)
theorem light_field {t:TypeId} {fs:Array Field} {D:List (DataW H)} (ht:P.underlying t=some (.struct fs)) (h:q40 P t (.agg D)) {i:Nat} {f:Field} {d:DataW H} (hf:fs.toList[i]?=some f) (hd:D[i]?=some d):q40 P f.type d:=fun m hm=>h m (by
 simp only [DataW.weights,ht];exact DataW.weights_mem_each (j:=i) (by rw [yq,hf]; rfl) hd m hm)
theorem fields_T {ts:List TypeId} {n:Nat} {cs:List Value}
  (ih:∀ (t:TypeId) (cs:List Value) (x:DataW H × List MemPlace),ts.contains t=true->q40 P t x.1->DataW.trod enc P w base spare held n t cs=some x->∃ av1,RepL Av0 w av1 cs/\TyT P n t av1/\av1.length=P.cellsOf t) :
  ∀ (fs:List Field) (off:Nat),goodFs P ts off cs.length fs=true->(∀ f∈fs,∃ x,q40 P f.type x.1/\DataW.trod enc P w base spare held n f.type ((cs.drop f.offset).take (P.cellsOf f.type))=some x)->∃ av1,RepL Av0 w av1 (cs.drop off)/\PartsT P (TyT P n) fs av1
 | [],off,h,_=>by
  simp only [goodFs,decide_eq_true_eq] at h;refine ⟨[],?_,rfl⟩;rw [List.drop_eq_nil_of_le (by omega)];rfl
 | f :: fs,off,h,hx=>by
  simp only [goodFs,y8,decide_eq_true_eq] at h;obtain ⟨⟨ho,ht⟩,h⟩:=h;obtain ⟨x,hlt,hx0⟩:=hx f yd;obtain ⟨av1,h1,h2,h2'⟩:=ih _ _ _ ht hlt hx0;obtain ⟨bs,h3,h4⟩:=fields_T ih fs (off + P.cellsOf f.type) h fun g hg=>hx g (ym _ hg)
  refine ⟨av1++bs,?_,av1,bs,rfl,h2',h2,h4⟩;have:cs.drop off=(cs.drop off).take (P.cellsOf f.type)++cs.drop (off + P.cellsOf f.type):=by rw [<- List.drop_drop,List.take_append_drop]
  rw [this];rw [ho] at h1;exact q1v h1 h3
theorem array_T {e:TypeId} {n:Nat} {cs:List Value} (f:∀ i:Nat,i * P.cellsOf e<cs.length->∃ av1,RepL Av0 w av1 ((cs.drop (i * P.cellsOf e)).take (P.cellsOf e))/\TyT P n e av1/\av1.length=P.cellsOf e) (hp:0<P.cellsOf e) :
  ∀ (m i:Nat),(i + m) * P.cellsOf e=cs.length->∃ av1,RepL Av0 w av1 (cs.drop (i * P.cellsOf e))/\ArrT P (TyT P n) e m av1
 | 0,i,h=>by
  refine ⟨[],?_,rfl⟩;rw [List.drop_eq_nil_of_le (by simp at h; omega)];rfl
 | m + 1,i,h=>by
  have h1:(i + 1 + m) * P.cellsOf e=cs.length:=by rw [<- h]; congr 1; omega
  have hs:(i + 1) * P.cellsOf e=i * P.cellsOf e + P.cellsOf e:=yh i _;have hlt:i * P.cellsOf e<cs.length:=by
   have:(i + 1) * P.cellsOf e<=(i + (m + 1)) * P.cellsOf e:=yF _ (by omega);omega
  obtain ⟨av1,g1,g2,g2'⟩:=f i hlt;obtain ⟨av2,g3,g4⟩:=array_T f hp m (i + 1) h1;refine ⟨av1++av2,?_,av1,av2,rfl,g2',g2,g4⟩;have:cs.drop (i * P.cellsOf e)=(cs.drop (i * P.cellsOf e)).take (P.cellsOf e)++cs.drop ((i + 1) * P.cellsOf e):=by rw [hs,<- List.drop_drop,List.take_append_drop]
  rw [this];exact q1v g1 g3
theorem q2Z {av:Av}:∀ {l:List AV} {us:List Value},RepL av w l us->l.length=us.length
 | [],us,h=>by simp only [RepL] at h; subst h; rfl
 | a :: r,us,h=>by
  simp only [RepL] at h;obtain ⟨u,us',rfl,_,_,h⟩:=h;simp [q2Z h]
theorem trod_T {ts:List TypeId} (hg:ts.all (q6k P ts)=true):∀ (n:Nat) (t:TypeId) (cs:List Value) (x:DataW H × List MemPlace),ts.contains t=true->q40 P t x.1->DataW.trod enc P w base spare held n t cs=some x->∃ av1,RepL Av0 w av1 cs/\TyT P n t av1/\av1.length=P.cellsOf t
 | 0,t,cs,x,_,_,hx=>by simp [DataW.trod] at hx
 | n + 1,t,cs,x,hmem,hlw,hx=>by
  have h:q6k P ts t=true:=y5.1 hg t (by simpa using hmem);unfold q6k at h;split at h
  ·rename_i ht;simp only [decide_eq_true_eq] at h;obtain ⟨b,rfl,_⟩:=DataW.trod_bool ht hx;exact ⟨[.bool b],⟨_,_,rfl,rfl,rfl,rfl⟩,by simp only [TyT,ht]; exact ⟨b,rfl⟩,by simp [h]⟩
  ·rename_i kk ht;simp only [decide_eq_true_eq] at h;obtain ⟨b,rfl,_,hw⟩:=DataW.trod_int ht hx;exact ⟨[.int kk b],⟨_,_,rfl,rfl,rfl,rfl⟩,by simp only [TyT,ht]; exact ⟨b,rfl,hw⟩,by simp [h]⟩
  ·rename_i ht;simp only [decide_eq_true_eq] at h;obtain ⟨b,rfl,_,hw⟩:=DataW.trod_string ht hx;exact ⟨[.str b],⟨_,_,rfl,rfl,rfl,rfl⟩,by simp only [TyT,ht]; exact ⟨b,rfl,hw⟩,by simp [h]⟩
  ·rename_i e ht;simp only [y8,decide_eq_true_eq] at h;obtain ⟨⟨he,hpos⟩,hc1⟩:=h;rcases (open_sliceN ht hx).2 with rfl | ⟨a,len,cap,n',y,D,sp,rfl,hn,hle,hcm,hxe,hDl,hyD,hi⟩
   ·exact ⟨[.sl true []],⟨_,_,rfl,⟨none,0,rfl,yc _,(fun _ h=>by cases h),fun _=>⟨rfl,rfl,rfl⟩,fun h=>by cases h⟩,rfl,rfl⟩,by simp only [TyT,ht]; exact ⟨true,[],rfl,Nat.zero_le _,by simp,fun _=>rfl,(fun _ h=>by cases h)⟩,by simp [hc1]⟩
   ·have hn':n'=n:=by omega
    subst hn';rw [hxe] at hlw;have hbl:=light_len ht hlw;rw [hDl] at hbl;have hrow:∀ i:Nat,∃ av1:List AV,i<len->((av1.length=P.cellsOf e/\TyT P n' e av1)/\∃ us,RepL Av0 w av1 us/\us.length=P.cellsOf e/\∀ j,j<P.cellsOf e->w.cell? ((a.add (i * P.cellsOf e)).add j)=us[j]?):=fun i=>by
     by_cases hlt:i<len
     ·obtain ⟨us,hc1,hc2⟩:=hi i (by omega);obtain ⟨av1,h1,h2,h2'⟩:=trod_T hg n' e us _ he (light_elem ht hlw (hyD i hlt)) hc2;obtain ⟨_,g1,g2⟩:=World.cells?_some hc1;exact ⟨av1,fun _=>⟨⟨h2',h2⟩,us,h1,g1,g2⟩⟩
     ·exact ⟨[],fun h=>absurd h hlt⟩
    have hrow':=Classical.axiomOfChoice hrow;obtain ⟨f,hf⟩:=hrow';have hels:∀ av1∈(List.range len).map f,av1.length=P.cellsOf e/\TyT P n' e av1:=fun av1 ha=>by
     obtain ⟨i,hi',rfl⟩:=List.mem_map.1 ha;exact (hf i (List.mem_range.1 hi')).1
    refine ⟨[.sl false ((List.range len).map f)],⟨_,_,rfl,⟨some a,cap,by simp,by simpa using hle,fun x hx y hy=>((hels x hx).1).trans ((hels y hy).1).symm,(fun h=>by cases h),fun _=>⟨fun h=>(by cases h),fun h0=>?_⟩⟩,rfl,rfl⟩,by simp only [TyT,ht]; exact ⟨false,_,rfl,by simp; omega,by simpa using hbl,(fun h=>by cases h),hels⟩,by simp [hc1]⟩;have h0':0<len:=by simpa using h0
    have hspot:∃ b off,a=⟨b,off,none⟩:=by
     obtain ⟨_,us,_,g1,g2⟩:=hf 0 h0';have g3:=g2 0 hpos;simp only [Nat.zero_mul,Addr.add,if_true] at g3;rw [yj (by omega)] at g3;obtain ⟨b,off,sp⟩:=a;cases sp with
     | none=>exact ⟨b,off,rfl⟩
     | some q =>
      simp only [World.cell?] at g3;split at g3
      ·simp at g3
      ·cases g3
    obtain ⟨b,off,rfl⟩:=hspot;refine ⟨b,off,rfl,Rows_of (fun x hx=>(hels x hx).1) fun i av1 hget=>?_⟩;rw [yq] at hget;obtain ⟨i',hi',rfl⟩:=y9.1 hget;rw [yb] at hi';obtain ⟨hlt,he'⟩:=hi';simp at hlt he';subst he';obtain ⟨_,us,g0,g1,g2⟩:=hf i hlt;refine q2k g0 fun j u hu=>⟨?_,fun h=>h⟩
    have hj:j<P.cellsOf e:=by rw [<- g1]; exact (yb.1 hu).1
    have:=g2 j hj;rw [Addr.add_lit,Addr.add_lit,hu] at this;exact this
  ·rename_i fs ht;obtain ⟨xs,n',hn,rfl,hlen,hxl,hf⟩:=DataW.trod_struct ht hx;have hn':n'=n:=by omega
   subst hn';rw [<- hlen] at h;obtain ⟨av1,h1,h2⟩:=fields_T (cs:=cs) (n:=n') (fun t cs x=>trod_T hg n' t cs x) fs.toList 0 h fun g hg=>by
    obtain ⟨i,hi,he⟩:=List.getElem_of_mem hg;have hi':i<fs.size:=by simpa using hi
    have h1:=hf i g (by rw [<- he]; simp [hi']);refine ⟨xs[i]'(by omega),light_field ht hlw (i:=i) (f:=g) (by rw [<- he]; simp [hi']) ?_,by rw [h1]; exact yj (by omega)⟩;rw [yq,yj (by omega)];rfl
   rw [List.drop_zero] at h1;exact ⟨av1,h1,by simp only [TyT,ht]; exact h2,(q2Z h1).trans hlen⟩
  ·rename_i k e ht;simp only [y8,decide_eq_true_eq] at h;obtain ⟨⟨he,hpos⟩,hc1⟩:=h;obtain ⟨xs,m,hm,rfl,hlen,hxl,hf⟩:=DataW.trod_array ht hx;have hm':m=n:=by omega
   subst hm';obtain ⟨av1,h1,h2⟩:=array_T (cs:=cs) (n:=m) (e:=e) (fun i hi=>by
    have hik:i<k:=by
     rw [hlen,<- hc1] at hi;exact Nat.lt_of_mul_lt_mul_right hi
    have h1:=hf i hik;rw [yj (by omega)] at h1;exact trod_T hg m e _ _ he (light_arr ht hlw (List.mem_map_of_mem (List.getElem_mem _))) h1) hpos k 0 (by rw [yi,hlen,hc1])
   rw [Nat.zero_mul,List.drop_zero] at h1;exact ⟨av1,h1,by simp only [TyT,ht]; exact h2,(q2Z h1).trans hlen⟩
  ·cases h
def ParT (P:Program) (t:TypeId) (a:AV):Prop:=∃ n,(q4b P t=true/\∃ cs,a=.agg cs/\TyT P n t cs)\/(q4b P t=false/\TyT P n t [a])
def ArgsT (P:Program):List TypeId->List AV->Prop
 | [],xs=>xs=[]
 | t :: ts,xs=>∃ a r,xs=a :: r/\ParT P t a/\ArgsT P ts r
theorem par_T {ts:List TypeId} (hg:ts.all (q6k P ts)=true) {t:TypeId} {r:Reach} {b0:Nat} {v:Value} {d:DataW H} {p:List MemPlace} (hs:ts.contains t=true) (hv:Value.okWide P w r b0 t v) (hlw:q40 P t d) (h:DataW.Trod enc P w base spare held t v d p) :
  ∃ a,RepS Ix.none Av0 Av0 w a v/\ParT P t a:=by
 obtain ⟨fuel,hf⟩:=h;obtain ⟨xs,h1,h2,_⟩:=trod_T hg fuel t _ _ hs hlw hf;have one:∀ (u:Value),v=u->v.cells.toList=[u]->q4b P t=false->(∀ a,TyT P fuel t [a]->a.leaf=true)->∃ a,RepS Ix.none Av0 Av0 w a v/\ParT P t a:=fun u hu hc hw hleaf=>by
  rw [hc] at h1;have hl:=q2Z h1
  match xs,hl with
  | [a],_ =>
   simp only [RepL] at h1;obtain ⟨u',_,e,h0,_,_⟩:=h1;injection e with e;subst e;exact ⟨a,by rw [hu]; exact RepS_of_rep h0 (hleaf a h2),fuel,.inr ⟨hw,h2⟩⟩
 cases fuel with
 | zero=>exact h2.elim
 | succ k =>
  have hgt:q6k P ts t=true:=y5.1 hg t (by simpa using hs);unfold q6k at hgt;split at hgt
  ·rename_i ht;obtain ⟨b,rfl⟩:=okWide_bool ht hv;refine one _ rfl rfl (by simp [q4b,ht]) fun a ha=>?_
   simp only [TyT,ht] at ha;obtain ⟨b',e⟩:=ha;injection e with e;subst e;rfl
  ·rename_i kk ht;obtain ⟨b,rfl⟩:=okWide_int ht hv;refine one _ rfl rfl (by simp [q4b,ht]) fun a ha=>?_
   simp only [TyT,ht] at ha;obtain ⟨b',e,_⟩:=ha;injection e with e;subst e;rfl
  ·rename_i ht;obtain ⟨b,rfl⟩:=okWide_string ht hv;refine one _ rfl rfl (by simp [q4b,ht]) fun a ha=>?_
   simp only [TyT,ht] at ha;obtain ⟨b',e,_⟩:=ha;injection e with e;subst e;rfl
  ·rename_i e' ht;obtain ⟨A,n,c,rfl⟩:=okWide_slice ht hv;refine one _ rfl rfl (by simp [q4b,ht]) fun a ha=>?_
   simp only [TyT,ht] at ha;obtain ⟨nl,els,e,_⟩:=ha;injection e with e;subst e;rfl
  ·rename_i fs ht;have:∃ cs,v=.agg cs:=by
    simp only [Value.okWide,ht] at hv;obtain ⟨cs,hv,_⟩:=hv;exact ⟨cs,hv⟩
   obtain ⟨cs,rfl⟩:=this;exact ⟨.agg xs,⟨cs,rfl,q0q h1⟩,k + 1,.inl ⟨by simp [q4b,ht],xs,rfl,h2⟩⟩
  ·rename_i n' e' ht;have:∃ cs,v=.agg cs:=by
    simp only [Value.okWide,ht] at hv;obtain ⟨cs,hv,_⟩:=hv;exact ⟨cs,hv⟩
   obtain ⟨cs,rfl⟩:=this;exact ⟨.agg xs,⟨cs,rfl,q0q h1⟩,k + 1,.inl ⟨by simp [q4b,ht],xs,rfl,h2⟩⟩
  ·cases hgt
theorem args_T {T:List TypeId} (hg:T.all (q6k P T)=true) {r:Reach} {b0:Nat}:∀ {ts:List TypeId} {vs:List Value} {ds:List (DataW H)} {p:List MemPlace},DataW.TrodAll enc P w base spare held ts vs ds p->(∀ (j:Nat) t v,ts[j]?=some t->vs[j]?=some v->Value.okWide P w r b0 t v)->(∀ m∈DataW.weightsEach P ts ds,m<=reachBytes)->ts.all (fun t=>T.contains t)=true →
  ∃ xs,RepA Ix.none Av0 Av0 w xs vs/\ArgsT P ts xs
 | [],vs,ds,p,h,_,_,_=>by
  cases vs with
  | nil=>exact ⟨[],rfl,rfl⟩
  | cons=>cases ds <;> exact h.elim
 | t :: ts,vs,ds,p,h,hv,hw,hs=>by
  obtain ⟨v,vs',d,ds',p',q',rfl,rfl,rfl,h0,h⟩:=trodAll_cons h;simp only [DataW.weightsEach,List.mem_append] at hw;simp only [List.all_cons,y8] at hs;obtain ⟨a,h1,h2⟩:=par_T hg hs.1 (hv 0 t v rfl rfl) (fun m hm=>hw m (.inl hm)) h0;obtain ⟨xs,h3,h4⟩:=args_T hg h (fun j t' v' e e'=>hv (j + 1) t' v' (by simpa using e) (by simpa using e')) (fun m hm=>hw m (.inr hm)) hs.2;exact ⟨a :: xs,⟨v,vs',rfl,h1,h3⟩,a,xs,rfl,h2,h4⟩
end
end
section
open Go Go.RowKit
theorem uBp:Tryz.prog.underlying 285=some (.pointer 287):=by kernel_rfl
theorem uBs:Tryz.prog.underlying 28=some (.slice 5):=by kernel_rfl
theorem uBu:Tryz.prog.underlying 299=some (.pointer 5):=by kernel_rfl
theorem uBstr:Tryz.prog.underlying 9=some .string:=by kernel_rfl
theorem uBint:Tryz.prog.underlying 3=some (.int .i64):=by kernel_rfl
theorem q4k:Tryz.prog.underlying 301=some .unsafePointer:=by kernel_rfl
theorem iB8:(Tryz.prog.info? 5).map (fun i=>(i.zero,i.size,i.bytes))=some (some (.int .u8 0),1,1):=by kernel_rfl
theorem iBb:(Tryz.prog.info? 287).map (fun i=>i.size)=some 2:=by kernel_rfl
theorem liesB:liesAt Tryz.prog Tryz.prog.depth 287 (2 / Tryz.prog.cellsOf 287) 0 287 1=true:=by kernel_rfl
theorem cB8:Tryz.prog.cellsOf 5=1:=by kernel_rfl
section
variable {P:Program}
theorem append_str_at (w:World) (t u ty e:TypeId) (i:TypeInfo) (ht:P.underlying t=some (.slice e)) (hu:P.underlying u=some .string) (hi:P.info? e=some i) (hz:i.zero=some (.int .u8 0)) (hsize:i.size=1) (hby:i.bytes=1)
  (v:Value) (n:Nat) (xs:List Value) (hown:w.ownsRowF 0 e 1 v n xs) (s:ByteArray) (h63:n + s.size<=maxLen) (hbytes:n + s.size<=140737488355328) :
  ∃ v' w',(Builtin.append_ #[t,u] ty #[v,.string s]).run P w=.ok v' w'/\w'.ownsRowF 0 e 1 v' (n + s.size) (xs++Go.Lib.strCells s)/\w.grownBy w' v.ownBlock/\∀ k,v'.ownBlock=some k->v.ownBlock=some k\/w.heap.size<=k:=by
 rcases hown.2 with ⟨rfl,hn⟩ | ⟨g,cap,cur,fz,rfl,hbg,hg,hfz,hnc,hcm,hcs,htake⟩
 ·obtain ⟨v',w',h1,h2,h3,_⟩:=Go.Lib.run_append_own_stringF (P:=P) w w.heap.size t u ty e i ht hu hi hz hsize hby _ n xs ⟨hown.1,.inl ⟨rfl,hn⟩⟩ s h63 hbytes (yc _);refine ⟨v',w',h1,⟨h2.1,?_⟩,h3,fun k hk=>.inr ?_⟩
  ·rcases h2.2 with hn | ⟨g,cap,cur,fz,hv,hb,rest⟩
   ·exact .inl hn
   ·exact .inr ⟨g,cap,cur,fz,hv,Nat.zero_le _,rest⟩
  ·rcases h2.2 with ⟨hv,_⟩ | ⟨g,cap,cur,fz,hv,hb,rest⟩
   ·rw [hv] at hk; cases hk
   ·rw [hv] at hk; injection hk with hk; have hk:g=k:=hk; omega
 ·obtain ⟨v',w',h1,h2,h3,_⟩:=Go.Lib.run_append_own_stringF (P:=P) w 0 t u ty e i ht hu hi hz hsize hby _ n xs hown s h63 hbytes (Nat.zero_le _);refine ⟨v',w',h1,h2,h3,fun k hk=>?_⟩;have hxl:xs.length=n:=by simpa using hown.1
  by_cases hroom:n + s.size<=cap
  ·have hcs':cur.size=cap:=by simpa using hcs
   have hr:=Go.Lib.run_append_room_stringF (P:=P) w t u ty e i ht hu hi hsize g n cap cur fz hg (by simpa using hfz) s hroom (by omega);rw [h1] at hr;injection hr with hv _;rw [hv] at hk;exact .inl hk
  ·have holds:∀ j u,xs[j]?=some u->w.cell? ((⟨g,0,none⟩:Addr).add j)=some u:=hown.cells (g:=g) rfl;have hr:=Go.Lib.run_append_grow_string (P:=P) w t u ty e i (.int .u8 0) ht hu hi hz ⟨g,0,none⟩ n cap xs (by rw [hsize]; simpa using hxl) holds s (by unfold maxLen at h63; omega) (by unfold maxLen at h63; omega) (by rw [hby]; exact growslice_fits (by omega) (by omega));rw [h1] at hr;injection hr with hv _;rw [hv] at hk;injection hk with hk;have hk:w.heap.size=k:=hk;exact .inr (by omega)
end
theorem wpList_strapp {P:Program} (w:World) {ops:Array Oper} {rest:List Oper} {o:Oper} {a:Act} {Q:Exit->Act->World->Prop} (hgd:o.guard=none) (s x:Operand) (t t':TypeId)
  (ho:o.op=.call { callee:=.builtin .append,args:=#[s,x],argTypes:=#[t,t'] }) (v u:Value) (hs:a.eval s=v) (hx:a.eval x=u) {v':Value} {w':World}
  (hr:(Builtin.append_ #[t,t'] o.type #[v,u]).run P w=.ok v' w') (h:wpList P ops Q rest (a.put o.dst v') w'):wpList P ops Q (o :: rest) a w:=by
 refine wpList_plain hgd fun K hK=>?_
 unfold Oper.wp execOp;simp only [ho,resolve,invoke,builtin,Sem.run_bind,Sem.run_pure,Result.andThen_ok,List.map_toArray,yg,List.map_nil,hs,hx,hr];exact hK _ _ h
set_option maxHeartbeats 1000000
theorem bcheck_used (b:Nat) (w:World) (h0:w.cell? ⟨b,0,none⟩=some (.pointer (some ⟨b,0,none⟩))) :
  Calls Tryz.prog 280 #[.pointer (some ⟨b,0,none⟩)] w fun e w'=>e=.returned (.tuple #[])/\w'=w:=by
 obtain ⟨j,hj,_⟩:=y9.1 iBb;have u1:=run_underlying uBp; have u2:=run_underlying uBs; have u3:=run_underlying uBu; have u4:=run_underlying uBstr; have u5:=run_underlying uBint; have u6:=run_underlying q4k
 go_enter Tryz.func280,Tryz.ntmps280
 go_wp2
 rw [Go.Lib.run_neq_ptr_same w _ uBp hj]
 go_wp2
 go_end0
 exact ⟨rfl,rfl⟩
theorem bcheck_fresh (b:Nat) (w:World) (h0:w.cell? ⟨b,0,none⟩=some (.pointer none)) (hsh:w.shape? b=some (287,2)) (hfz:w.frozen? ⟨b,0,none⟩=false) :
  Calls Tryz.prog 280 #[.pointer (some ⟨b,0,none⟩)] w fun e w'=>e=.returned (.tuple #[])/\w'=w.setCell ⟨b,0,none⟩ (.pointer (some ⟨b,0,none⟩)):=by
 obtain ⟨j,hj,hjs⟩:=y9.1 iBb;have u1:=run_underlying uBp; have u2:=run_underlying uBs; have u3:=run_underlying uBu; have u4:=run_underlying uBstr; have u5:=run_underlying uBint; have u6:=run_underlying q4k
 go_enter Tryz.func280,Tryz.ntmps280
 go_wp2
 rw [Go.Lib.run_to_unsafe w ⟨b,0,none⟩ uBp q4k hj (by rw [hjs]; decide) hsh (Nat.zero_lt_succ 1)];simp only [Result.andThen];rw [Oper.upon_value]
 go_wp2
 rw [run_callFunc_extern Tryz.func282 (by kernel_rfl) (by kernel_rfl) (by kernel_rfl) (e:=Extern.AbiNoEscape.same) (by kernel_rfl)];rw [Go.Lib.run_noEscape];simp only [Result.andThen];rw [Oper.upon_value]
 go_wp2
 rw [Go.Lib.run_from_unsafe w ⟨b,0,none⟩ q4k uBp hj hsh liesB];simp only [Result.andThen];rw [Oper.upon_value]
 go_wp2
 go_end0
 exact ⟨rfl,rfl⟩
theorem bcheck (b:Nat) (q v:Value) (w:World) (hbk:w.heap[b]?=some (.cells #[q,v] 287 (0,0))) (hq:q=.pointer none\/q=.pointer (some ⟨b,0,none⟩)) :
  Calls Tryz.prog 280 #[.pointer (some ⟨b,0,none⟩)] w fun e w'=>e=.returned (.tuple #[])/\w'.heap[b]?=some (.cells #[.pointer (some ⟨b,0,none⟩),v] 287 (0,0))/\Keep (fun k=>k=b) w w':=by
 have hlt:=q01 hbk;rcases hq with rfl | rfl
 ·refine (bcheck_fresh b w (by rw [Go.Lib.cell_of_heap hbk]; rfl) (by simp [World.shape?,hbk]) (by simp [World.frozen?,hbk])).mono ?_;rintro e w' ⟨rfl,rfl⟩;refine ⟨rfl,by simp [World.setCell,Array.getElem?_modify,hbk],⟨rfl,rfl,rfl,by simp [World.setCell],fun k _ hk=>Below.heap_setCell _ _ _ _ (fun e=>hk (by simp [e]))⟩⟩
 ·refine (bcheck_used b w (by rw [Go.Lib.cell_of_heap hbk]; rfl)).mono ?_;rintro e w' ⟨rfl,rfl⟩;exact ⟨rfl,hbk,Keep.refl _ _⟩
theorem bwrite (b:Nat) (q v:Value) (bs:List Value) (s:ByteArray) (w:World) (hbk:w.heap[b]?=some (.cells #[q,v] 287 (0,0))) (hq:q=.pointer none\/q=.pointer (some ⟨b,0,none⟩)) (hown:w.ownsRowF 0 5 1 v bs.length bs) (hne:v.ownBlock≠some b) (hlen:bs.length + s.size<=140737488355328) :
  Calls Tryz.prog 275 #[.pointer (some ⟨b,0,none⟩),.string s] w fun e w'=>e=.returned (.tuple #[.int .i64 s.size,.nilIface])/\∃ v',w'.heap[b]?=some (.cells #[.pointer (some ⟨b,0,none⟩),v'] 287 (0,0))/\w'.ownsRowF 0 5 1 v' (bs.length + s.size) (bs++Go.Lib.strCells s)/\Keep (fun k=>k=b\/v.ownBlock=some k) w w'/\(∀ k,v'.ownBlock=some k->v.ownBlock=some k\/w.heap.size<=k):=by
 obtain ⟨i0,hi,hz0,hz1,hz2⟩:=info_parts iB8;have u1:=run_underlying uBp; have u2:=run_underlying uBs; have u3:=run_underlying uBu; have u4:=run_underlying uBstr; have u5:=run_underlying uBint; have u6:=run_underlying q4k;have hlt:=q01 hbk
 go_enter Tryz.func275,Tryz.ntmps275
 go_wp2_with fail
 refine (bcheck b q v _ hbk hq).mono ?_;rintro e w1 ⟨rfl,h1,hk1⟩;have hown1:w1.ownsRowF 0 5 1 v bs.length bs:=by
  refine ⟨hown.1,?_⟩;rcases hown.2 with hn | ⟨g,cap,cur,fz,rfl,hb,hgg,rest⟩
  ·exact .inl hn
  ·exact .inr ⟨g,cap,cur,fz,rfl,hb,(hk1.block g (q01 hgg) (fun e=>hne (by rw [<- e]; rfl))).trans hgg,rest⟩
 have c0:w1.cell? ⟨b,0,none⟩=some (.pointer (some ⟨b,0,none⟩)):=by rw [Go.Lib.cell_of_heap h1]; rfl
 have c1:w1.cell? ⟨b,1,none⟩=some v:=by rw [Go.Lib.cell_of_heap h1]; rfl
 obtain ⟨v',w2,hrun,hown',hgrow,hblk⟩:=append_str_at (P:=Tryz.prog) w1 28 9 28 5 i0 uBs uBstr hi hz0 hz1 hz2 v _ bs hown1 s (by unfold maxLen; omega) hlen;have hlt1:=q01 h1;have hb2:w2.heap[b]?=some (.cells #[.pointer (some ⟨b,0,none⟩),v] 287 (0,0)):=by
  rw [hgrow.block b hlt1 (fun e=>hne e.symm)];exact h1
 have d0:w2.cell? ⟨b,0,none⟩=some (.pointer (some ⟨b,0,none⟩)):=by rw [Go.Lib.cell_of_heap hb2]; rfl
 have d1:w2.cell? ⟨b,1,none⟩=some v:=by rw [Go.Lib.cell_of_heap hb2]; rfl
 have f1:w2.frozen? ⟨b,1,none⟩=false:=Go.Lib.frozen_of_heap hb2 1;obtain ⟨ao,n',cap,rfl⟩:∃ ao n' cap,v'=.slice ao n' cap:=by
  rcases hown'.2 with ⟨hv,_⟩ | ⟨g,cap,cur,fz,hv,_⟩
  ·exact ⟨_,_,_,hv⟩
  ·exact ⟨_,_,_,hv⟩
 go_wp2_with (at_builtin; refine wpList_strapp _ rfl _ _ 28 9 rfl v (.string s) rfl rfl hrun ?_)
 go_ret2
 have hgb:∀ g,(Value.slice ao n' cap).ownBlock=some g->g≠b:=fun g hg e=>by
  subst e;rcases hown'.2 with ⟨hv,_⟩ | ⟨g',cap',cur,fz,hv,_,hgg,_⟩
  ·rw [hv] at hg; cases hg
  ·rw [hv] at hg;injection hg with hg;have hg:g'=g:=hg;rw [hg,hb2] at hgg;injection hgg with hgg;injection hgg with _ hgg;exact absurd hgg (by decide)
 refine ⟨rfl,.slice ao n' cap,by simp [World.setCell,Array.getElem?_modify,hb2],⟨hown'.1,?_⟩,?_,fun k hk=>(hblk k hk).imp id (fun h=>ye hk1.size h)⟩
 ·rcases hown'.2 with hn | ⟨g,cap',cur,fz,hv,hb,hgg,rest⟩
  ·exact .inl hn
  ·exact .inr ⟨g,cap',cur,fz,hv,hb,(Below.heap_setCell _ _ _ _ (fun e=>hgb g (by rw [hv]; rfl) (by simpa using e))).trans hgg,rest⟩
 ·refine ⟨hgrow.os.trans hk1.os,hgrow.tape.trans hk1.tape,hgrow.output.trans hk1.output,?_,fun k hk hf=>?_⟩
  ·have:=hk1.size; have:=hgrow.size; simp [World.setCell]; omega
  ·rw [Below.heap_setCell _ _ _ _ (fun e=>hf (.inl (by simpa using e)))];rw [hgrow.block k (yw hk hk1.size) (fun e=>hf (.inr e.symm))];exact hk1.block k hk (fun e=>hf (.inl e))
theorem bstring_run (b:Nat) (q:Value) (sl:Value) (A:Option Addr) (n c:Nat) (hsl:sl=.slice A n c) (p:Value) (s:ByteArray) (w w1 w2:World) (hbk:w.heap[b]?=some (.cells #[q,sl] 287 (0,0)))
  (hSD:(Builtin.unsafeSliceData_ #[28] 299 #[.slice A n c]).run Tryz.prog w.drew=.ok p w1) (h1:w1.heap[b]?=w.heap[b]?) (hUS:(Builtin.unsafeString_ #[299,3] 9 #[p,.int .i64 n]).run Tryz.prog w1=.ok (.string s) w2) :
  Calls Tryz.prog 276 #[.pointer (some ⟨b,0,none⟩)] w fun e w'=>e=.returned (.string s)/\w'=w2:=by
 subst hsl;have hd:w.drew.heap[b]?=some (.cells #[q,.slice A n c] 287 (0,0)):=hbk;have c1:w.drew.cell? ⟨b,1,none⟩=some (.slice A n c):=by rw [Go.Lib.cell_of_heap hd]; rfl
 have c2:w1.cell? ⟨b,1,none⟩=some (.slice A n c):=by rw [Go.Lib.cell_of_heap (h1.trans hbk)]; rfl
 have u1:=run_underlying uBp; have u2:=run_underlying uBs; have u3:=run_underlying uBu; have u4:=run_underlying uBstr; have u5:=run_underlying uBint; have u6:=run_underlying q4k;have mixed:Tryz.prog.follows .mixedOrders=true:=by kernel_rfl
 go_enter Tryz.func276,Tryz.ntmps276
 go_wp2
 go_region_o
 all_goals (go_wp2; go_ret; exact ⟨rfl,rfl⟩)
end
section
open Go Go.RowKit
variable {O:Objs}
theorem keep_freeze {w:World} (g o n:Nat):Keep (fun k=>k=g) w (w.freeze ⟨g,o,none⟩ n):=by
 unfold World.freeze;split
 ·exact Keep.refl _ _
 ·exact ⟨rfl,rfl,rfl,by simp,fun k _ hk=>by
   simp only [Array.getElem?_modify];rw [if_neg (fun e=>hk e.symm)]⟩
theorem strCells_append (a s:ByteArray):Go.Lib.strCells (a++s)=Go.Lib.strCells a++Go.Lib.strCells s:=by
 simp [Go.Lib.strCells,ByteArray.data_append]
theorem bld_write (a s:ByteArray) (hlen:a.size + s.size<=140737488355328) :
  q0n Tryz.prog O 275 [.ptr 0 0 0,.str s] (some (bldAV 287 5 a)) (.tup [.int .i64 s.size,.undef],some (bldAV 287 5 (a++s))):=by
 refine (q0n.of rfl).2 ⟨enters_of Tryz.func275 (by kernel_rfl) rfl,?_⟩;intro av w vs p H hav hH hat hargs;rw [O.blds] at hat;obtain ⟨v,q,h1,h2,h3,h4,h5⟩:=hat;simp only [RepA] at hargs;obtain ⟨u,us,rfl,hu,u2,us2,rfl,hu2,rfl⟩:=hargs;rw [q0S] at hu;obtain ⟨b,hb,rfl⟩:=hu;have hbp:p=b:=by
  have:(if (0:Nat)=0/\(0:Nat)=0 then some p else none)=some b:=hb;simpa using this
 subst hbp;rw [q19] at hu2;subst hu2;have hl:(Go.Lib.strCells a).length=a.size:=Go.Lib.strCells_length a;refine (bwrite p q v (Go.Lib.strCells a) s w h1 h2 (by rw [hl]; exact h3) h4 (by rw [hl]; exact hlen)).mono ?_;rintro e w' ⟨rfl,v',g1,g2,g3,g4⟩;have hne':v'.ownBlock≠some p:=fun e=>by
  rcases g2.2 with ⟨hv,_⟩ | ⟨g',cap',cur,fz,hv,_,hgg,_⟩
  ·rw [hv] at e; cases e
  ·rw [hv] at e;injection e with e;have e:g'=p:=e;rw [e,g1] at hgg;injection hgg with hgg;injection hgg with _ hgg;exact absurd hgg (by decide)
 refine ⟨_,fun k=>k=p\/v'.ownBlock=some k,rfl,?_,?_,?_,?_⟩
 ·refine ⟨_,rfl,_,_,rfl,by simp [Rep],_,_,rfl,trivial,rfl⟩
 ·rw [O.blds];refine ⟨v',_,g1,.inr rfl,?_,hne',fun b=>Iff.rfl⟩;rw [strCells_append,show (a++s).size=a.size + s.size from by simp [ByteArray.size_append]];rw [hl] at g2;exact g2
 ·rintro k (rfl | hk)
  ·exact .inl ((h5 _).2 (.inl rfl))
  ·exact (g4 k hk).imp (fun h=>(h5 k).2 (.inr h)) id
 ·exact g3.mono fun k _ hk=>(h5 k).2 hk
theorem own_frz {w:World} {e:TypeId} {g n c:Nat} {xs:List Value} (h:w.ownsRowF 0 e 1 (.slice (some ⟨g,0,none⟩) n c) n xs):(w.freeze ⟨g,0,none⟩ n).ownsRowF 0 e 1 (.slice (some ⟨g,0,none⟩) n c) n xs:=by
 refine ⟨h.1,?_⟩;rcases h.2 with ⟨hv,_⟩ | ⟨g',cap,cur,⟨lo,hi⟩,hv,hb,hg,hf,rest⟩
 ·cases hv
 ·injection hv with h1 h2 h3;injection h1 with h1;injection h1 with h1;subst h1;subst h3;unfold World.freeze;split
  ·exact .inr ⟨_,_,cur,⟨lo,hi⟩,rfl,hb,hg,hf,rest⟩
  ·refine .inr ⟨g,c,cur,if lo == hi then (0,n) else (min lo 0,max hi n),rfl,hb,?_,?_,rest⟩
   ·simp only [Array.getElem?_modify,if_true,hg,yf,yi]
   ·simp only at hf;split
    ·simp
    ·simp only; omega
theorem bld_string (a:ByteArray) :
  q0n Tryz.prog O 276 [.ptr 0 0 0] (some (bldAV 287 5 a)) (.str a,some (bldAV 287 5 a)):=by
 refine (q0n.of rfl).2 ⟨enters_of Tryz.func276 (by kernel_rfl) rfl,?_⟩;intro av w vs p H hav hH hat hargs;rw [O.blds] at hat;have hat0:=hat;obtain ⟨v,q,h1,h2,h3,h4,h5⟩:=hat;simp only [RepA] at hargs;obtain ⟨u,us,rfl,hu,rfl⟩:=hargs;rw [q0S] at hu;obtain ⟨b,hb,rfl⟩:=hu;have hbp:p=b:=by
  have:(if (0:Nat)=0/\(0:Nat)=0 then some p else none)=some b:=hb;simpa using this
 subst hbp;have hlt:=q01 h1;have hl:(Go.Lib.strCells a).length=a.size:=Go.Lib.strCells_length a;have fin:∀ (A:Option Addr) (n c:Nat) (pp:Value) (w1 w2:World),v=.slice A n c->(Builtin.unsafeSliceData_ #[28] 299 #[.slice A n c]).run Tryz.prog w.drew=.ok pp w1->w1.heap[p]?=w.heap[p]?->(Builtin.unsafeString_ #[299,3] 9 #[pp,.int .i64 n]).run Tryz.prog w1=.ok (.string a) w2->Keep (fun k=>v.ownBlock=some k) w w2->w2.ownsRowF 0 5 1 v a.size (Go.Lib.strCells a) →
   Calls Tryz.prog 276 #[.pointer (some ⟨p,0,none⟩)] w fun e w'=>∃ v H',e=.returned v/\Rep (fun b o=>av b o\/H' b) w' (.str a) v/\O.at_ (bldAV 287 5 a) H' p w'/\(∀ b,H' b->H b\/w.heap.size<=b)/\Keep H w w':=fun A n c pp w1 w2 hv hSD hw1 hUS hk ho=>by
  refine (bstring_run p q v A n c hv pp a w w1 w2 h1 hSD hw1 hUS).mono ?_;rintro e w' ⟨rfl,rfl⟩;refine ⟨_,H,rfl,rfl,?_,fun b h=>.inl h,hk.mono fun k _ h=>(h5 k).2 (.inr h)⟩;rw [O.blds];exact ⟨v,q,(hk.block p hlt h4).trans h1,h2,ho,h4,h5⟩
 have hmax:a.size<=9223372036854775807\/True:=.inr trivial;have hempty:a.size=0->a=ByteArray.empty:=fun h=>by
  obtain ⟨d⟩:=a;have h:d.size=0:=h;have:d=#[]:=Array.eq_empty_of_size_eq_zero h;subst this;rfl
 rcases h3.2 with ⟨hv,hn⟩ | ⟨g,cap,cur,fz,hv,hbg,hg,hfz,hnc,hcm,hcs,htake⟩
 ·refine fin none 0 0 (.pointer none) w.drew w.drew hv rfl rfl ?_ (Keep.refl _ w).drew h3;rw [hempty hn];exact Go.Lib.run_unsafeString_none _ _ _ _ _
 ·have hkd:w.drew.heap[g]?=some (.cells cur 5 fz):=hg;by_cases h0:a.size=0
  ·by_cases hc0:cap=0
   ·subst hc0;have hSD:=Go.Lib.run_unsafeSliceData_zero (P:=Tryz.prog) w.drew #[28] 299 5 uBu ⟨g,0,none⟩ a.size (5,cur.size) (by simp [World.shape?,hkd]);refine fin _ _ _ _ _ (w.drew.alloc (.view ⟨g,0,none⟩ 5)) hv hSD (heap_alloc_old w.drew _ hlt) ?_ ((Keep.refl _ w).drew.alloc _) ?_
    ·rw [h0,hempty h0];exact Go.Lib.run_unsafeString_none _ _ _ _ _
    ·refine ⟨h3.1,.inr ⟨g,0,cur,fz,hv,hbg,(heap_alloc_old w.drew _ (q01 hg)).trans hg,hfz,hnc,hcm,hcs,htake⟩⟩
   ·refine fin _ _ _ _ _ w.drew hv (Go.Lib.run_unsafeSliceData_row _ _ _ _ _ _ hc0) rfl ?_ (Keep.refl _ w).drew h3;rw [h0,hempty h0];exact Go.Lib.run_unsafeString_none _ _ _ _ _
  ·have hc0:cap≠0:=by omega
   have hal:a.data.toList.length=a.size:=by simp
   have hUS:(Builtin.unsafeString_ #[299,3] 9 #[.pointer (some ⟨g,0,none⟩),.int .i64 a.data.toList.length]).run Tryz.prog w.drew=.ok (.string ⟨a.data.toList.toArray⟩) (w.drew.freeze ⟨g,0,none⟩ a.data.toList.length):=by
    refine Go.Lib.run_unsafeString_row w.drew 299 3 9 5 uBu cB8 g cur.size (by simp [World.shape?,hkd]) a.data.toList (fun e=>h0 (by rw [<- hal,e]; rfl)) (by rw [hal]; omega) (by rw [hal]; unfold maxLen at hcm; omega) ?_;intro j x hx;have:=h3.cells (g:=g) (by rw [hv]; rfl) j (.int .u8 x.toNat) (by simp only [Go.Lib.strCells,yq,hx,yf]);exact this
   rw [hal] at hUS;refine fin _ _ _ _ _ (w.drew.freeze ⟨g,0,none⟩ a.size) hv (Go.Lib.run_unsafeSliceData_row _ _ _ _ _ _ hc0) rfl hUS ?_ ?_
   ·exact ((Keep.refl _ w).drew).trans (keep_freeze g 0 a.size) (fun k _ hk=>by rw [hv,hk]; rfl)
   ·have h3':w.drew.ownsRowF 0 5 1 v a.size (Go.Lib.strCells a):=h3;rw [hv] at h3' ⊢;exact own_frz h3'
end
abbrev oM (d n:Nat):OpC:=⟨some d,.mv (.t n),none⟩
abbrev oF (d a n:Nat):OpC:=⟨some d,.faddr a (.t n),none⟩
abbrev oL (d n:Nat):OpC:=⟨some d,.load .any false 1 (.t n),none⟩
abbrev oA (d z n:Nat):OpC:=⟨some d,.load .any true z (.t n),none⟩
abbrev oB (d:Nat)(o:BinOp)(a b:Nat):OpC:=⟨some d,.bin o false (.t a) (.t b),none⟩
abbrev oC (d:Nat)(o:BinOp)(a:Nat)(n:Int):OpC:=⟨some d,.bin o false (.t a) (.c (.int .i64 n)),none⟩
abbrev oX (d n i:Nat):OpC:=⟨some d,.ext (.t n) i,none⟩
abbrev oV (z a b:Nat):OpC:=⟨none,.store .any true z (.t a) (.t b),none⟩
abbrev oW (a b:Nat):OpC:=⟨none,.store .any false 1 (.t a) (.t b),none⟩
abbrev oI (d z a b:Nat):OpC:=⟨some d,.iaddr z (.t a) (.t b),none⟩
abbrev oJ (d:Nat)(n:Int):OpC:=⟨some d,.mv (.c (.int .i64 n)),none⟩
abbrev oH (d n:Nat):OpC:=⟨some d,.len false (.t n),none⟩
abbrev oU (d n:Nat):OpC:=⟨some d,.un .not (.t n),none⟩
abbrev oZ (d:Nat)(b:Bool):OpC:=⟨some d,.mv (.c (.bool b)),none⟩
abbrev oK (d n:Nat):OpC:=⟨some d,.nilchk (.t n),none⟩
abbrev oY (d:Nat)(l:List AV):OpC:=⟨some d,.alloc l,none⟩
abbrev oQ (d z n:Nat):OpC:=⟨some d,.box z (.t n),none⟩
abbrev oS (d:Nat)(k:K):OpC:=⟨some d,k,none⟩
abbrev oN (k:K):OpC:=⟨none,k,none⟩
abbrev oG (d:Nat)(k:K)(g:Nat)(b:Bool):OpC:=⟨some d,k,some (g,b)⟩
abbrev oP (d n g:Nat)(b:Bool):OpC:=⟨some d,.load .any false 1 (.t n),some (g,b)⟩
abbrev oR (l:List OpC)(c:C):C:=.seq (.reg l) c
abbrev zza:List AV:=[(.str (ByteArray.mk #[])),(.int .i64 0)]
abbrev zzb:List AV:=[(.int .i64 0),(.str (ByteArray.mk #[])),(.int .i64 0),(.int .i64 0),(.int .i64 0),(.sl true []),(.sl true []),(.int .i64 0),(.int .i64 0),(.bool false)]
noncomputable def cF (l:List Nat) (f:Func):FnC:=(compF Tryz.prog l f).getD ⟨.skip,[],0,[]⟩
def q0a:FnC:=⟨(oR [oZ 4 false] (.seq (.seq (.reg [oS 5 (.call .any 45 []),oU 6 5,oM 7 6,oG 8 (.mv (.t 0)) 7 false,oG 9 (.len false (.t 8)) 7 false,oG 10 (.bin .gtr false (.t 9) (.c (.int .i64 10))) 7 false,oS 11 (.pick (.t 7) (.c (.bool true)) (.t 10)),oM 12 11,oG 13 (.mv (.t 0)) 12 false,oG 14 (.call .any 59 [(.t 13),(.c (.fn 60 []))]) 12 false,oS 15 (.pick (.t 12) (.c (.bool true)) (.t 14))]) (.cond (.t 15) (.seq (.reg [oS 16 (.call .any 45 []),oM 4 16]) .ret) .skip)) (.seq (.reg [oM 17 0,oM 18 1,oS 19 (.call .any 61 [(.t 17),(.t 18)]),oM 20 0,oM 21 1,oS 22 (.call .any 62 [(.t 20),(.t 21)]),oB 23 .eql 19 22,oM 24 23,oG 25 (.mv (.t 0)) 24 true,oG 26 (.mv (.t 1)) 24 true,oG 27 (.call .any 63 [(.t 25),(.t 26)]) 24 true,oG 28 (.mv (.t 0)) 24 true,oG 29 (.mv (.t 1)) 24 true,oG 30 (.call .any 64 [(.t 28),(.t 29)]) 24 true,oG 31 (.bin .eql false (.t 27) (.t 30)) 24 true,oS 32 (.pick (.t 24) (.t 31) (.c (.bool false))),oM 4 32]) .ret))),[(.tmp 4)],2,[]⟩
theorem q4m:FnOk Tryz.prog 15 q0a:=⟨fun xs w=>by kernel_rfl,_,Tryz.func15,by kernel_rfl⟩
def q08:FnC:=⟨(oR [oZ 6 false] (.seq (.seq (.reg [oS 10 (.call .any 45 []),oU 11 10,oM 12 11,oG 13 (.mv (.t 0)) 12 false,oG 14 (.len false (.t 13)) 12 false,oG 15 (.bin .gtr false (.t 14) (.c (.int .i64 8))) 12 false,oS 16 (.pick (.t 12) (.c (.bool true)) (.t 15)),oM 17 16,oG 18 (.mv (.t 0)) 17 false,oG 19 (.call .any 59 [(.t 18),(.c (.fn 65 []))]) 17 false,oS 20 (.pick (.t 17) (.c (.bool true)) (.t 19))]) (.cond (.t 20) (.seq (.reg [oS 21 (.call .any 45 []),oM 6 21]) .ret) .skip)) (.seq (.reg [oM 22 0,oH 23 22,oS 24 (.bin .shl false (.c (.int .u8 1)) (.t 23)),oS 25 (.bin .sub false (.t 24) (.c (.int .u8 1))),oM 7 25]) (oR [oM 26 1,oM 27 7,oB 28 .and 26 27,oM 29 2,oM 30 7,oB 31 .and 29 30,oM 1 28,oM 2 31] (.seq (.reg [oM 32 0,oM 33 1,oS 34 (.call .any 61 [(.t 32),(.t 33)]),oM 35 0,oM 36 1,oS 37 (.call .any 63 [(.t 35),(.t 36)]),oM 8 34,oM 9 37]) (.seq (.seq (.reg [oM 38 0,oM 39 1,oM 40 2,oB 41 .or 39 40,oS 42 (.call .any 61 [(.t 38),(.t 41)]),oM 43 8,oB 44 .andNot 42 43,oS 45 (.bin .neq false (.t 44) (.c (.int .u8 0))),oM 46 45,oG 47 (.mv (.t 0)) 46 false,oG 48 (.mv (.t 1)) 46 false,oG 49 (.mv (.t 2)) 46 false,oG 50 (.bin .or false (.t 48) (.t 49)) 46 false,oG 51 (.call .any 63 [(.t 47),(.t 50)]) 46 false,oG 52 (.mv (.t 9)) 46 false,oG 53 (.bin .andNot false (.t 51) (.t 52)) 46 false,oG 54 (.bin .neq false (.t 53) (.c (.int .u8 0))) 46 false,oS 55 (.pick (.t 46) (.c (.bool true)) (.t 54)),oM 56 55,oG 57 (.mv (.t 8)) 56 false,oG 58 (.mv (.t 7)) 56 false,oG 59 (.bin .andNot false (.t 57) (.t 58)) 56 false,oG 60 (.bin .neq false (.t 59) (.c (.int .u8 0))) 56 false,oS 61 (.pick (.t 56) (.c (.bool true)) (.t 60)),oM 62 61,oG 63 (.mv (.t 9)) 62 false,oG 64 (.mv (.t 7)) 62 false,oG 65 (.bin .andNot false (.t 63) (.t 64)) 62 false,oG 66 (.bin .neq false (.t 65) (.c (.int .u8 0))) 62 false,oS 67 (.pick (.t 62) (.c (.bool true)) (.t 66))]) (.cond (.t 67) (oR [oZ 6 false] .ret) .skip)) (.seq (.reg [oM 68 1,oM 69 0,oM 70 8,oS 71 (.call .any 63 [(.t 69),(.t 70)]),oB 72 .andNot 68 71,oS 73 (.bin .eql false (.t 72) (.c (.int .u8 0))),oM 74 73,oG 75 (.mv (.t 1)) 74 true,oG 76 (.mv (.t 0)) 74 true,oG 77 (.mv (.t 9)) 74 true,oG 78 (.call .any 61 [(.t 76),(.t 77)]) 74 true,oG 79 (.bin .andNot false (.t 75) (.t 78)) 74 true,oG 80 (.bin .eql false (.t 79) (.c (.int .u8 0))) 74 true,oS 81 (.pick (.t 74) (.t 80) (.c (.bool false))),oM 6 81]) .ret))))))),[(.tmp 6)],3,[]⟩
theorem q3u:FnOk Tryz.prog 16 q08:=⟨fun xs w=>by kernel_rfl,_,Tryz.func16,by kernel_rfl⟩
noncomputable def q1A:FnC:=cF [] Tryz.f21
theorem q3x:FnOk Tryz.prog 21 q1A:=⟨fun xs w=>by kernel_rfl,_,Tryz.func21,by kernel_rfl⟩
noncomputable def q5c:FnC:=cF [] Tryz.f28
theorem ok_ref20_Pairs:FnOk Tryz.prog 28 q5c:=⟨fun xs w=>by kernel_rfl,_,Tryz.func28,by kernel_rfl⟩
noncomputable def q3p:FnC:=cF [113,1000000 + 86] Tryz.f32
theorem q5X:FnOk Tryz.prog 32 q3p:=⟨fun xs w=>by kernel_rfl,_,Tryz.func32,by kernel_rfl⟩
noncomputable def q5b:FnC:=cF [] Tryz.f40
theorem ok_ref20_Bools:FnOk Tryz.prog 40 q5b:=⟨fun xs w=>by kernel_rfl,_,Tryz.func40,by kernel_rfl⟩
noncomputable def q57:FnC:=cF [] Tryz.f45
theorem ok_law24_awake:FnOk Tryz.prog 45 q57:=⟨fun xs w=>by kernel_rfl,_,Tryz.func45,by kernel_rfl⟩
noncomputable def q3h:FnC:=cF [] Tryz.f46
theorem q5O:FnOk Tryz.prog 46 q3h:=⟨fun xs w=>by kernel_rfl,_,Tryz.func46,by kernel_rfl⟩
noncomputable def q2n:FnC:=cF [] Tryz.f50
theorem q4Q:FnOk Tryz.prog 50 q2n:=⟨fun xs w=>by kernel_rfl,_,Tryz.func50,by kernel_rfl⟩
noncomputable def q4u:FnC:=cF [] Tryz.f54
theorem ok_history_Gaps:FnOk Tryz.prog 54 q4u:=⟨fun xs w=>by kernel_rfl,_,Tryz.func54,by kernel_rfl⟩
def q0e:FnC:=⟨(oR [oZ 4 false] (.seq (.reg [oM 5 0,oM 6 1,oS 7 (.call .any 110 [(.t 5),(.t 6)]),oC 8 .geq 7 0,oM 4 8]) .ret)),[(.tmp 4)],2,[]⟩
theorem q20:FnOk Tryz.prog 59 q0e:=⟨fun xs w=>by kernel_rfl,_,Tryz.func59,by kernel_rfl⟩
def q0k:FnC:=⟨(oR [oZ 2 false] (oR [oM 3 0,oH 4 3,oC 5 .gtr 4 10,oM 2 5] .ret)),[(.tmp 2)],1,[]⟩
theorem q37:FnOk Tryz.prog 60 q0k:=⟨fun xs w=>by kernel_rfl,_,Tryz.func60,by kernel_rfl⟩
def q0z:C:=oR [oB 19 .lss 18 17] (.seq (.cond (.t 19) .skip (.exit 2)) (.seq (.block 3 (oR [oM 20 18,oM 9 20] (.reg [oM 21 8,oM 22 21,oG 23 (.mv (.t 1)) 22 true,oG 24 (.mv (.t 9)) 22 true,oG 25 (.bin .shr false (.t 23) (.t 24)) 22 true,oG 26 (.bin .and false (.t 25) (.c (.int .u8 1))) 22 true,oG 27 (.bin .eql false (.t 26) (.c (.int .u8 0))) 22 true,oG 28 (.mv (.t 27)) 22 true,oG 29 (.mv (.t 0)) 28 false,oG 30 (.mv (.t 9)) 28 false,oG 31 (.mv (.t 7)) 28 false,oG 32 (.call .any 111 [(.t 29),(.t 30),(.t 31)]) 28 false,oG 33 (.pick (.t 28) (.c (.bool true)) (.t 32)) 22 true,oS 34 (.pick (.t 22) (.t 33) (.c (.bool false))),oM 8 34]))) (.reg [oC 35 .add 18 1,oM 18 35])))
def q10:C:=oR [oB 15 .lss 14 13] (.seq (.cond (.t 15) .skip (.exit 0)) (.seq (.block 1 (oR [oM 16 14,oM 7 16] (oR [oZ 8 true] (.seq (oR [oM 17 5,oJ 18 0] (.block 2 (.loop q0z))) (oR [oM 36 8] (.cond (.t 36) (.reg [oM 37 6,oM 38 7,oS 39 (.bin .shl false (.c (.int .u8 1)) (.t 38)),oB 40 .or 37 39,oM 6 40]) .skip)))))) (.reg [oC 41 .add 14 1,oM 14 41])))
def q0X:FnC:=⟨(.seq (.reg [oS 4 (.mv (.c (.int .u8 0)))]) (.seq (.reg [oM 10 0,oH 11 10,oS 12 (.mm false (.t 11) (.c (.int .i64 8))),oM 5 12]) (.seq (.reg [oS 6 (.mv (.c (.int .u8 0)))]) (.seq (oR [oM 13 5,oJ 14 0] (.block 0 (.loop q10))) (oR [oM 42 6,oM 4 42] .ret))))),[(.tmp 4)],2,[]⟩
theorem q5p:FnOk Tryz.prog 61 q0X:=⟨fun xs w=>by kernel_rfl,_,Tryz.func61,by kernel_rfl⟩
def q0O:C:=.seq (oR [oM 18 9,oM 19 6,oB 20 .lss 18 19] (.cond (.t 20) .skip (.exit 2))) (.seq (.block 3 (.reg [oM 23 8,oM 24 23,oG 25 (.mv (.t 1)) 24 true,oG 26 (.mv (.t 9)) 24 true,oG 27 (.call .any 112 [(.t 25),(.t 26)]) 24 true,oG 28 (.un .not (.t 27)) 24 true,oG 29 (.mv (.t 28)) 24 true,oG 30 (.mv (.t 0)) 29 false,oG 31 (.mv (.t 9)) 29 false,oG 32 (.mv (.t 7)) 29 false,oG 33 (.call .any 113 [(.t 30),(.t 31),(.t 32)]) 29 false,oG 34 (.pick (.t 29) (.c (.bool true)) (.t 33)) 24 true,oS 35 (.pick (.t 24) (.t 34) (.c (.bool false))),oM 8 35])) (.reg [oM 21 9,oC 22 .add 21 1,oM 9 22]))
def q1k:C:=.seq (oR [oM 13 7,oM 14 6,oB 15 .lss 13 14] (.cond (.t 15) .skip (.exit 0))) (.seq (.block 1 (oR [oZ 8 true] (.seq (oR [oJ 9 0] (.block 2 (.loop q0O))) (oR [oM 36 8] (.cond (.t 36) (.reg [oM 37 5,oM 38 7,oS 39 (.bin .shl false (.c (.int .u8 1)) (.t 38)),oB 40 .or 37 39,oM 5 40]) .skip))))) (.reg [oM 16 7,oC 17 .add 16 1,oM 7 17]))
def q1j:FnC:=⟨(.seq (.reg [oS 4 (.mv (.c (.int .u8 0)))]) (.seq (.reg [oS 5 (.mv (.c (.int .u8 0)))]) (.seq (.reg [oM 10 0,oH 11 10,oS 12 (.mm false (.c (.int .i64 8)) (.t 11)),oM 6 12]) (.seq (oR [oJ 7 0] (.block 0 (.loop q1k))) (oR [oM 41 5,oM 4 41] .ret))))),[(.tmp 4)],2,[]⟩
theorem q6I:FnOk Tryz.prog 62 q1j:=⟨fun xs w=>by kernel_rfl,_,Tryz.func62,by kernel_rfl⟩
def q0A:C:=oR [oB 19 .lss 18 17] (.seq (.cond (.t 19) .skip (.exit 2)) (.seq (.block 3 (oR [oM 20 18,oM 9 20] (.reg [oM 21 8,oM 22 21,oG 23 (.mv (.t 1)) 22 true,oG 24 (.mv (.t 9)) 22 true,oG 25 (.bin .shr false (.t 23) (.t 24)) 22 true,oG 26 (.bin .and false (.t 25) (.c (.int .u8 1))) 22 true,oG 27 (.bin .eql false (.t 26) (.c (.int .u8 0))) 22 true,oG 28 (.mv (.t 27)) 22 true,oG 29 (.mv (.t 0)) 28 false,oG 30 (.mv (.t 7)) 28 false,oG 31 (.mv (.t 9)) 28 false,oG 32 (.call .any 111 [(.t 29),(.t 30),(.t 31)]) 28 false,oG 33 (.pick (.t 28) (.c (.bool true)) (.t 32)) 22 true,oS 34 (.pick (.t 22) (.t 33) (.c (.bool false))),oM 8 34]))) (.reg [oC 35 .add 18 1,oM 18 35])))
def q11:C:=oR [oB 15 .lss 14 13] (.seq (.cond (.t 15) .skip (.exit 0)) (.seq (.block 1 (oR [oM 16 14,oM 7 16] (oR [oZ 8 true] (.seq (oR [oM 17 5,oJ 18 0] (.block 2 (.loop q0A))) (oR [oM 36 8] (.cond (.t 36) (.reg [oM 37 6,oM 38 7,oS 39 (.bin .shl false (.c (.int .u8 1)) (.t 38)),oB 40 .or 37 39,oM 6 40]) .skip)))))) (.reg [oC 41 .add 14 1,oM 14 41])))
def q0Y:FnC:=⟨(.seq (.reg [oS 4 (.mv (.c (.int .u8 0)))]) (.seq (.reg [oM 10 0,oH 11 10,oS 12 (.mm false (.t 11) (.c (.int .i64 8))),oM 5 12]) (.seq (.reg [oS 6 (.mv (.c (.int .u8 0)))]) (.seq (oR [oM 13 5,oJ 14 0] (.block 0 (.loop q11))) (oR [oM 42 6,oM 4 42] .ret))))),[(.tmp 4)],2,[]⟩
theorem q5q:FnOk Tryz.prog 63 q0Y:=⟨fun xs w=>by kernel_rfl,_,Tryz.func63,by kernel_rfl⟩
def q0P:C:=.seq (oR [oM 18 9,oM 19 6,oB 20 .lss 18 19] (.cond (.t 20) .skip (.exit 2))) (.seq (.block 3 (.reg [oM 23 8,oM 24 23,oG 25 (.mv (.t 1)) 24 true,oG 26 (.mv (.t 9)) 24 true,oG 27 (.call .any 112 [(.t 25),(.t 26)]) 24 true,oG 28 (.un .not (.t 27)) 24 true,oG 29 (.mv (.t 28)) 24 true,oG 30 (.mv (.t 0)) 29 false,oG 31 (.mv (.t 7)) 29 false,oG 32 (.mv (.t 9)) 29 false,oG 33 (.call .any 113 [(.t 30),(.t 31),(.t 32)]) 29 false,oG 34 (.pick (.t 29) (.c (.bool true)) (.t 33)) 24 true,oS 35 (.pick (.t 24) (.t 34) (.c (.bool false))),oM 8 35])) (.reg [oM 21 9,oC 22 .add 21 1,oM 9 22]))
def q1m:C:=.seq (oR [oM 13 7,oM 14 6,oB 15 .lss 13 14] (.cond (.t 15) .skip (.exit 0))) (.seq (.block 1 (oR [oZ 8 true] (.seq (oR [oJ 9 0] (.block 2 (.loop q0P))) (oR [oM 36 8] (.cond (.t 36) (.reg [oM 37 5,oM 38 7,oS 39 (.bin .shl false (.c (.int .u8 1)) (.t 38)),oB 40 .or 37 39,oM 5 40]) .skip))))) (.reg [oM 16 7,oC 17 .add 16 1,oM 7 17]))
def q1l:FnC:=⟨(.seq (.reg [oS 4 (.mv (.c (.int .u8 0)))]) (.seq (.reg [oS 5 (.mv (.c (.int .u8 0)))]) (.seq (.reg [oM 10 0,oH 11 10,oS 12 (.mm false (.c (.int .i64 8)) (.t 11)),oM 6 12]) (.seq (oR [oJ 7 0] (.block 0 (.loop q1m))) (oR [oM 41 5,oM 4 41] .ret))))),[(.tmp 4)],2,[]⟩
theorem q6J:FnOk Tryz.prog 64 q1l:=⟨fun xs w=>by kernel_rfl,_,Tryz.func64,by kernel_rfl⟩
def q0c:FnC:=⟨(oR [oZ 2 false] (oR [oM 3 0,oH 4 3,oC 5 .gtr 4 10,oM 2 5] .ret)),[(.tmp 2)],1,[]⟩
theorem q2D:FnOk Tryz.prog 65 q0c:=⟨fun xs w=>by kernel_rfl,_,Tryz.func65,by kernel_rfl⟩
noncomputable def q3S:FnC:=cF [] Tryz.f76
theorem q6M:FnOk Tryz.prog 76 q3S:=⟨fun xs w=>by kernel_rfl,_,Tryz.func76,by kernel_rfl⟩
noncomputable def q2R:FnC:=cF [] Tryz.f77
theorem q5w:FnOk Tryz.prog 77 q2R:=⟨fun xs w=>by kernel_rfl,_,Tryz.func77,by kernel_rfl⟩
noncomputable def q1B:FnC:=cF [2000049,2000068,2000092] Tryz.f79
theorem q3y:FnOk Tryz.prog 79 q1B:=⟨fun xs w=>by kernel_rfl,_,Tryz.func79,by kernel_rfl⟩
noncomputable def q2s:FnC:=cF [] Tryz.f81
theorem q4V:FnOk Tryz.prog 81 q2s:=⟨fun xs w=>by kernel_rfl,_,Tryz.func81,by kernel_rfl⟩
noncomputable def q1o:FnC:=cF [8000000] Tryz.f86
theorem q2W:FnOk Tryz.prog 86 q1o:=⟨fun xs w=>by kernel_rfl,_,Tryz.func86,by kernel_rfl⟩
noncomputable def q6a:FnC:=cF [] Tryz.f87
theorem ok_ref07_kind:FnOk Tryz.prog 87 q6a:=⟨fun xs w=>by kernel_rfl,_,Tryz.func87,by kernel_rfl⟩
noncomputable def q58:FnC:=cF [] Tryz.f88
theorem ok_ref07_Named:FnOk Tryz.prog 88 q58:=⟨fun xs w=>by kernel_rfl,_,Tryz.func88,by kernel_rfl⟩
noncomputable def c_ref07_low:FnC:=cF [] Tryz.f89
theorem ok_ref07_low:FnOk Tryz.prog 89 c_ref07_low:=⟨fun xs w=>by kernel_rfl,_,Tryz.func89,by kernel_rfl⟩
noncomputable def q69:FnC:=cF [] Tryz.f90
theorem ok_ref07_high:FnOk Tryz.prog 90 q69:=⟨fun xs w=>by kernel_rfl,_,Tryz.func90,by kernel_rfl⟩
noncomputable def c_ref07_ids:FnC:=cF [] Tryz.f91
theorem ok_ref07_ids:FnOk Tryz.prog 91 c_ref07_ids:=⟨fun xs w=>by kernel_rfl,_,Tryz.func91,by kernel_rfl⟩
noncomputable def q59:FnC:=cF [177] Tryz.f92
theorem ok_ref07_parts:FnOk Tryz.prog 92 q59:=⟨fun xs w=>by kernel_rfl,_,Tryz.func92,by kernel_rfl⟩
noncomputable def c_ref07_key:FnC:=cF [] Tryz.f93
theorem ok_ref07_key:FnOk Tryz.prog 93 c_ref07_key:=⟨fun xs w=>by kernel_rfl,_,Tryz.func93,by kernel_rfl⟩
noncomputable def q3H:FnC:=cF [] Tryz.f95
theorem q6z:FnOk Tryz.prog 95 q3H:=⟨fun xs w=>by kernel_rfl,_,Tryz.func95,by kernel_rfl⟩
noncomputable def q5a:FnC:=cF [] Tryz.f98
theorem ok_ref11_Bools:FnOk Tryz.prog 98 q5a:=⟨fun xs w=>by kernel_rfl,_,Tryz.func98,by kernel_rfl⟩
noncomputable def c_law24_rec:FnC:=cF [16] Tryz.f102
theorem ok_law24_rec:FnOk Tryz.prog 102 c_law24_rec:=⟨fun xs w=>by kernel_rfl,_,Tryz.func102,by kernel_rfl⟩
noncomputable def q3G:FnC:=cF [] Tryz.f103
theorem q6y:FnOk Tryz.prog 103 q3G:=⟨fun xs w=>by kernel_rfl,_,Tryz.func103,by kernel_rfl⟩
noncomputable def q56:FnC:=cF [] Tryz.f105
theorem ok_history_ids:FnOk Tryz.prog 105 q56:=⟨fun xs w=>by kernel_rfl,_,Tryz.func105,by kernel_rfl⟩
noncomputable def q1C:FnC:=cF [] Tryz.f106
theorem q3z:FnOk Tryz.prog 106 q1C:=⟨fun xs w=>by kernel_rfl,_,Tryz.func106,by kernel_rfl⟩
def q0f:C:=oR [oB 9 .lss 8 7] (.seq (.cond (.t 9) .skip (.exit 0)) (.seq (.block 1 (oR [oM 10 8,oM 5 10] (.seq (.reg [oM 11 1,oM 12 0,oM 13 5,oI 14 1 12 13,oL 15 14,oS 16 (.callv .any (.t 11) [(.t 15)])]) (.cond (.t 16) (oR [oM 17 5,oM 4 17] .ret) .skip)))) (.reg [oC 18 .add 8 1,oM 8 18])))
def q0o:FnC:=⟨(oR [oJ 4 0] (.seq (oR [oM 6 0,oH 7 6,oJ 8 0] (.block 0 (.loop q0f))) (oR [oJ 4 (-1)] .ret))),[(.tmp 4)],2,[]⟩
theorem q2H:FnOk Tryz.prog 110 q0o:=⟨fun xs w=>by kernel_rfl,_,Tryz.func110,by kernel_rfl⟩
def q0U:FnC:=⟨(oR [oZ 6 false] (.seq (.reg [oM 7 2,oM 8 0,oM 9 1,oI 10 1 8 9,oL 11 10,oH 12 11,oB 13 .lss 7 12,oM 14 13,oG 15 (.mv (.t 0)) 14 true,oG 16 (.mv (.t 1)) 14 true,oG 17 (.iaddr 1 (.t 15) (.t 16)) 14 true,oP 18 17 14 true,oG 19 (.mv (.t 2)) 14 true,oG 20 (.iaddr 1 (.t 18) (.t 19)) 14 true,oP 21 20 14 true,oS 22 (.pick (.t 14) (.t 21) (.c (.bool false))),oM 6 22]) .ret)),[(.tmp 6)],3,[]⟩
theorem q6x:FnOk Tryz.prog 111 q0U:=⟨fun xs w=>by kernel_rfl,_,Tryz.func111,by kernel_rfl⟩
def q2P:FnC:=⟨(oR [oZ 4 false] (.seq (.reg [oM 5 0,oM 6 1,oB 7 .shr 5 6,oS 8 (.bin .and false (.t 7) (.c (.int .u8 1))),oS 9 (.bin .eql false (.t 8) (.c (.int .u8 1))),oM 4 9]) .ret)),[(.tmp 4)],2,[]⟩
theorem ok_ref24_in:FnOk Tryz.prog 112 q2P:=⟨fun xs w=>by kernel_rfl,_,Tryz.func112,by kernel_rfl⟩
def q1n:FnC:=⟨(oR [oZ 6 false] (.seq (.reg [oM 7 2,oM 8 0,oM 9 1,oI 10 1 8 9,oL 11 10,oH 12 11,oB 13 .lss 7 12,oM 14 13,oG 15 (.mv (.t 0)) 14 true,oG 16 (.mv (.t 1)) 14 true,oG 17 (.iaddr 1 (.t 15) (.t 16)) 14 true,oP 18 17 14 true,oG 19 (.mv (.t 2)) 14 true,oG 20 (.iaddr 1 (.t 18) (.t 19)) 14 true,oP 21 20 14 true,oS 22 (.pick (.t 14) (.t 21) (.c (.bool false))),oM 6 22]) .ret)),[(.tmp 6)],3,[]⟩
theorem ok_ref24_entry:FnOk Tryz.prog 113 q1n:=⟨fun xs w=>by kernel_rfl,_,Tryz.func113,by kernel_rfl⟩
noncomputable def q3q:FnC:=cF [] Tryz.f128
theorem q5Y:FnOk Tryz.prog 128 q3q:=⟨fun xs w=>by kernel_rfl,_,Tryz.func128,by kernel_rfl⟩
noncomputable def q3T:FnC:=cF [] Tryz.f129
theorem q6N:FnOk Tryz.prog 129 q3T:=⟨fun xs w=>by kernel_rfl,_,Tryz.func129,by kernel_rfl⟩
noncomputable def q2q:FnC:=cF [] Tryz.f130
theorem q4T:FnOk Tryz.prog 130 q2q:=⟨fun xs w=>by kernel_rfl,_,Tryz.func130,by kernel_rfl⟩
noncomputable def q2r:FnC:=cF [] Tryz.f131
theorem q4U:FnOk Tryz.prog 131 q2r:=⟨fun xs w=>by kernel_rfl,_,Tryz.func131,by kernel_rfl⟩
noncomputable def q1d:FnC:=cF [] Tryz.f135
theorem q2E:FnOk Tryz.prog 135 q1d:=⟨fun xs w=>by kernel_rfl,_,Tryz.func135,by kernel_rfl⟩
noncomputable def q1f:FnC:=cF [] Tryz.f136
theorem q2G:FnOk Tryz.prog 136 q1f:=⟨fun xs w=>by kernel_rfl,_,Tryz.func136,by kernel_rfl⟩
noncomputable def q3Q:FnC:=cF [] Tryz.f137
theorem q6K:FnOk Tryz.prog 137 q3Q:=⟨fun xs w=>by kernel_rfl,_,Tryz.func137,by kernel_rfl⟩
noncomputable def q3L:FnC:=cF [] Tryz.f139
theorem q6D:FnOk Tryz.prog 139 q3L:=⟨fun xs w=>by kernel_rfl,_,Tryz.func139,by kernel_rfl⟩
noncomputable def q2K:FnC:=cF [] Tryz.f140
theorem q5o:FnOk Tryz.prog 140 q2K:=⟨fun xs w=>by kernel_rfl,_,Tryz.func140,by kernel_rfl⟩
noncomputable def q4x:FnC:=cF [] Tryz.f141
theorem ok_ref07_target:FnOk Tryz.prog 141 q4x:=⟨fun xs w=>by kernel_rfl,_,Tryz.func141,by kernel_rfl⟩
noncomputable def q3P:FnC:=cF [] Tryz.f142
theorem q6H:FnOk Tryz.prog 142 q3P:=⟨fun xs w=>by kernel_rfl,_,Tryz.func142,by kernel_rfl⟩
noncomputable def q3O:FnC:=cF [] Tryz.f143
theorem q6G:FnOk Tryz.prog 143 q3O:=⟨fun xs w=>by kernel_rfl,_,Tryz.func143,by kernel_rfl⟩
noncomputable def q3i:FnC:=cF [] Tryz.f144
theorem q5Q:FnOk Tryz.prog 144 q3i:=⟨fun xs w=>by kernel_rfl,_,Tryz.func144,by kernel_rfl⟩
noncomputable def q2u:FnC:=cF [] Tryz.f146
theorem q4X:FnOk Tryz.prog 146 q2u:=⟨fun xs w=>by kernel_rfl,_,Tryz.func146,by kernel_rfl⟩
noncomputable def q3R:FnC:=cF [] Tryz.f154
theorem q6L:FnOk Tryz.prog 154 q3R:=⟨fun xs w=>by kernel_rfl,_,Tryz.func154,by kernel_rfl⟩
noncomputable def q2N:FnC:=cF [71] Tryz.f155
theorem q5t:FnOk Tryz.prog 155 q2N:=⟨fun xs w=>by kernel_rfl,_,Tryz.func155,by kernel_rfl⟩
noncomputable def q5g:FnC:=cF [] Tryz.f156
theorem ok_value_Equal:FnOk Tryz.prog 156 q5g:=⟨fun xs w=>by kernel_rfl,_,Tryz.func156,by kernel_rfl⟩
noncomputable def q1D:FnC:=cF [] Tryz.f158
theorem q3A:FnOk Tryz.prog 158 q1D:=⟨fun xs w=>by kernel_rfl,_,Tryz.func158,by kernel_rfl⟩
noncomputable def q0J:FnC:=cF [] Tryz.f159
theorem q1I:FnOk Tryz.prog 159 q0J:=⟨fun xs w=>by kernel_rfl,_,Tryz.func159,by kernel_rfl⟩
noncomputable def q2o:FnC:=cF [] Tryz.f160
theorem q4R:FnOk Tryz.prog 160 q2o:=⟨fun xs w=>by kernel_rfl,_,Tryz.func160,by kernel_rfl⟩
noncomputable def q2L:FnC:=cF [] Tryz.f169
theorem q5r:FnOk Tryz.prog 169 q2L:=⟨fun xs w=>by kernel_rfl,_,Tryz.func169,by kernel_rfl⟩
noncomputable def q2M:FnC:=cF [] Tryz.f170
theorem q5s:FnOk Tryz.prog 170 q2M:=⟨fun xs w=>by kernel_rfl,_,Tryz.func170,by kernel_rfl⟩
noncomputable def q3E:FnC:=cF [] Tryz.f171
theorem q6v:FnOk Tryz.prog 171 q3E:=⟨fun xs w=>by kernel_rfl,_,Tryz.func171,by kernel_rfl⟩
noncomputable def q4w:FnC:=cF [] Tryz.f172
theorem ok_ref07_hollow:FnOk Tryz.prog 172 q4w:=⟨fun xs w=>by kernel_rfl,_,Tryz.func172,by kernel_rfl⟩
noncomputable def q3J:FnC:=cF [] Tryz.f173
theorem q6B:FnOk Tryz.prog 173 q3J:=⟨fun xs w=>by kernel_rfl,_,Tryz.func173,by kernel_rfl⟩
noncomputable def q3j:FnC:=cF [] Tryz.f174
theorem q5R:FnOk Tryz.prog 174 q3j:=⟨fun xs w=>by kernel_rfl,_,Tryz.func174,by kernel_rfl⟩
noncomputable def q0K:FnC:=cF [] Tryz.f192
theorem q1J:FnOk Tryz.prog 192 q0K:=⟨fun xs w=>by kernel_rfl,_,Tryz.func192,by kernel_rfl⟩
noncomputable def q2p:FnC:=cF [] Tryz.f193
theorem q4S:FnOk Tryz.prog 193 q2p:=⟨fun xs w=>by kernel_rfl,_,Tryz.func193,by kernel_rfl⟩
noncomputable def q3M:FnC:=cF [] Tryz.f194
theorem q6E:FnOk Tryz.prog 194 q3M:=⟨fun xs w=>by kernel_rfl,_,Tryz.func194,by kernel_rfl⟩
noncomputable def q2a:FnC:=cF [3000000,77,205,227,245,271,301] Tryz.f195
theorem q4q:FnOk Tryz.prog 195 q2a:=⟨fun xs w=>by kernel_rfl,_,Tryz.func195,by kernel_rfl⟩
noncomputable def q1u:FnC:=cF [] Tryz.f196
theorem q39:FnOk Tryz.prog 196 q1u:=⟨fun xs w=>by kernel_rfl,_,Tryz.func196,by kernel_rfl⟩
noncomputable def q0Q:FnC:=cF [] Tryz.f197
theorem q1P:FnOk Tryz.prog 197 q0Q:=⟨fun xs w=>by kernel_rfl,_,Tryz.func197,by kernel_rfl⟩
noncomputable def q4y:FnC:=cF [] Tryz.f203
theorem ok_schema_Valid:FnOk Tryz.prog 203 q4y:=⟨fun xs w=>by kernel_rfl,_,Tryz.func203,by kernel_rfl⟩
noncomputable def q3r:FnC:=cF [] Tryz.f204
theorem q5Z:FnOk Tryz.prog 204 q3r:=⟨fun xs w=>by kernel_rfl,_,Tryz.func204,by kernel_rfl⟩
noncomputable def q3I:FnC:=cF [] Tryz.f205
theorem q6A:FnOk Tryz.prog 205 q3I:=⟨fun xs w=>by kernel_rfl,_,Tryz.func205,by kernel_rfl⟩
noncomputable def q3m:FnC:=cF [] Tryz.f214
theorem q5U:FnOk Tryz.prog 214 q3m:=⟨fun xs w=>by kernel_rfl,_,Tryz.func214,by kernel_rfl⟩
noncomputable def q5h:FnC:=cF [] Tryz.f215
theorem ok_value_Plain:FnOk Tryz.prog 215 q5h:=⟨fun xs w=>by kernel_rfl,_,Tryz.func215,by kernel_rfl⟩
noncomputable def q28:FnC:=cF [3000000] Tryz.f216
theorem q4o:FnOk Tryz.prog 216 q28:=⟨fun xs w=>by kernel_rfl,_,Tryz.func216,by kernel_rfl⟩
noncomputable def q1z:FnC:=cF [] Tryz.f217
theorem q3w:FnOk Tryz.prog 217 q1z:=⟨fun xs w=>by kernel_rfl,_,Tryz.func217,by kernel_rfl⟩
noncomputable def q1U:FnC:=cF [] Tryz.f218
theorem q47:FnOk Tryz.prog 218 q1U:=⟨fun xs w=>by kernel_rfl,_,Tryz.func218,by kernel_rfl⟩
noncomputable def q1T:FnC:=cF [3000000,57] Tryz.f219
theorem q46:FnOk Tryz.prog 219 q1T:=⟨fun xs w=>by kernel_rfl,_,Tryz.func219,by kernel_rfl⟩
noncomputable def q5d:FnC:=cF [] Tryz.f221
theorem ok_schema_form:FnOk Tryz.prog 221 q5d:=⟨fun xs w=>by kernel_rfl,_,Tryz.func221,by kernel_rfl⟩
noncomputable def q5f:FnC:=cF [] Tryz.f222
theorem ok_schema_uses:FnOk Tryz.prog 222 q5f:=⟨fun xs w=>by kernel_rfl,_,Tryz.func222,by kernel_rfl⟩
noncomputable def q6f:FnC:=cF [] Tryz.f227
theorem ok_value_fits:FnOk Tryz.prog 227 q6f:=⟨fun xs w=>by kernel_rfl,_,Tryz.func227,by kernel_rfl⟩
noncomputable def q2t:FnC:=cF [] Tryz.f228
theorem q4W:FnOk Tryz.prog 228 q2t:=⟨fun xs w=>by kernel_rfl,_,Tryz.func228,by kernel_rfl⟩
noncomputable def q1y:FnC:=cF [] Tryz.f229
theorem q3v:FnOk Tryz.prog 229 q1y:=⟨fun xs w=>by kernel_rfl,_,Tryz.func229,by kernel_rfl⟩
noncomputable def q3l:FnC:=cF [] Tryz.f230
theorem q5T:FnOk Tryz.prog 230 q3l:=⟨fun xs w=>by kernel_rfl,_,Tryz.func230,by kernel_rfl⟩
noncomputable def q29:FnC:=cF [] Tryz.f231
theorem q4p:FnOk Tryz.prog 231 q29:=⟨fun xs w=>by kernel_rfl,_,Tryz.func231,by kernel_rfl⟩
noncomputable def q27:FnC:=cF [] Tryz.f232
theorem q4n:FnOk Tryz.prog 232 q27:=⟨fun xs w=>by kernel_rfl,_,Tryz.func232,by kernel_rfl⟩
noncomputable def q2O:FnC:=cF [] Tryz.f233
theorem q5u:FnOk Tryz.prog 233 q2O:=⟨fun xs w=>by kernel_rfl,_,Tryz.func233,by kernel_rfl⟩
noncomputable def q4v:FnC:=cF [] Tryz.f234
theorem ok_lexer_IsName:FnOk Tryz.prog 234 q4v:=⟨fun xs w=>by kernel_rfl,_,Tryz.func234,by kernel_rfl⟩
noncomputable def q3o:FnC:=cF [] Tryz.f235
theorem q5W:FnOk Tryz.prog 235 q3o:=⟨fun xs w=>by kernel_rfl,_,Tryz.func235,by kernel_rfl⟩
noncomputable def q3n:FnC:=cF [] Tryz.f236
theorem q5V:FnOk Tryz.prog 236 q3n:=⟨fun xs w=>by kernel_rfl,_,Tryz.func236,by kernel_rfl⟩
noncomputable def q4A:FnC:=cF [] Tryz.f237
theorem ok_schema_equal:FnOk Tryz.prog 237 q4A:=⟨fun xs w=>by kernel_rfl,_,Tryz.func237,by kernel_rfl⟩
noncomputable def q4B:FnC:=cF [] Tryz.f238
theorem ok_value_proper:FnOk Tryz.prog 238 q4B:=⟨fun xs w=>by kernel_rfl,_,Tryz.func238,by kernel_rfl⟩
noncomputable def q6g:FnC:=cF [] Tryz.f239
theorem ok_value_free:FnOk Tryz.prog 239 q6g:=⟨fun xs w=>by kernel_rfl,_,Tryz.func239,by kernel_rfl⟩
noncomputable def q6e:FnC:=cF [] Tryz.f240
theorem ok_value_each:FnOk Tryz.prog 240 q6e:=⟨fun xs w=>by kernel_rfl,_,Tryz.func240,by kernel_rfl⟩
noncomputable def q3U:FnC:=cF [] Tryz.f241
theorem q6O:FnOk Tryz.prog 241 q3U:=⟨fun xs w=>by kernel_rfl,_,Tryz.func241,by kernel_rfl⟩
noncomputable def q1e:FnC:=cF [] Tryz.f242
theorem q2F:FnOk Tryz.prog 242 q1e:=⟨fun xs w=>by kernel_rfl,_,Tryz.func242,by kernel_rfl⟩
noncomputable def q1t:FnC:=cF [] Tryz.f243
theorem q38:FnOk Tryz.prog 243 q1t:=⟨fun xs w=>by kernel_rfl,_,Tryz.func243,by kernel_rfl⟩
noncomputable def q4r:FnC:=cF [] Tryz.f244
theorem ok_encode_Field:FnOk Tryz.prog 244 q4r:=⟨fun xs w=>by kernel_rfl,_,Tryz.func244,by kernel_rfl⟩
noncomputable def q6i:FnC:=cF [] Tryz.f245
theorem ok_varint_Put:FnOk Tryz.prog 245 q6i:=⟨fun xs w=>by kernel_rfl,_,Tryz.func245,by kernel_rfl⟩
noncomputable def q3N:FnC:=cF [] Tryz.f246
theorem q6F:FnOk Tryz.prog 246 q3N:=⟨fun xs w=>by kernel_rfl,_,Tryz.func246,by kernel_rfl⟩
noncomputable def q3F:FnC:=cF [49] Tryz.f247
theorem q6w:FnOk Tryz.prog 247 q3F:=⟨fun xs w=>by kernel_rfl,_,Tryz.func247,by kernel_rfl⟩
noncomputable def q3k:FnC:=cF [] Tryz.f248
theorem q5S:FnOk Tryz.prog 248 q3k:=⟨fun xs w=>by kernel_rfl,_,Tryz.func248,by kernel_rfl⟩
noncomputable def q3K:FnC:=cF [] Tryz.f249
theorem q6C:FnOk Tryz.prog 249 q3K:=⟨fun xs w=>by kernel_rfl,_,Tryz.func249,by kernel_rfl⟩
noncomputable def q6b:FnC:=cF [] Tryz.f250
theorem ok_schema_ids:FnOk Tryz.prog 250 q6b:=⟨fun xs w=>by kernel_rfl,_,Tryz.func250,by kernel_rfl⟩
noncomputable def q4z:FnC:=cF [] Tryz.f251
theorem ok_schema_blank:FnOk Tryz.prog 251 q4z:=⟨fun xs w=>by kernel_rfl,_,Tryz.func251,by kernel_rfl⟩
noncomputable def q15:FnC:=cF [] Tryz.f252
theorem q2i:FnOk Tryz.prog 252 q15:=⟨fun xs w=>by kernel_rfl,_,Tryz.func252,by kernel_rfl⟩
noncomputable def q0I:FnC:=cF [] Tryz.f253
theorem q1H:FnOk Tryz.prog 253 q0I:=⟨fun xs w=>by kernel_rfl,_,Tryz.func253,by kernel_rfl⟩
noncomputable def q2Q:FnC:=cF [] Tryz.f254
theorem q5v:FnOk Tryz.prog 254 q2Q:=⟨fun xs w=>by kernel_rfl,_,Tryz.func254,by kernel_rfl⟩
noncomputable def q5e:FnC:=cF [] Tryz.f255
theorem ok_schema_same:FnOk Tryz.prog 255 q5e:=⟨fun xs w=>by kernel_rfl,_,Tryz.func255,by kernel_rfl⟩
noncomputable def q6d:FnC:=cF [] Tryz.f256
theorem ok_value_bare:FnOk Tryz.prog 256 q6d:=⟨fun xs w=>by kernel_rfl,_,Tryz.func256,by kernel_rfl⟩
noncomputable def q0C:FnC:=cF [] Tryz.f257
theorem q1r:FnOk Tryz.prog 257 q0C:=⟨fun xs w=>by kernel_rfl,_,Tryz.func257,by kernel_rfl⟩
noncomputable def q3V:FnC:=cF [] Tryz.f258
theorem q6P:FnOk Tryz.prog 258 q3V:=⟨fun xs w=>by kernel_rfl,_,Tryz.func258,by kernel_rfl⟩
noncomputable def q1S:FnC:=cF [] Tryz.f259
theorem q45:FnOk Tryz.prog 259 q1S:=⟨fun xs w=>by kernel_rfl,_,Tryz.func259,by kernel_rfl⟩
noncomputable def q3W:FnC:=cF [] Tryz.f260
theorem q6Q:FnOk Tryz.prog 260 q3W:=⟨fun xs w=>by kernel_rfl,_,Tryz.func260,by kernel_rfl⟩
noncomputable def q68:FnC:=cF [] Tryz.f261
theorem ok_cmp_Or_int:FnOk Tryz.prog 261 q68:=⟨fun xs w=>by kernel_rfl,_,Tryz.func261,by kernel_rfl⟩
noncomputable def q1R:FnC:=cF [] Tryz.f262
theorem q44:FnOk Tryz.prog 262 q1R:=⟨fun xs w=>by kernel_rfl,_,Tryz.func262,by kernel_rfl⟩
noncomputable def q4s:FnC:=cF [] Tryz.f263
theorem ok_encode_field:FnOk Tryz.prog 263 q4s:=⟨fun xs w=>by kernel_rfl,_,Tryz.func263,by kernel_rfl⟩
noncomputable def q3e:FnC:=cF [] Tryz.f264
theorem q5L:FnOk Tryz.prog 264 q3e:=⟨fun xs w=>by kernel_rfl,_,Tryz.func264,by kernel_rfl⟩
noncomputable def q1i:FnC:=cF [3000000,20,117,131,163,209,227] Tryz.f265
theorem q2V:FnOk Tryz.prog 265 q1i:=⟨fun xs w=>by kernel_rfl,_,Tryz.func265,by kernel_rfl⟩
noncomputable def q0R:FnC:=cF [] Tryz.f266
theorem q1Q:FnOk Tryz.prog 266 q0R:=⟨fun xs w=>by kernel_rfl,_,Tryz.func266,by kernel_rfl⟩
noncomputable def q2m:FnC:=cF [] Tryz.f267
theorem q4P:FnOk Tryz.prog 267 q2m:=⟨fun xs w=>by kernel_rfl,_,Tryz.func267,by kernel_rfl⟩
noncomputable def q2l:FnC:=cF [] Tryz.f268
theorem q4O:FnOk Tryz.prog 268 q2l:=⟨fun xs w=>by kernel_rfl,_,Tryz.func268,by kernel_rfl⟩
noncomputable def q4t:FnC:=cF [] Tryz.f269
theorem ok_encode_sized:FnOk Tryz.prog 269 q4t:=⟨fun xs w=>by kernel_rfl,_,Tryz.func269,by kernel_rfl⟩
noncomputable def q3f:FnC:=cF [] Tryz.f270
theorem q5M:FnOk Tryz.prog 270 q3f:=⟨fun xs w=>by kernel_rfl,_,Tryz.func270,by kernel_rfl⟩
noncomputable def q6c:FnC:=cF [] Tryz.f271
theorem ok_value_Fits:FnOk Tryz.prog 271 q6c:=⟨fun xs w=>by kernel_rfl,_,Tryz.func271,by kernel_rfl⟩
noncomputable def q6h:FnC:=cF [] Tryz.f272
theorem ok_varint_Big:FnOk Tryz.prog 272 q6h:=⟨fun xs w=>by kernel_rfl,_,Tryz.func272,by kernel_rfl⟩
noncomputable def q1s:FnC:=cF [3000000,28,109,147,101,1000000 + 278] Tryz.f273
theorem q36:FnOk Tryz.prog 273 q1s:=⟨fun xs w=>by kernel_rfl,_,Tryz.func273,by kernel_rfl⟩
noncomputable def q1x:FnC:=cF [3000000,93] Tryz.f274
theorem q3t:FnOk Tryz.prog 274 q1x:=⟨fun xs w=>by kernel_rfl,_,Tryz.func274,by kernel_rfl⟩
noncomputable def q3g:FnC:=cF [] Tryz.f277
theorem q5N:FnOk Tryz.prog 277 q3g:=⟨fun xs w=>by kernel_rfl,_,Tryz.func277,by kernel_rfl⟩
noncomputable def q0E:FnC:=cF [1000000 + 281] Tryz.f278
theorem q1w:FnOk Tryz.prog 278 q0E:=⟨fun xs w=>by kernel_rfl,_,Tryz.func278,by kernel_rfl⟩
noncomputable def q14:FnC:=cF [] Tryz.f279
theorem q2h:FnOk Tryz.prog 279 q14:=⟨fun xs w=>by kernel_rfl,_,Tryz.func279,by kernel_rfl⟩
noncomputable def q0r:FnC:=cF [1000000 + 283] Tryz.f281
theorem q12:FnOk Tryz.prog 281 q0r:=⟨fun xs w=>by kernel_rfl,_,Tryz.func281,by kernel_rfl⟩
noncomputable def q0j:FnC:=cF [] Tryz.f283
theorem q0G:FnOk Tryz.prog 283 q0j:=⟨fun xs w=>by kernel_rfl,_,Tryz.func283,by kernel_rfl⟩
section
def Det {α:Type} (f:(α->MSt->Option RV)->Option RV):Prop:=(∀ k,f k=none)\/∃ e s',∀ k,f k=k e s'
theorem Det.bind {α β:Type} {f:(α->MSt->Option RV)->Option RV} (h:Det f) {g:(β->MSt->Option RV)->α->MSt->Option RV} (hg:∀ e s,Det fun k=>g k e s):Det fun k=>f (g k):=by
 rcases h with h | ⟨e,s,h⟩
 ·exact .inl fun k=>h _
 ·rcases hg e s with h2 | ⟨e',s',h2⟩
  ·exact .inl fun k=>(h _).trans (h2 k)
  ·exact .inr ⟨e',s',fun k=>(h _).trans (h2 k)⟩
theorem Det.no {α:Type}:Det fun (_:α->MSt->Option RV)=>none:=.inl fun _=>rfl
section
variable {call:q09} {lh:LH}
end
section
variable {T:Nat->Option FnC} {ext:q09}
end
end
noncomputable def allT:Nat->Option FnC
 | 15=>some q0a
 | 16=>some q08
 | 21=>some q1A
 | 28=>some q5c
 | 32=>some q3p
 | 40=>some q5b
 | 45=>some q57
 | 46=>some q3h
 | 50=>some q2n
 | 54=>some q4u
 | 59=>some q0e
 | 60=>some q0k
 | 61=>some q0X
 | 62=>some q1j
 | 63=>some q0Y
 | 64=>some q1l
 | 65=>some q0c
 | 76=>some q3S
 | 77=>some q2R
 | 79=>some q1B
 | 81=>some q2s
 | 86=>some q1o
 | 87=>some q6a
 | 88=>some q58
 | 89=>some c_ref07_low
 | 90=>some q69
 | 91=>some c_ref07_ids
 | 92=>some q59
 | 93=>some c_ref07_key
 | 95=>some q3H
 | 98=>some q5a
 | 102=>some c_law24_rec
 | 103=>some q3G
 | 105=>some q56
 | 106=>some q1C
 | 110=>some q0o
 | 111=>some q0U
 | 112=>some q2P
 | 113=>some q1n
 | 128=>some q3q
 | 129=>some q3T
 | 130=>some q2q
 | 131=>some q2r
 | 135=>some q1d
 | 136=>some q1f
 | 137=>some q3Q
 | 139=>some q3L
 | 140=>some q2K
 | 141=>some q4x
 | 142=>some q3P
 | 143=>some q3O
 | 144=>some q3i
 | 146=>some q2u
 | 154=>some q3R
 | 155=>some q2N
 | 156=>some q5g
 | 158=>some q1D
 | 159=>some q0J
 | 160=>some q2o
 | 169=>some q2L
 | 170=>some q2M
 | 171=>some q3E
 | 172=>some q4w
 | 173=>some q3J
 | 174=>some q3j
 | 192=>some q0K
 | 193=>some q2p
 | 194=>some q3M
 | 195=>some q2a
 | 196=>some q1u
 | 197=>some q0Q
 | 203=>some q4y
 | 204=>some q3r
 | 205=>some q3I
 | 214=>some q3m
 | 215=>some q5h
 | 216=>some q28
 | 217=>some q1z
 | 218=>some q1U
 | 219=>some q1T
 | 221=>some q5d
 | 222=>some q5f
 | 227=>some q6f
 | 228=>some q2t
 | 229=>some q1y
 | 230=>some q3l
 | 231=>some q29
 | 232=>some q27
 | 233=>some q2O
 | 234=>some q4v
 | 235=>some q3o
 | 236=>some q3n
 | 237=>some q4A
 | 238=>some q4B
 | 239=>some q6g
 | 240=>some q6e
 | 241=>some q3U
 | 242=>some q1e
 | 243=>some q1t
 | 244=>some q4r
 | 245=>some q6i
 | 246=>some q3N
 | 247=>some q3F
 | 248=>some q3k
 | 249=>some q3K
 | 250=>some q6b
 | 251=>some q4z
 | 252=>some q15
 | 253=>some q0I
 | 254=>some q2Q
 | 255=>some q5e
 | 256=>some q6d
 | 257=>some q0C
 | 258=>some q3V
 | 259=>some q1S
 | 260=>some q3W
 | 261=>some q68
 | 262=>some q1R
 | 263=>some q4s
 | 264=>some q3e
 | 265=>some q1i
 | 266=>some q0R
 | 267=>some q2m
 | 268=>some q2l
 | 269=>some q4t
 | 270=>some q3f
 | 271=>some q6c
 | 272=>some q6h
 | 273=>some q1s
 | 274=>some q1x
 | 277=>some q3g
 | 278=>some q0E
 | 279=>some q14
 | 281=>some q0r
 | 283=>some q0j
 | _=>none
theorem allT_ok (f:Nat) (c:FnC) (h:allT f=some c):FnOk Tryz.prog f c:=by
 unfold allT at h;split at h
 ·injection h with h; subst h; exact q4m
 ·injection h with h; subst h; exact q3u
 ·injection h with h; subst h; exact q3x
 ·injection h with h; subst h; exact ok_ref20_Pairs
 ·injection h with h; subst h; exact q5X
 ·injection h with h; subst h; exact ok_ref20_Bools
 ·injection h with h; subst h; exact ok_law24_awake
 ·injection h with h; subst h; exact q5O
 ·injection h with h; subst h; exact q4Q
 ·injection h with h; subst h; exact ok_history_Gaps
 ·injection h with h; subst h; exact q20
 ·injection h with h; subst h; exact q37
 ·injection h with h; subst h; exact q5p
 ·injection h with h; subst h; exact q6I
 ·injection h with h; subst h; exact q5q
 ·injection h with h; subst h; exact q6J
 ·injection h with h; subst h; exact q2D
 ·injection h with h; subst h; exact q6M
 ·injection h with h; subst h; exact q5w
 ·injection h with h; subst h; exact q3y
 ·injection h with h; subst h; exact q4V
 ·injection h with h; subst h; exact q2W
 ·injection h with h; subst h; exact ok_ref07_kind
 ·injection h with h; subst h; exact ok_ref07_Named
 ·injection h with h; subst h; exact ok_ref07_low
 ·injection h with h; subst h; exact ok_ref07_high
 ·injection h with h; subst h; exact ok_ref07_ids
 ·injection h with h; subst h; exact ok_ref07_parts
 ·injection h with h; subst h; exact ok_ref07_key
 ·injection h with h; subst h; exact q6z
 ·injection h with h; subst h; exact ok_ref11_Bools
 ·injection h with h; subst h; exact ok_law24_rec
 ·injection h with h; subst h; exact q6y
 ·injection h with h; subst h; exact ok_history_ids
 ·injection h with h; subst h; exact q3z
 ·injection h with h; subst h; exact q2H
 ·injection h with h; subst h; exact q6x
 ·injection h with h; subst h; exact ok_ref24_in
 ·injection h with h; subst h; exact ok_ref24_entry
 ·injection h with h; subst h; exact q5Y
 ·injection h with h; subst h; exact q6N
 ·injection h with h; subst h; exact q4T
 ·injection h with h; subst h; exact q4U
 ·injection h with h; subst h; exact q2E
 ·injection h with h; subst h; exact q2G
 ·injection h with h; subst h; exact q6K
 ·injection h with h; subst h; exact q6D
 ·injection h with h; subst h; exact q5o
 ·injection h with h; subst h; exact ok_ref07_target
 ·injection h with h; subst h; exact q6H
 ·injection h with h; subst h; exact q6G
 ·injection h with h; subst h; exact q5Q
 ·injection h with h; subst h; exact q4X
 ·injection h with h; subst h; exact q6L
 ·injection h with h; subst h; exact q5t
 ·injection h with h; subst h; exact ok_value_Equal
 ·injection h with h; subst h; exact q3A
 ·injection h with h; subst h; exact q1I
 ·injection h with h; subst h; exact q4R
 ·injection h with h; subst h; exact q5r
 ·injection h with h; subst h; exact q5s
 ·injection h with h; subst h; exact q6v
 ·injection h with h; subst h; exact ok_ref07_hollow
 ·injection h with h; subst h; exact q6B
 ·injection h with h; subst h; exact q5R
 ·injection h with h; subst h; exact q1J
 ·injection h with h; subst h; exact q4S
 ·injection h with h; subst h; exact q6E
 ·injection h with h; subst h; exact q4q
 ·injection h with h; subst h; exact q39
 ·injection h with h; subst h; exact q1P
 ·injection h with h; subst h; exact ok_schema_Valid
 ·injection h with h; subst h; exact q5Z
 ·injection h with h; subst h; exact q6A
 ·injection h with h; subst h; exact q5U
 ·injection h with h; subst h; exact ok_value_Plain
 ·injection h with h; subst h; exact q4o
 ·injection h with h; subst h; exact q3w
 ·injection h with h; subst h; exact q47
 ·injection h with h; subst h; exact q46
 ·injection h with h; subst h; exact ok_schema_form
 ·injection h with h; subst h; exact ok_schema_uses
 ·injection h with h; subst h; exact ok_value_fits
 ·injection h with h; subst h; exact q4W
 ·injection h with h; subst h; exact q3v
 ·injection h with h; subst h; exact q5T
 ·injection h with h; subst h; exact q4p
 ·injection h with h; subst h; exact q4n
 ·injection h with h; subst h; exact q5u
 ·injection h with h; subst h; exact ok_lexer_IsName
 ·injection h with h; subst h; exact q5W
 ·injection h with h; subst h; exact q5V
 ·injection h with h; subst h; exact ok_schema_equal
 ·injection h with h; subst h; exact ok_value_proper
 ·injection h with h; subst h; exact ok_value_free
 ·injection h with h; subst h; exact ok_value_each
 ·injection h with h; subst h; exact q6O
 ·injection h with h; subst h; exact q2F
 ·injection h with h; subst h; exact q38
 ·injection h with h; subst h; exact ok_encode_Field
 ·injection h with h; subst h; exact ok_varint_Put
 ·injection h with h; subst h; exact q6F
 ·injection h with h; subst h; exact q6w
 ·injection h with h; subst h; exact q5S
 ·injection h with h; subst h; exact q6C
 ·injection h with h; subst h; exact ok_schema_ids
 ·injection h with h; subst h; exact ok_schema_blank
 ·injection h with h; subst h; exact q2i
 ·injection h with h; subst h; exact q1H
 ·injection h with h; subst h; exact q5v
 ·injection h with h; subst h; exact ok_schema_same
 ·injection h with h; subst h; exact ok_value_bare
 ·injection h with h; subst h; exact q1r
 ·injection h with h; subst h; exact q6P
 ·injection h with h; subst h; exact q45
 ·injection h with h; subst h; exact q6Q
 ·injection h with h; subst h; exact ok_cmp_Or_int
 ·injection h with h; subst h; exact q44
 ·injection h with h; subst h; exact ok_encode_field
 ·injection h with h; subst h; exact q5L
 ·injection h with h; subst h; exact q2V
 ·injection h with h; subst h; exact q1Q
 ·injection h with h; subst h; exact q4P
 ·injection h with h; subst h; exact q4O
 ·injection h with h; subst h; exact ok_encode_sized
 ·injection h with h; subst h; exact q5M
 ·injection h with h; subst h; exact ok_value_Fits
 ·injection h with h; subst h; exact ok_varint_Big
 ·injection h with h; subst h; exact q36
 ·injection h with h; subst h; exact q3t
 ·injection h with h; subst h; exact q5N
 ·injection h with h; subst h; exact q1w
 ·injection h with h; subst h; exact q2h
 ·injection h with h; subst h; exact q12
 ·injection h with h; subst h; exact q0G
 ·cases h
section
mutual
def AV.beq:AV->AV->Bool
 | .int k n,.int k' n'=>decide (k=k')&&decide (n=n')
 | .bool a,.bool b=>a == b
 | .str a,.str b=>decide (a=b)
 | .nilP,.nilP=>true
 | .ptr t n o,.ptr t' n' o'=>Nat.beq t t'&&Nat.beq n n'&&Nat.beq o o'
 | .ip l,.ip m=>AV.beqL l m
 | .bp l,.bp m=>AV.beqL l m
 | .sl b l,.sl b' m=>(b == b')&&AV.beqLL l m
 | .bl l,.bl m=>AV.beqLL l m
 | .fn f l,.fn g m=>Nat.beq f g&&AV.beqL l m
 | .agg l,.agg m=>AV.beqL l m
 | .tup l,.tup m=>AV.beqL l m
 | .undef,.undef=>true
 | _,_=>false
def AV.beqL:List AV->List AV->Bool
 | [],[]=>true
 | x :: l,y :: m=>AV.beq x y&&AV.beqL l m
 | _,_=>false
def AV.beqLL:List (List AV)->List (List AV)->Bool
 | [],[]=>true
 | x :: l,y :: m=>AV.beqL x y&&AV.beqLL l m
 | _,_=>false
end
mutual
theorem AV.beq_eq:∀ (x y:AV),AV.beq x y=true->x=y
 | .int k n,y,h=>by cases y <;> simp [AV.beq] at h <;> simp [h]
 | .bool a,y,h=>by cases y <;> simp [AV.beq] at h <;> simp [h]
 | .str a,y,h=>by cases y <;> simp [AV.beq] at h <;> simp [h]
 | .nilP,y,h=>by cases y <;> simp [AV.beq] at h <;> rfl
 | .ptr t n o,y,h=>by cases y <;> simp [AV.beq] at h <;> simp [h]
 | .ip l,y,h=>by cases y <;> simp only [AV.beq] at h <;> first | cases h | rw [AV.beqL_eq l _ h]
 | .bp l,y,h=>by cases y <;> simp only [AV.beq] at h <;> first | cases h | rw [AV.beqL_eq l _ h]
 | .sl b l,y,h=>by
  cases y <;> simp only [AV.beq] at h <;> first | cases h | skip
  rw [y8] at h
  rw [AV.beqLL_eq l _ h.2,show b=_ from by simpa using h.1]
 | .bl l,y,h=>by cases y <;> simp only [AV.beq] at h <;> first | cases h | rw [AV.beqLL_eq l _ h]
 | .ref ..,y,h=>by cases y <;> simp [AV.beq] at h
 | .mp ..,y,h=>by cases y <;> simp [AV.beq] at h
 | .fn f l,y,h=>by
  cases y <;> simp only [AV.beq] at h <;> first | cases h | skip
  rw [y8] at h
  rw [AV.beqL_eq l _ h.2,show f=_ from by simpa using h.1]
 | .agg l,y,h=>by cases y <;> simp only [AV.beq] at h <;> first | cases h | rw [AV.beqL_eq l _ h]
 | .tup l,y,h=>by cases y <;> simp only [AV.beq] at h <;> first | cases h | rw [AV.beqL_eq l _ h]
 | .undef,y,h=>by cases y <;> simp [AV.beq] at h <;> rfl
theorem AV.beqL_eq:∀ (x y:List AV),AV.beqL x y=true->x=y
 | [],[],_=>rfl
 | [],_ :: _,h=>by simp [AV.beqL] at h
 | _ :: _,[],h=>by simp [AV.beqL] at h
 | x :: l,y :: m,h=>by
  simp only [AV.beqL,y8] at h
  rw [AV.beq_eq x y h.1,AV.beqL_eq l m h.2]
theorem AV.beqLL_eq:∀ (x y:List (List AV)),AV.beqLL x y=true->x=y
 | [],[],_=>rfl
 | [],_ :: _,h=>by simp [AV.beqLL] at h
 | _ :: _,[],h=>by simp [AV.beqLL] at h
 | x :: l,y :: m,h=>by
  simp only [AV.beqLL,y8] at h
  rw [AV.beqL_eq x y h.1,AV.beqLL_eq l m h.2]
end
def AV.beqO:Option AV->Option AV->Bool
 | none,none=>true
 | some x,some y=>AV.beq x y
 | _,_=>false
theorem AV.beqO_eq:∀ (x y:Option AV),AV.beqO x y=true->x=y
 | none,none,_=>rfl
 | none,some _,h=>by cases h
 | some _,none,h=>by cases h
 | some x,some y,h=>by rw [AV.beq_eq x y h]
structure ME where
 f:Nat
 args:List AV
 S:Option AV
 r:RV
def look:List ME->q09
 | [],_,_,_=>none
 | e :: l,f,args,S=>if Nat.beq e.f f&&(AV.beqL e.args args&&AV.beqO e.S S) then some e.r else look l f args S
mutual
noncomputable def callM (M:List ME) (T:Nat->Option FnC) (ext:q09):Nat->q09
 | 0,f,args,S0=>match T f with
  | none=>ext f args S0
  | some _=>none
 | n + 1,f,args,S0=>match look M f args S0 with
  | some r=>some r
  | none=>match T f with
   | none=>ext f args S0
   | some c=>match markR args,S0 with
    | some rest,some (.agg cs)=>if rest.length=c.np/\q3s rest=false then c.code.run (callM M T ext n) ⟨lpM M T ext n,hpM M T ext n⟩ (MSt.initR rest cs) (finR c cs.length) else none
    | some _,_=>none
    | none,_=>if args.length=c.np/\q3s args=false/\noItO S0=true then c.code.run (callM M T ext n) ⟨lpM M T ext n,hpM M T ext n⟩ (MSt.init args S0) (fin c S0) else none
noncomputable def lpM (M:List ME) (T:Nat->Option FnC) (ext:q09):Nat->LpT
 | 0,_,_,_=>none
 | n + 1,b,s,k=>b.run (callM M T ext n) ⟨lpM M T ext n,hpM M T ext n⟩ s (again (lpM M T ext n) b k)
noncomputable def hpM (M:List ME) (T:Nat->Option FnC) (ext:q09):Nat->HpT
 | 0,_,_,_,_=>none
 | n + 1,f,args,s,k=>match T f with
  | none=>none
  | some c=>if args.length=c.np then c.code.run (callM M T ext n) ⟨lpM M T ext n,hpM M T ext n⟩ (s.initH args) (finH c k) else none
end
variable {T:Nat->Option FnC} {ext:q09} {M:List ME}
def q03 (T:Nat->Option FnC) (ext:q09) (M:List ME):Prop:=∀ f args S r,look M f args S=some r->evC T ext f args S=some r
theorem M_late (hM:q03 T ext M):∀ N,(∀ f args S r,callM M T ext N f args S=some r->Late fun m=>q16 T ext m f args S=some r) ∧
  (∀ b s k r (km:Nat->Ex->MSt->Option RV),(∀ e s' r',k e s'=some r'->Late fun m=>km m e s'=some r')->lpM M T ext N b s k=some r->Late fun m=>lpN T ext m b s (km m)=some r) ∧
  HLate (hpM M T ext N) (hpN T ext)
 | 0=>by
  refine ⟨fun f args S r h=>⟨0,fun m _=>?_⟩,fun b s k r km _ h=>(by cases h),fun f xs s k r km _ h=>(by cases h)⟩;unfold callM at h;cases hT:T f with
  | none=>rw [hT] at h; cases m <;> (unfold q16; rw [hT]; exact h)
  | some c=>rw [hT] at h; cases h
 | N + 1=>by
  obtain ⟨ih1,ih2,ih3⟩:=M_late hM N;refine ⟨?_,?_,?_⟩
  ·intro f args S0 r h;unfold callM at h;cases hl:look M f args S0 with
   | some r' =>
    rw [hl] at h;injection h with h;subst h;exact q6S f args S0 _ (hM f args S0 _ hl)
   | none =>
   rw [hl] at h;simp only at h;cases hT:T f with
   | none=>rw [hT] at h; exact ⟨0,fun m _=>by cases m <;> (unfold q16; rw [hT]; exact h)⟩
   | some c =>
    rw [hT] at h;cases hm:markR args with
    | some rest =>
     cases S0 with
     | none=>rw [hm] at h; cases h
     | some S =>
      cases S with
      | agg cs =>
       rw [hm] at h;simp only at h;split at h
       ·rename_i hl;refine Late.pred ((q0v (lpA:=⟨lpM M T ext N,hpM M T ext N⟩) (lpB:=fun m=>⟨lpN T ext m,hpN T ext m⟩) ih1 ih3 ih2 c.code _ _ r (fun _=>finR c cs.length) (fun e s' r' h'=>Late.now h') h).imp fun m hm'=>?_);unfold q16;rw [hT];simp only [hm];rw [if_pos hl];exact hm'
       ·cases h
      | _=>rw [hm] at h; cases h
    | none =>
     rw [hm] at h;simp only at h;split at h
     ·rename_i hl;refine Late.pred ((q0v (lpA:=⟨lpM M T ext N,hpM M T ext N⟩) (lpB:=fun m=>⟨lpN T ext m,hpN T ext m⟩) ih1 ih3 ih2 c.code _ _ r (fun _=>fin c S0) (fun e s' r' h'=>Late.now h') h).imp fun m hm'=>?_);unfold q16;rw [hT];simp only [hm];rw [if_pos hl];exact hm'
     ·cases h
  ·intro b s k r km hk h;unfold lpM at h;refine Late.pred ((q0v (lpA:=⟨lpM M T ext N,hpM M T ext N⟩) (lpB:=fun m=>⟨lpN T ext m,hpN T ext m⟩) ih1 ih3 ih2 b s _ r (fun m=>again (lpN T ext m) b (km (m + 1))) (fun e s' r' h'=>?_) h).imp fun m hm=>?_)
   ·cases e with
    | nrm=>exact ih2 b s' k r' (fun m=>km (m + 1)) (fun e s'' r'' h''=>(hk e s'' r'' h'').succ) h'
    | exit id=>exact (hk _ _ _ h').succ
    | ret=>exact (hk _ _ _ h').succ
   ·unfold lpN;exact hm
  ·intro f xs s k r km hk h;unfold hpM at h;cases hT:T f with
   | none=>rw [hT] at h; cases h
   | some c =>
    rw [hT] at h;simp only at h;split at h
    ·rename_i hl;refine Late.pred ((q0v (lpA:=⟨lpM M T ext N,hpM M T ext N⟩) (lpB:=fun m=>⟨lpN T ext m,hpN T ext m⟩) ih1 ih3 ih2 c.code _ _ r (fun m=>finH c (km (m + 1))) (fun e s' r' h'=>?_) h).imp fun m hm=>?_)
     ·cases e with
      | exit id=>cases h'
      | nrm =>
       simp only [finH] at h' ⊢;obtain ⟨y,hy,h'⟩:=y4.1 h';simp only [hy,y0];exact (hk _ _ _ h').succ
      | ret =>
       simp only [finH] at h' ⊢;obtain ⟨y,hy,h'⟩:=y4.1 h';simp only [hy,y0];exact (hk _ _ _ h').succ
     ·unfold hpN;rw [hT];simp only;rw [if_pos hl];exact hm
    ·cases h
theorem q03.nil:q03 T ext []:=fun f args S r h=>by cases h
theorem q03.run (hM:q03 T ext M) {f:Nat} {args:List AV} {S:Option AV} {r:RV} (N:Nat) (h:callM M T ext N f args S=some r):evC T ext f args S=some r:=by
 obtain ⟨m,hm⟩:=((M_late hM N).1 f args S r h).some;exact q1X.2 ⟨m,hm⟩
theorem q03.cons (hM:q03 T ext M) {e:ME} (h:evC T ext e.f e.args e.S=some e.r):q03 T ext (e :: M):=fun f args S r hl=>by
 unfold look at hl;split at hl
 ·rename_i hc;simp only [y8] at hc;obtain ⟨h1,h2,h3⟩:=hc;injection hl with hl;have h1:e.f=f:=by simpa using h1
  rw [<- h1,<- AV.beqL_eq _ _ h2,<- AV.beqO_eq _ _ h3,<- hl];exact h
 ·exact hM f args S r hl
theorem q03.more (hM:q03 T ext M) (N:Nat) (e:ME) (h:callM M T ext N e.f e.args e.S=some e.r):q03 T ext (e :: M):=hM.cons (hM.run N h)
end
section
def putE (e:Nat->Slot) (d:Nat) (x:Slot):Nat->Slot:=fun t=>if t=d then x else e t
theorem putE_at (e:Nat->Slot) (d:Nat) (x:Slot) (t:Nat):putE e d x t=if t=d then x else e t:=(rfl)
def setM (m:Nat->Nat->Option (List Slot)) (t n:Nat) (r:List Slot):Nat->Nat->Option (List Slot):=fun t' n'=>if t'=t/\n'=n then some r else m t' n'
theorem setM_at (m:Nat->Nat->Option (List Slot)) (t n:Nat) (r:List Slot) (t' n':Nat):setM m t n r t' n'=if t'=t/\n'=n then some r else m t' n':=(rfl)
def setO (m:Nat->Nat->Option AV) (t n:Nat) (r:AV):Nat->Nat->Option AV:=fun t' n'=>if t'=t/\n'=n then some r else m t' n'
theorem setO_at (m:Nat->Nat->Option AV) (t n:Nat) (r:AV) (t' n':Nat):setO m t n r t' n'=if t'=t/\n'=n then some r else m t' n':=(rfl)
def stripE (k:Nat) (e:Nat->Slot):Nat->Slot:=fun t=>(e t).strip k
theorem stripE_at (k:Nat) (e:Nat->Slot) (t:Nat):stripE k e t=(e t).strip k:=(rfl)
def stripM (k:Nat) (m:Nat->Nat->Option (List Slot)):Nat->Nat->Option (List Slot):=fun t n=>(m t n).map (·.map (Slot.strip k))
theorem stripM_at (k:Nat) (m:Nat->Nat->Option (List Slot)) (t n:Nat):stripM k m t n=(m t n).map (·.map (Slot.strip k)):=(rfl)
theorem Slot.strip_v (k:Nat) (x:Slot):(x.strip k).v=x.v:=(rfl)
theorem Slot.strip_a (k:Nat) (x:Slot):(x.strip k).a=x.a.strip k:=(rfl)
theorem Slot.strip_mk (k:Nat) (v:AV) (a:An):Slot.strip k ⟨v,a⟩=⟨v,a.strip k⟩:=(rfl)
def argE (args:List AV):Nat->Slot:=fun t=>⟨args.getD t .undef,.no⟩
theorem argE_at (args:List AV) (t:Nat):argE args t=⟨args.getD t .undef,.no⟩:=(rfl)
def noM:Nat->Nat->Option (List Slot):=fun _ _=>none
theorem noM_at (t n:Nat):noM t n=none:=(rfl)
def objE (S0:Option AV):Nat->Nat->Option AV:=fun t n=>if t=0/\n=0 then S0 else none
theorem objE_at (S0:Option AV) (t n:Nat):objE S0 t n=if t=0/\n=0 then S0 else none:=(rfl)
def undE:Nat->Slot:=fun _=>⟨.undef,.no⟩
theorem undE_at (t:Nat):undE t=⟨.undef,.no⟩:=(rfl)
theorem bind_some2 {α β:Type} (a:α) (f:α->Option β):(some a).bind f=f a:=(rfl)
theorem take_map_len {α β:Type} (f:α->β) (l:List α):(l.map f).take l.length=l.map f:=List.take_of_length_le (by simp)
theorem m_init (args:List AV) (S0:Option AV):MSt.init args S0=⟨argE args,noM,1,objE S0,undE⟩:=(rfl)
theorem m_put (s:MSt) (d:Nat) (x:Slot):s.put (some d) x=⟨putE s.env d x,s.mem,s.next,s.obj,s.gh⟩:=(rfl)
theorem m_put0 (s:MSt) (x:Slot):s.put none x=s:=(rfl)
theorem m_row (s:MSt) (t n:Nat) (r:List Slot):s.setRow t n r=⟨s.env,setM s.mem t n r,s.next,s.obj,s.gh⟩:=(rfl)
theorem m_obj (s:MSt) (t n:Nat) (r:AV):s.setObj t n r=⟨s.env,s.mem,s.next,setO s.obj t n r,s.gh⟩:=(rfl)
theorem m_strip (s:MSt) (k:Nat):s.strip k=⟨stripE k s.env,stripM k s.mem,s.next,s.obj,stripE k s.gh⟩:=(rfl)
theorem m_stripA (s:MSt) (k:Nat) (e:TypeId):s.stripA (.own k e)=s.strip k:=(rfl)
theorem m_stripX (s:MSt):s.stripA .ex=s:=(rfl)
def killE (t n:Nat) (e:Nat->Slot):Nat->Slot:=fun j=>(e j).kill t n
theorem killE_at (t n:Nat) (e:Nat->Slot) (j:Nat):killE t n e j=(e j).kill t n:=(rfl)
def killM (t n:Nat) (m:Nat->Nat->Option (List Slot)):Nat->Nat->Option (List Slot):=fun t' n'=>if t'=t/\n'=n then none else (m t' n').map (·.map (Slot.kill t n))
theorem q6W (t n:Nat) (m:Nat->Nat->Option (List Slot)) (t' n':Nat):killM t n m t' n'=if t'=t/\n'=n then none else (m t' n').map (·.map (Slot.kill t n)):=(rfl)
theorem Slot.kill_v (t n:Nat) (x:Slot):(x.kill t n).v=x.v.kill t n:=(rfl)
theorem Slot.kill_a (t n:Nat) (x:Slot):(x.kill t n).a=x.a:=(rfl)
theorem Slot.kill_mk (t n:Nat) (v:AV) (a:An):Slot.kill t n ⟨v,a⟩=⟨v.kill t n,a⟩:=(rfl)
theorem m_kill (s:MSt) (t n:Nat):s.killO (some (t,n))=⟨killE t n s.env,killM t n s.mem,s.next,s.obj,killE t n s.gh⟩:=(rfl)
def rowE (cs:List AV):Nat->Nat->Option (List Slot):=fun t n=>if t=0/\n=0 then some (cs.map fun v=>⟨v,q1K v⟩) else none
theorem rowE_at (cs:List AV) (t n:Nat):rowE cs t n=if t=0/\n=0 then some (cs.map fun v=>⟨v,q1K v⟩) else none:=(rfl)
theorem m_initR (args cs:List AV):MSt.initR args cs=⟨argE args,rowE cs,1,objE none,undE⟩:=by
 have:objE none=fun _ _=>none:=by funext t n; simp [objE]
 rw [this];rfl
def drop0M (m:Nat->Nat->Option (List Slot)):Nat->Nat->Option (List Slot):=fun t n=>if t=0/\n=0 then none else m t n
theorem drop0M_at (m:Nat->Nat->Option (List Slot)) (t n:Nat):drop0M m t n=if t=0/\n=0 then none else m t n:=(rfl)
theorem m_drop0 (s:MSt):s.drop0=⟨s.env,drop0M s.mem,s.next,s.obj,s.gh⟩:=(rfl)
def slotE (xs:List Slot):Nat->Slot:=fun t=>xs.getD t ⟨.undef,.no⟩
theorem slotE_at (xs:List Slot) (t:Nat):slotE xs t=xs.getD t ⟨.undef,.no⟩:=(rfl)
def waitE (nt:Nat) (e g:Nat->Slot):Nat->Slot:=fun t=>if t<nt then e t else g (t - nt)
theorem waitE_at (nt:Nat) (e g:Nat->Slot) (t:Nat):waitE nt e g t=if t<nt then e t else g (t - nt):=(rfl)
def backE (nt:Nat) (g:Nat->Slot):Nat->Slot:=fun t=>if t<nt then g t else ⟨.undef,.no⟩
theorem backE_at (nt:Nat) (g:Nat->Slot) (t:Nat):backE nt g t=if t<nt then g t else ⟨.undef,.no⟩:=(rfl)
def restE (nt:Nat) (g:Nat->Slot):Nat->Slot:=fun t=>g (t + nt)
theorem restE_at (nt:Nat) (g:Nat->Slot) (t:Nat):restE nt g t=g (t + nt):=(rfl)
theorem m_initH (s:MSt) (xs:List Slot):s.initH xs=⟨slotE xs,s.mem,s.next,s.obj,s.gh⟩:=(rfl)
theorem m_enter (s:MSt) (nt:Nat):s.enter nt=⟨s.env,s.mem,s.next + 1,s.obj,waitE nt s.env s.gh⟩:=(rfl)
theorem m_leave (s:MSt) (nt:Nat):s.leave nt=⟨backE nt s.gh,s.mem,s.next,s.obj,restE nt s.gh⟩:=(rfl)
theorem m_kill0 (s:MSt):s.killO none=s:=(rfl)
theorem kill0_free {v:AV} (h:v.free0=true) (t n:Nat):v.kill0 t n=v:=by
 cases v <;> first | rfl | (simp [AV.free0] at h; done)
theorem kill_map {cs:List AV} (h:cs.all AV.free0=true) (t n:Nat):cs.map (AV.kill0 t n)=cs:=by
 have h1:cs.map (AV.kill0 t n)=cs.map id:=yr fun x hx=>kill0_free (y5.1 h x hx) t n
 rwa [List.map_id] at h1
theorem kill_free {v:AV} (h:v.free=true) (t n:Nat):v.kill t n=v:=by
 cases v with
 | agg cs=>exact congrArg AV.agg (kill_map h t n)
 | _=>first | rfl | (simp [AV.free,AV.free0] at h; done)
theorem frz0_free {s:MSt} {v:AV} (h:v.free0=true):v.frz0 s=v:=by
 cases v <;> first | rfl | (simp [AV.free0] at h; done)
theorem frz_map {s:MSt} {cs:List AV} (h:cs.all AV.free0=true):cs.map (AV.frz0 s)=cs:=by
 have h1:cs.map (AV.frz0 s)=cs.map id:=yr fun x hx=>frz0_free (y5.1 h x hx)
 rwa [List.map_id] at h1
theorem frz_free {s:MSt} {v:AV} (h:v.free=true):v.frz s=v:=by
 cases v with
 | agg cs=>exact congrArg AV.agg (frz_map h)
 | _=>first | rfl | (simp [AV.free,AV.free0] at h; done)
section
variable {sz:Nat} {l:List (List AV)}
theorem rowOf_len (h:q1g sz l=true):(q0Z l).length=l.length * sz:=by
 induction l with
 | nil=>simp [q0Z]
 | cons c r ih =>
  rw [q5F] at h;simp only [y8,decide_eq_true_eq] at h;have:=ih h.2;simp only [q0Z,yl,List.map_append,yp,yt,yx] at this ⊢;rw [this,h.1,yh];omega
def freeEls (l:List (List AV)):Bool:=l.all fun c=>c.all AV.free0
theorem freeEls_map {α:Type} (f:α->List AV) (l:List α) (h:∀ x,(f x).all AV.free0=true):freeEls (l.map f)=true:=by
 simp only [freeEls,List.all_map,y5];exact fun x _=>h x
end
section
variable {call:q09} {lp:LH} {T:Nat->Option FnC} {ext:q09}
noncomputable def seqK (call:q09) (lp:LH) (b:C) (k:Ex->MSt->Option RV):Ex->MSt->Option RV:=fun e s=>match e with
 | .nrm=>b.run call lp s k
 | e=>k e s
def regK (k:Ex->MSt->Option RV):MSt->Option RV:=fun s=>k .nrm { s with next:=s.next + 1 }
noncomputable def opK (call:q09) (lp:LH) (r:List OpC) (k:MSt->Option RV):MSt->Option RV:=fun s=>q1q call lp r s k
def callK (d:Option Nat) (nt:Nat) (k:MSt->Option RV):Slot->MSt->Option RV:=fun y s'=>k ((s'.leave nt).put d y)
def blkK (id:Nat) (k:Ex->MSt->Option RV):Ex->MSt->Option RV:=fun e s=>match e with
 | .exit j=>if j=id then k .nrm s else k (.exit j) s
 | e=>k e s
def condC (v:AV) (a b:Option RV):Option RV:=match v with
 | .bool t=>if t then a else b
 | _=>none
def guardC (v:AV) (w:Bool) (a b:Option MSt):Option MSt:=match v with
 | .bool t=>if t=w then a else b
 | .tup []=>b
 | _=>none
def guardK (v:AV) (w:Bool) (a b:Option RV):Option RV:=match v with
 | .bool t=>if t=w then a else b
 | .tup []=>b
 | _=>none
def fnC (v:AV) (h:Nat->List AV->Option RV):Option RV:=match v with
 | .fn f cs=>h f cs
 | _=>none
variable (b c:C) (s:MSt) (k:Ex->MSt->Option RV) (j id:Nat)
theorem seqK_nrm:seqK call lp b k .nrm s=b.run call lp s k:=(rfl)
theorem seqK_exit:seqK call lp b k (.exit j) s=k (.exit j) s:=(rfl)
theorem seqK_ret:seqK call lp b k .ret s=k .ret s:=(rfl)
theorem regK_at:regK k s=k .nrm ⟨s.env,s.mem,s.next + 1,s.obj,s.gh⟩:=(rfl)
theorem opK_at (r:List OpC) (k:MSt->Option RV):opK call lp r k s=q1q call lp r s k:=(rfl)
theorem callK_at (d:Option Nat) (nt:Nat) (k:MSt->Option RV) (y:Slot):callK d nt k y s=k ((s.leave nt).put d y):=(rfl)
theorem blkK_nrm:blkK id k .nrm s=k .nrm s:=(rfl)
theorem blkK_exit:blkK id k (.exit j) s=if j=id then k .nrm s else k (.exit j) s:=(rfl)
theorem blkK_ret:blkK id k .ret s=k .ret s:=(rfl)
theorem condC_true (x y:Option RV):condC (.bool true) x y=x:=(rfl)
theorem condC_false (x y:Option RV):condC (.bool false) x y=y:=(rfl)
theorem guardC_bool (t w:Bool) (x y:Option MSt):guardC (.bool t) w x y=if t=w then x else y:=(rfl)
theorem guardC_tup (w:Bool) (x y:Option MSt):guardC (.tup []) w x y=y:=(rfl)
theorem guardK_bool (t w:Bool) (x y:Option RV):guardK (.bool t) w x y=if t=w then x else y:=(rfl)
theorem guardK_tup (w:Bool) (x y:Option RV):guardK (.tup []) w x y=y:=(rfl)
theorem fnC_fn (f:Nat) (cs:List AV) (h:Nat->List AV->Option RV):fnC (.fn f cs) h=h f cs:=(rfl)
theorem r_skip:C.run call lp .skip s k=k .nrm s:=(rfl)
theorem r_seq:C.run call lp (.seq b c) s k=b.run call lp s (seqK call lp c k):=(rfl)
theorem r_reg (ops:List OpC):C.run call lp (.reg ops) s k=q1q call lp ops s (regK k):=(rfl)
theorem r_cond (x:Opd):C.run call lp (.cond x b c) s k=condC (x.get s) (b.run call lp s k) (c.run call lp s k):=(rfl)
theorem r_block:C.run call lp (.block id b) s k=b.run call lp s (blkK id k):=(rfl)
theorem r_loop:C.run call (evK T ext) (.loop b) s k=evL T ext b s k:=(rfl)
theorem r_exit:C.run call lp (.exit id) s k=k (.exit id) s:=(rfl)
theorem r_ret:C.run call lp .ret s k=k .ret s:=(rfl)
theorem a_nrm:again lp b k .nrm s=lp b s k:=(rfl)
theorem a_exit:again lp b k (.exit j) s=k (.exit j) s:=(rfl)
theorem a_ret:again lp b k .ret s=k .ret s:=(rfl)
theorem o_nil (k:MSt->Option RV):q1q call lp [] s k=k s:=(rfl)
theorem o_cons (o:OpC) (r:List OpC) (k:MSt->Option RV):q1q call lp (o :: r) s k=o.stepK call lp s (opK call lp r k):=(rfl)
theorem s_plain (d:Option Nat) (op:K):OpC.step call ⟨d,op,none⟩ s=(op.run call s).bind (OpC.eff ⟨d,op,none⟩ s):=(rfl)
theorem s_guard (d:Option Nat) (op:K) (t:Nat) (w:Bool):OpC.step call ⟨d,op,some (t,w)⟩ s=guardC (s.env t).v w ((op.run call s).bind (OpC.eff ⟨d,op,none⟩ s)) (some (s.put d ⟨.tup [],.no⟩)):=by
 simp only [OpC.step,guardC];generalize (s.env t).v=v;cases v with
 | tup l=>cases l <;> rfl
 | _=>rfl
theorem k_callh (d:Option Nat) (nt:Nat) (x:Opd) (xs:List Opd) (g:Option (Nat × Bool)) (k:MSt->Option RV):OpC.stepK call lp ⟨d,.callh nt x xs,g⟩ s k=q2w s d g (hstep lp d nt x xs s k) k:=(rfl)
theorem hg_none (d:Option Nat) (a:Option RV) (k:MSt->Option RV):q2w s d none a k=a:=(rfl)
theorem hg_some (d:Option Nat) (t:Nat) (w:Bool) (a:Option RV) (k:MSt->Option RV):q2w s d (some (t,w)) a k=guardK (s.env t).v w a (k (s.put d ⟨.tup [],.no⟩)):=by
 simp only [q2w,guardK];generalize (s.env t).v=v;cases v with
 | tup l=>cases l <;> rfl
 | _=>rfl
theorem h_step (d:Option Nat) (nt:Nat) (x:Opd) (xs:List Opd) (k:MSt->Option RV):hstep (evK T ext) d nt x xs s k=fnC (x.get s) fun f cs=>evH T ext f (q6R s xs++cs.map (⟨·,.no⟩)) (s.enter nt) (callK d nt k):=by
 simp only [hstep,fnC];generalize x.get s=v;cases v <;> rfl
theorem k_mv (d:Option Nat) {x0} (g:Option (Nat × Bool)) (k:MSt->Option RV):OpC.stepK call lp ⟨d,.mv x0,g⟩ s k=(OpC.step call ⟨d,.mv x0,g⟩ s).bind k:=(rfl)
theorem k_pick (d:Option Nat) {x0} {x1} {x2} (g:Option (Nat × Bool)) (k:MSt->Option RV):OpC.stepK call lp ⟨d,.pick x0 x1 x2,g⟩ s k=(OpC.step call ⟨d,.pick x0 x1 x2,g⟩ s).bind k:=(rfl)
theorem k_alloc (d:Option Nat) {x0} (g:Option (Nat × Bool)) (k:MSt->Option RV):OpC.stepK call lp ⟨d,.alloc x0,g⟩ s k=(OpC.step call ⟨d,.alloc x0,g⟩ s).bind k:=(rfl)
theorem k_box (d:Option Nat) {x0} {x1} (g:Option (Nat × Bool)) (k:MSt->Option RV):OpC.stepK call lp ⟨d,.box x0 x1,g⟩ s k=(OpC.step call ⟨d,.box x0 x1,g⟩ s).bind k:=(rfl)
theorem k_build (d:Option Nat) {x0} {x1} (g:Option (Nat × Bool)) (k:MSt->Option RV):OpC.stepK call lp ⟨d,.build x0 x1,g⟩ s k=(OpC.step call ⟨d,.build x0 x1,g⟩ s).bind k:=(rfl)
theorem k_bsl (d:Option Nat) {x0} {x1} {x2} (g:Option (Nat × Bool)) (k:MSt->Option RV):OpC.stepK call lp ⟨d,.bsl x0 x1 x2,g⟩ s k=(OpC.step call ⟨d,.bsl x0 x1 x2,g⟩ s).bind k:=(rfl)
theorem k_bslr (d:Option Nat) {x0} {x1} {x2} {x3} (g:Option (Nat × Bool)) (k:MSt->Option RV):OpC.stepK call lp ⟨d,.bslr x0 x1 x2 x3,g⟩ s k=(OpC.step call ⟨d,.bslr x0 x1 x2 x3,g⟩ s).bind k:=(rfl)
theorem k_load (d:Option Nat) {x0} {x1} {x2} {x3} (g:Option (Nat × Bool)) (k:MSt->Option RV):OpC.stepK call lp ⟨d,.load x0 x1 x2 x3,g⟩ s k=(OpC.step call ⟨d,.load x0 x1 x2 x3,g⟩ s).bind k:=(rfl)
theorem k_store (d:Option Nat) {x0} {x1} {x2} {x3} {x4} (g:Option (Nat × Bool)) (k:MSt->Option RV):OpC.stepK call lp ⟨d,.store x0 x1 x2 x3 x4,g⟩ s k=(OpC.step call ⟨d,.store x0 x1 x2 x3 x4,g⟩ s).bind k:=(rfl)
theorem k_bin (d:Option Nat) {x0} {x1} {x2} {x3} (g:Option (Nat × Bool)) (k:MSt->Option RV):OpC.stepK call lp ⟨d,.bin x0 x1 x2 x3,g⟩ s k=(OpC.step call ⟨d,.bin x0 x1 x2 x3,g⟩ s).bind k:=(rfl)
theorem k_mm (d:Option Nat) {x0} {x1} {x2} (g:Option (Nat × Bool)) (k:MSt->Option RV):OpC.stepK call lp ⟨d,.mm x0 x1 x2,g⟩ s k=(OpC.step call ⟨d,.mm x0 x1 x2,g⟩ s).bind k:=(rfl)
theorem k_eqa (d:Option Nat) {x0} {x1} {x2} {x3} (g:Option (Nat × Bool)) (k:MSt->Option RV):OpC.stepK call lp ⟨d,.eqa x0 x1 x2 x3,g⟩ s k=(OpC.step call ⟨d,.eqa x0 x1 x2 x3,g⟩ s).bind k:=(rfl)
theorem k_eqn (d:Option Nat) {x0} {x1} {x2} {x3} (g:Option (Nat × Bool)) (k:MSt->Option RV):OpC.stepK call lp ⟨d,.eqn x0 x1 x2 x3,g⟩ s k=(OpC.step call ⟨d,.eqn x0 x1 x2 x3,g⟩ s).bind k:=(rfl)
theorem k_un (d:Option Nat) {x0} {x1} (g:Option (Nat × Bool)) (k:MSt->Option RV):OpC.stepK call lp ⟨d,.un x0 x1,g⟩ s k=(OpC.step call ⟨d,.un x0 x1,g⟩ s).bind k:=(rfl)
theorem k_conv (d:Option Nat) {x0} {x1} (g:Option (Nat × Bool)) (k:MSt->Option RV):OpC.stepK call lp ⟨d,.conv x0 x1,g⟩ s k=(OpC.step call ⟨d,.conv x0 x1,g⟩ s).bind k:=(rfl)
theorem k_rstr (d:Option Nat) {x0} (g:Option (Nat × Bool)) (k:MSt->Option RV):OpC.stepK call lp ⟨d,.rstr x0,g⟩ s k=(OpC.step call ⟨d,.rstr x0,g⟩ s).bind k:=(rfl)
theorem k_bstr (d:Option Nat) {x0} {x1} (g:Option (Nat × Bool)) (k:MSt->Option RV):OpC.stepK call lp ⟨d,.bstr x0 x1,g⟩ s k=(OpC.step call ⟨d,.bstr x0 x1,g⟩ s).bind k:=(rfl)
theorem k_mks (d:Option Nat) {x0} {x1} {x2} {x3} {x4} (g:Option (Nat × Bool)) (k:MSt->Option RV):OpC.stepK call lp ⟨d,.mks x0 x1 x2 x3 x4,g⟩ s k=(OpC.step call ⟨d,.mks x0 x1 x2 x3 x4,g⟩ s).bind k:=(rfl)
theorem k_slc (d:Option Nat) {x0} {x1} {x2} {x3} {x4} {x5} (g:Option (Nat × Bool)) (k:MSt->Option RV):OpC.stepK call lp ⟨d,.slc x0 x1 x2 x3 x4 x5,g⟩ s k=(OpC.step call ⟨d,.slc x0 x1 x2 x3 x4 x5,g⟩ s).bind k:=(rfl)
theorem k_aslc (d:Option Nat) {x0} {x1} {x2} {x3} {x4} {x5} (g:Option (Nat × Bool)) (k:MSt->Option RV):OpC.stepK call lp ⟨d,.aslc x0 x1 x2 x3 x4 x5,g⟩ s k=(OpC.step call ⟨d,.aslc x0 x1 x2 x3 x4 x5,g⟩ s).bind k:=(rfl)
theorem k_faddr (d:Option Nat) {x0} {x1} (g:Option (Nat × Bool)) (k:MSt->Option RV):OpC.stepK call lp ⟨d,.faddr x0 x1,g⟩ s k=(OpC.step call ⟨d,.faddr x0 x1,g⟩ s).bind k:=(rfl)
theorem k_field (d:Option Nat) {x0} {x1} {x2} {x3} (g:Option (Nat × Bool)) (k:MSt->Option RV):OpC.stepK call lp ⟨d,.field x0 x1 x2 x3,g⟩ s k=(OpC.step call ⟨d,.field x0 x1 x2 x3,g⟩ s).bind k:=(rfl)
theorem k_iaddr (d:Option Nat) {x0} {x1} {x2} (g:Option (Nat × Bool)) (k:MSt->Option RV):OpC.stepK call lp ⟨d,.iaddr x0 x1 x2,g⟩ s k=(OpC.step call ⟨d,.iaddr x0 x1 x2,g⟩ s).bind k:=(rfl)
theorem k_aaddr (d:Option Nat) {x0} {x1} {x2} {x3} (g:Option (Nat × Bool)) (k:MSt->Option RV):OpC.stepK call lp ⟨d,.aaddr x0 x1 x2 x3,g⟩ s k=(OpC.step call ⟨d,.aaddr x0 x1 x2 x3,g⟩ s).bind k:=(rfl)
theorem k_index (d:Option Nat) {x0} {x1} (g:Option (Nat × Bool)) (k:MSt->Option RV):OpC.stepK call lp ⟨d,.index x0 x1,g⟩ s k=(OpC.step call ⟨d,.index x0 x1,g⟩ s).bind k:=(rfl)
theorem k_ext (d:Option Nat) {x0} {x1} (g:Option (Nat × Bool)) (k:MSt->Option RV):OpC.stepK call lp ⟨d,.ext x0 x1,g⟩ s k=(OpC.step call ⟨d,.ext x0 x1,g⟩ s).bind k:=(rfl)
theorem k_call (d:Option Nat) {x0} {x1} {x2} (g:Option (Nat × Bool)) (k:MSt->Option RV):OpC.stepK call lp ⟨d,.call x0 x1 x2,g⟩ s k=(OpC.step call ⟨d,.call x0 x1 x2,g⟩ s).bind k:=(rfl)
theorem k_callf (d:Option Nat) {x0} {x1} {x2} {x3} (g:Option (Nat × Bool)) (k:MSt->Option RV):OpC.stepK call lp ⟨d,.callf x0 x1 x2 x3,g⟩ s k=(OpC.step call ⟨d,.callf x0 x1 x2 x3,g⟩ s).bind k:=(rfl)
theorem k_mkf (d:Option Nat) {x0} {x1} (g:Option (Nat × Bool)) (k:MSt->Option RV):OpC.stepK call lp ⟨d,.mkf x0 x1,g⟩ s k=(OpC.step call ⟨d,.mkf x0 x1,g⟩ s).bind k:=(rfl)
theorem k_callv (d:Option Nat) {x0} {x1} {x2} (g:Option (Nat × Bool)) (k:MSt->Option RV):OpC.stepK call lp ⟨d,.callv x0 x1 x2,g⟩ s k=(OpC.step call ⟨d,.callv x0 x1 x2,g⟩ s).bind k:=(rfl)
theorem k_callr (d:Option Nat) {x0} {x1} {x2} (g:Option (Nat × Bool)) (k:MSt->Option RV):OpC.stepK call lp ⟨d,.callr x0 x1 x2,g⟩ s k=(OpC.step call ⟨d,.callr x0 x1 x2,g⟩ s).bind k:=(rfl)
theorem k_len (d:Option Nat) {x0} {x1} (g:Option (Nat × Bool)) (k:MSt->Option RV):OpC.stepK call lp ⟨d,.len x0 x1,g⟩ s k=(OpC.step call ⟨d,.len x0 x1,g⟩ s).bind k:=(rfl)
theorem k_app (d:Option Nat) {x0} {x1} {x2} {x3} {x4} {x5} (g:Option (Nat × Bool)) (k:MSt->Option RV):OpC.stepK call lp ⟨d,.app x0 x1 x2 x3 x4 x5,g⟩ s k=(OpC.step call ⟨d,.app x0 x1 x2 x3 x4 x5,g⟩ s).bind k:=(rfl)
theorem k_appf (d:Option Nat) {x0} {x1} {x2} {x3} {x4} {x5} (g:Option (Nat × Bool)) (k:MSt->Option RV):OpC.stepK call lp ⟨d,.appf x0 x1 x2 x3 x4 x5,g⟩ s k=(OpC.step call ⟨d,.appf x0 x1 x2 x3 x4 x5,g⟩ s).bind k:=(rfl)
theorem k_appm (d:Option Nat) {x0} {x1} {x2} {x3} {x4} {x5} (g:Option (Nat × Bool)) (k:MSt->Option RV):OpC.stepK call lp ⟨d,.appm x0 x1 x2 x3 x4 x5,g⟩ s k=(OpC.step call ⟨d,.appm x0 x1 x2 x3 x4 x5,g⟩ s).bind k:=(rfl)
theorem k_appn (d:Option Nat) {x0} {x1} {x2} {x3} {x4} {x5} (g:Option (Nat × Bool)) (k:MSt->Option RV):OpC.stepK call lp ⟨d,.appn x0 x1 x2 x3 x4 x5,g⟩ s k=(OpC.step call ⟨d,.appn x0 x1 x2 x3 x4 x5,g⟩ s).bind k:=(rfl)
theorem k_mkm (d:Option Nat) (g:Option (Nat × Bool)) (k:MSt->Option RV):OpC.stepK call lp ⟨d,.mkm,g⟩ s k=(OpC.step call ⟨d,.mkm,g⟩ s).bind k:=(rfl)
theorem k_bad (d:Option Nat) (g:Option (Nat × Bool)) (k:MSt->Option RV):OpC.stepK call lp ⟨d,.bad,g⟩ s k=(OpC.step call ⟨d,.bad,g⟩ s).bind k:=(rfl)
theorem k_mkb (d:Option Nat) {T e:TypeId} (g:Option (Nat × Bool)) (k:MSt->Option RV):OpC.stepK call lp ⟨d,.mkb T e,g⟩ s k=(OpC.step call ⟨d,.mkb T e,g⟩ s).bind k:=(rfl)
theorem k_mget (d:Option Nat) {x0} {x1} {x2} {x3} {x4} (g:Option (Nat × Bool)) (k:MSt->Option RV):OpC.stepK call lp ⟨d,.mget x0 x1 x2 x3 x4,g⟩ s k=(OpC.step call ⟨d,.mget x0 x1 x2 x3 x4,g⟩ s).bind k:=(rfl)
theorem k_mset (d:Option Nat) {x0} {x1} {x2} {x3} (g:Option (Nat × Bool)) (k:MSt->Option RV):OpC.stepK call lp ⟨d,.mset x0 x1 x2 x3,g⟩ s k=(OpC.step call ⟨d,.mset x0 x1 x2 x3,g⟩ s).bind k:=(rfl)
theorem k_mlen (d:Option Nat) {x0} (g:Option (Nat × Bool)) (k:MSt->Option RV):OpC.stepK call lp ⟨d,.mlen x0,g⟩ s k=(OpC.step call ⟨d,.mlen x0,g⟩ s).bind k:=(rfl)
theorem k_rng (d:Option Nat) {x0} (g:Option (Nat × Bool)) (k:MSt->Option RV):OpC.stepK call lp ⟨d,.rng x0,g⟩ s k=(OpC.step call ⟨d,.rng x0,g⟩ s).bind k:=(rfl)
theorem k_slz (d:Option Nat) {x0} (g:Option (Nat × Bool)) (k:MSt->Option RV):OpC.stepK call lp ⟨d,.slz x0,g⟩ s k=(OpC.step call ⟨d,.slz x0,g⟩ s).bind k:=(rfl)
theorem k_ent (d:Option Nat) {x0} (g:Option (Nat × Bool)) (k:MSt->Option RV):OpC.stepK call lp ⟨d,.ent x0,g⟩ s k=(OpC.step call ⟨d,.ent x0,g⟩ s).bind k:=(rfl)
theorem k_nxt (d:Option Nat) {x0} (g:Option (Nat × Bool)) (k:MSt->Option RV):OpC.stepK call lp ⟨d,.nxt x0,g⟩ s k=q2w s d g (nstep d x0 s k) k:=(rfl)
theorem k_nilchk (d:Option Nat) {x0} (g:Option (Nat × Bool)) (k:MSt->Option RV):OpC.stepK call lp ⟨d,.nilchk x0,g⟩ s k=(OpC.step call ⟨d,.nilchk x0,g⟩ s).bind k:=(rfl)
theorem e_none (d:Option Nat) (op:K) (g:Option (Nat × Bool)) (x:Slot):OpC.eff ⟨d,op,g⟩ s (x,.none)=some (s.put d x):=(rfl)
theorem e_set (d:Option Nat) (op:K) (g:Option (Nat × Bool)) (x:Slot) (t n:Nat) (r:List Slot):OpC.eff ⟨d,op,g⟩ s (x,.set t n r)=some ((s.setRow t n r).put d x):=(rfl)
theorem e_newp (d:Nat) (op:K) (g:Option (Nat × Bool)) (t n o:Nat) (a:An) (r:List Slot):OpC.eff ⟨some d,op,g⟩ s (⟨.ptr t n o,a⟩,.new r)=some ((s.setRow d s.next r).put (some d) ⟨.ptr d s.next 0,.no⟩):=(rfl)
theorem e_newr (d:Nat) (op:K) (g:Option (Nat × Bool)) (t n z o l p:Nat) (a:An) (r:List Slot):OpC.eff ⟨some d,op,g⟩ s (⟨.ref t n z o l p,a⟩,.new r)=some ((s.setRow d s.next r).put (some d) ⟨.ref d s.next z o l p,.no⟩):=(rfl)
theorem e_app (d:Nat) (op:K) (g:Option (Nat × Bool)) (v:AV) (a:An) (kk j:Nat) (e:TypeId):OpC.eff ⟨some d,op,g⟩ s (⟨v,.own kk e⟩,.app a j)=some (((s.stripA a).strip d).put (some d) ⟨v,.own d e⟩):=(rfl)
theorem e_obj (d:Option Nat) (op:K) (g:Option (Nat × Bool)) (x:Slot) (t n:Nat) (S:AV):OpC.eff ⟨d,op,g⟩ s (x,.obj t n S)=some ((s.setObj t n S).put d x):=(rfl)
theorem e_mk (d:Nat) (op:K) (g:Option (Nat × Bool)) (x:Slot) (S:AV):OpC.eff ⟨some d,op,g⟩ s (x,.mk S)=some ((s.setObj d s.next S).put (some d) ⟨x.v.named d s.next,.no⟩):=(rfl)
theorem e_rn (d:Nat) (op:K) (g:Option (Nat × Bool)) (t n z o l p:Nat) (a:An) (q:Option (Nat × Nat)) (r:List Slot):OpC.eff ⟨some d,op,g⟩ s (⟨.ref t n z o l p,a⟩,.rn q r)=some (((s.killO q).setRow d s.next r).put (some d) ⟨.ref d s.next z o l p,.no⟩):=(rfl)
theorem e_ob2 (d:Nat) (op:K) (g:Option (Nat × Bool)) (t n z o l p:Nat) (a:An) (t' n':Nat) (S:AV) (r:List Slot):OpC.eff ⟨some d,op,g⟩ s (⟨.ref t n z o l p,a⟩,.ob2 t' n' S r)=some (((s.setObj t' n' S).setRow d s.next r).put (some d) ⟨.ref d s.next z o l p,.no⟩):=(rfl)
theorem run_cg {b:C} {s s':MSt} {k:Ex->MSt->Option RV} (h:s=s'):C.run call lp b s k=C.run call lp b s' k:=by rw [h]
theorem ops_cg {l:List OpC} {s s':MSt} {k:MSt->Option RV} (h:s=s'):q1q call lp l s k=q1q call lp l s' k:=by rw [h]
theorem stepK_cg {o:OpC} {s s':MSt} {k:MSt->Option RV} (h:s=s'):OpC.stepK call lp o s k=OpC.stepK call lp o s' k:=by rw [h]
theorem bind_cg {α β:Type} {a a':Option α} {f:α->Option β} (h:a=a'):a.bind f=a'.bind f:=by rw [h]
theorem condC_cg {v v':AV} {a b:Option RV} (h:v=v'):condC v a b=condC v' a b:=by rw [h]
theorem guardC_cg {v v':AV} {w:Bool} {a b:Option MSt} (h:v=v'):guardC v w a b=guardC v' w a b:=by rw [h]
theorem guardK_cg {v v':AV} {w:Bool} {a b:Option RV} (h:v=v'):guardK v w a b=guardK v' w a b:=by rw [h]
theorem fnC_cg {v v':AV} {g:Nat->List AV->Option RV} (h:v=v'):fnC v g=fnC v' g:=by rw [h]
theorem evL_cg {T:Nat->Option FnC} {ext:q09} {b:C} {s s':MSt} {k:Ex->MSt->Option RV} (h:s=s'):evL T ext b s k=evL T ext b s' k:=by rw [h]
theorem evH_cg {T:Nat->Option FnC} {ext:q09} {f:Nat} {xs xs':List Slot} {s s':MSt} {k:Slot->MSt->Option RV} (hx:xs=xs') (h:s=s'):evH T ext f xs s k=evH T ext f xs' s' k:=by rw [h,hx]
end
attribute [congr] run_cg ops_cg stepK_cg bind_cg condC_cg guardC_cg guardK_cg fnC_cg evL_cg evH_cg
attribute [simp] k_rng k_slz k_ent k_nxt k_bad k_mkb k_mv k_pick k_alloc k_box k_build k_bsl k_bslr k_load k_store k_bin k_mm k_eqa k_eqn k_un k_conv k_rstr k_bstr k_mks k_slc k_aslc k_faddr k_field k_iaddr k_aaddr k_index k_ext k_call k_callf k_mkf k_callv k_callr k_callh k_len k_app k_appf k_appm k_appn k_mkm k_mget k_mset k_mlen k_nilchk guardK_bool guardK_tup fnC_fn hg_none hg_some h_step opK_at callK_at undE_at rowE_at drop0M_at slotE_at waitE_at backE_at restE_at m_initH m_enter m_leave m_initR m_drop0
attribute [simp] putE_at setM_at setO_at stripE_at stripM_at Slot.strip_v Slot.strip_a Slot.strip_mk argE_at noM_at objE_at killE_at q6W Slot.kill_v Slot.kill_a Slot.kill_mk
attribute [simp] e_ob2 frz_free frz_map AV.frz AV.frz0 kill_free kill_map AV.kill AV.kill0 m_kill m_kill0 e_rn m_init m_put m_put0 m_row m_obj m_strip m_stripA m_stripX An.strip e_none e_set e_newp e_newr e_app e_obj e_mk K.run Opd.get q3c AV.leaf AV.whole AV.cells binC mmC eqC natOf q41 q1N Cl.okPtr Cl.okMem fillC fin finV objAt q2A resC AV.free AV.free0 AV.back AV.backN AV.isObj AV.named pack q0F lendF q1F lendP AV.capOk lend q2z endC AV.elems Opd.an q1K elsOk_nil q5F elsOk_append elsOk_map elsOk_take elsOk_drop take_map_len
attribute [simp ↓] bind_some2 seqK_nrm seqK_exit seqK_ret regK_at blkK_nrm blkK_exit blkK_ret condC_true condC_false guardC_bool guardC_tup r_skip r_seq r_reg r_cond r_block r_loop r_exit r_ret a_nrm a_exit a_ret o_nil o_cons s_plain s_guard
end
def q00:q09:=fun f args S =>
 if f=275 then (match args,S with
  | [.ptr 0 0 0,.str s],some (.tup [.undef,.undef,.int .i64 287,.int .i64 5,.str a])=>if a.size + s.size<=140737488355328 then some (.tup [.int .i64 s.size,.undef],some (bldAV 287 5 (a++s))) else none
  | _,_=>none)
 else if f=276 then (match args,S with
  | [.ptr 0 0 0],some (.tup [.undef,.undef,.int .i64 287,.int .i64 5,.str a])=>some (.str a,some (bldAV 287 5 a))
  | _,_=>none)
 else none
theorem bldExt_ok {O:Objs} (f:FuncId) (args:List AV) (S:Option AV) (r:RV) (h:q00 f args S=some r):q0n Tryz.prog O f args S r:=by
 unfold q00 at h;split at h
 ·rename_i e;subst e;split at h
  ·rename_i s a;split at h
   ·rename_i hl;injection h with h;subst h;exact bld_write a s hl
   ·cases h
  ·cases h
 ·split at h
  ·rename_i e;subst e;split at h
   ·rename_i a;injection h with h;subst h;exact bld_string a
   ·cases h
  ·cases h
structure Raw where
 id:Int
 data:ByteArray
 deriving DecidableEq
inductive Vl where
 | mk (kind:Int) (b:Bool) (i:Int) (s:ByteArray) (id:Int) (kn:Bool) (keys:List Vl) (xn:Bool) (items:List Vl) (rn:Bool) (rest:List Raw)
namespace Vl
def kind:Vl->Int | .mk k _ _ _ _ _ _ _ _ _ _=>k
def b:Vl->Bool | .mk _ b _ _ _ _ _ _ _ _ _=>b
def i:Vl->Int | .mk _ _ i _ _ _ _ _ _ _ _=>i
def s:Vl->ByteArray | .mk _ _ _ s _ _ _ _ _ _ _=>s
def id:Vl->Int | .mk _ _ _ _ d _ _ _ _ _ _=>d
def kn:Vl->Bool | .mk _ _ _ _ _ k _ _ _ _ _=>k
def keys:Vl->List Vl | .mk _ _ _ _ _ _ l _ _ _ _=>l
def xn:Vl->Bool | .mk _ _ _ _ _ _ _ x _ _ _=>x
def items:Vl->List Vl | .mk _ _ _ _ _ _ _ _ l _ _=>l
def rn:Vl->Bool | .mk _ _ _ _ _ _ _ _ _ r _=>r
def rest:Vl->List Raw | .mk _ _ _ _ _ _ _ _ _ _ l=>l
end Vl
def rawC (r:Raw):List AV:=[.int .i64 r.id,.str r.data]
mutual
def valC:Vl->List AV
 | .mk k b i s d kn ks xn xs rn rs=>[.int .i64 k,.bool b,.int .i64 i,.str s,.int .i64 d,.sl kn (valsC ks),.sl xn (valsC xs),.sl rn (rs.map rawC)]
def valsC:List Vl->List (List AV)
 | []=>[]
 | v :: r=>valC v :: valsC r
end
mutual
/-- lengths that occur -/
def Vl.ok:Vl->Prop
 | .mk _ _ _ s _ _ ks _ xs _ rs=>ks.length<=9223372036854775807/\xs.length<=9223372036854775807/\rs.length<=9223372036854775807/\s.size<=9223372036854775807/\Vl.oks ks/\Vl.oks xs
def Vl.oks:List Vl->Prop
 | []=>True
 | v :: r=>Vl.ok v/\Vl.oks r
end
def Vl.zero:Vl:=.mk 0 false 0 ⟨#[]⟩ 0 true [] true [] true []
structure Sym where
 id:Int
 name:ByteArray
 deriving DecidableEq
def symC (x:Sym):List AV:=[.int .i64 x.id,.str x.name]
structure Mem where
 id:Int
 name:ByteArray
 ty:Int
 crit:Bool
 has:Bool
 dflt:Vl
def memC (m:Mem):List AV:=[.int .i64 m.id,.str m.name,.int .i64 m.ty,.bool m.crit,.bool m.has,.int .i64 m.dflt.kind,.bool m.dflt.b,.int .i64 m.dflt.i,.str m.dflt.s,.int .i64 m.dflt.id,.sl m.dflt.kn (m.dflt.keys.map valC),.sl m.dflt.xn (m.dflt.items.map valC),.sl m.dflt.rn (m.dflt.rest.map rawC)]
structure Typ where
 kind:Int
 name:ByteArray
 low:Int
 high:Int
 max:Int
 sn:Bool
 syms:List Sym
 mn:Bool
 mems:List Mem
 key:Int
 elem:Int
 opn:Bool
structure Sch where
 nl:Bool
 types:List Typ
def Mem.ok (m:Mem):Prop:=m.dflt.ok/\m.name.size<=9223372036854775807
def Typ.ok (t:Typ):Prop:=t.syms.length<=9223372036854775807/\t.mems.length<=9223372036854775807/\∀ m∈t.mems,m.ok
def Sch.ok (s:Sch):Prop:=s.types.length<=9223372036854775807/\∀ t∈s.types,t.ok
theorem wrap1 {i:Nat} (h:i<9223372036854775807):IntKind.i64.wrap ((i:Int) + 1)=((i + 1:Nat):Int):=by
 rw [IntWalk.i64_in _ (by omega)]; rfl
theorem els_mem (l:List Mem):q1g 13 (l.map memC)=true:=elsOk_map _ _ _ fun _=>rfl
theorem q2b {f:Nat} {c:FnC} {args:List AV} {r:RV} (hT:allT f=some c) (hl:args.length=c.np) (h:c.code.run (evC allT q00) (evK allT q00) (MSt.init args none) (fin c none)=some r) (hm:q3s args=false:=by rfl):evC allT q00 f args none=some r:=evC_intro c hT hl h hm
abbrev evA (f:Nat) (args:List AV) (v:AV):Prop:=evC allT q00 f args none=some (v,none)
def isLet (x:Int):Bool:=decide (x=95)||(decide (97<=x)&&decide (x<=122))||(decide (65<=x)&&decide (x<=90))
def isDig (x:Int):Bool:=decide (48<=x)&&decide (x<=57)
def nameFrom (s:ByteArray):Nat->Nat->Bool
 | 0,_=>true
 | n + 1,i=>(match s[i]? with | some u=>isLet u.toNat||isDig u.toNat | none=>false)&&nameFrom s n (i + 1)
def isName (s:ByteArray):Bool:=decide (s.size≠0)&&decide (s.size<=24)&&(match s[0]? with | some u=>isLet u.toNat | none=>false)&&nameFrom s s.size 0
mutual
def Vl.same:Vl->Vl->Bool
 | .mk k b i s d _ ks _ xs _ rs,.mk k' b' i' s' d' _ ks' _ xs' _ rs'=>decide (k=k')&&(b == b')&&decide (i=i')&&decide (s=s')&&decide (d=d')&&decide (rs=rs')&&Vl.sames ks ks'&&Vl.sames xs xs'
def Vl.sames:List Vl->List Vl->Bool
 | [],[]=>true
 | v :: r,v' :: r'=>Vl.same v v'&&Vl.sames r r'
 | [],_ :: _=>false
 | _ :: _,[]=>false
end

def Mem.same (m m':Mem):Bool:=decide (m.id=m'.id)&&decide (m.name=m'.name)&&decide (m.ty=m'.ty)&&(m.crit == m'.crit)&&(m.has == m'.has)&&m.dflt.same m'.dflt
def memsSame:List Mem->List Mem->Bool
 | [],[]=>true
 | m :: r,m' :: r'=>m.same m'&&memsSame r r'
 | [],_ :: _=>false
 | _ :: _,[]=>false
def Typ.same (t u:Typ):Bool:=decide (t.kind=u.kind)&&decide (t.name=u.name)&&decide (t.low=u.low)&&decide (t.high=u.high)&&decide (t.max=u.max)&&decide (t.key=u.key)&&decide (t.elem=u.elem)&&(t.opn == u.opn)&&decide (t.syms=u.syms)&&memsSame t.mems u.mems
abbrev typRow (t:Typ):List Slot:=[⟨.int .i64 t.kind,.no⟩,⟨.str t.name,.no⟩,⟨.int .i64 t.low,.no⟩,⟨.int .i64 t.high,.no⟩,⟨.int .i64 t.max,.no⟩,⟨.sl t.sn (t.syms.map symC),.no⟩,⟨.sl t.mn (t.mems.map memC),.no⟩,⟨.int .i64 t.key,.no⟩,⟨.int .i64 t.elem,.no⟩,⟨.bool t.opn,.no⟩]
theorem anN_t (a:An):anN true a=.ex:=rfl
theorem anN_f (a:An):anN false a=a:=rfl
theorem anN_ex (b:Bool):anN b .ex=.ex:=by cases b <;> rfl
attribute [simp] anN_t anN_f anN_ex
theorem q33 {b:C} {r:RV} (n:Nat) (I:Nat->MSt->Prop) (E:Ex->MSt->Prop)
  (step:∀ i,i<=n->∀ s k,I i s->(i<n->∀ s',I (i + 1) s'->evL allT q00 b s' k=some r)->(∀ e s',E e s'->k e s'=some r)->evL allT q00 b s k=some r)
  (s:MSt) (k:Ex->MSt->Option RV) (h:I 0 s) (hk:∀ e s',E e s'->k e s'=some r):evL allT q00 b s k=some r:=by
 have:∀ m i,i + m=n->∀ s,I i s->evL allT q00 b s k=some r:=by
  intro m
  induction m with
  | zero=>intro i hi s h; exact step i (by omega) s k h (fun hlt=>absurd hlt (by omega)) hk
  | succ m ih=>intro i hi s h; exact step i (by omega) s k h (fun _ s' h'=>ih (i + 1) (by omega) s' h') hk
 exact this n 0 (by omega) s h
instance memStr (s:ByteArray) (l:List ByteArray):Decidable (s∈l):=@List.instDecidableMemOfLawfulBEq _ instBEqOfDecidableEq _ s l
def hasStr (s:ByteArray) (l:List ByteArray):Bool:=decide (s∈l)
def idOk (b n:Int):Bool:=decide (b<n)&&decide (1<=n)&&decide (n<=1000)
def entsOk:Int->List ByteArray->List (Int × ByteArray)->Bool
 | _,_,[]=>true
 | b,seen,(n,s) :: r=>idOk b n&&!hasStr s seen&&isName s&&entsOk n (seen++[s]) r
def symE (x:Sym):Int × ByteArray:=(x.id,x.name)
def memE (x:Mem):Int × ByteArray:=(x.id,x.name)
def symsOk (l:List Sym):Bool:=decide (0<l.length)&&(entsOk 0 [] (l.map symE)&&decide (l.length<=16))
def memGood (rec:Bool) (m:Mem):Bool:=!(!rec&&(m.crit||m.has))&&!(m.crit&&m.has)&&(m.has||m.dflt.same Vl.zero)
def memsOk (rec:Bool) (l:List Mem):Bool:=l.all (memGood rec)&&((rec||decide (0<l.length))&&(entsOk 0 [] (l.map memE)&&decide (l.length<=16)))
def zeroT:Typ:=⟨0,⟨#[]⟩,0,0,0,true,[],true,[],0,0,false⟩
def Typ.left (t:Typ):Typ :=
 if t.kind=1 then { t with kind:=0 }
 else if t.kind=2 then { t with kind:=0,low:=0,high:=0 }
 else if t.kind=3 then { t with kind:=0,max:=0 }
 else if t.kind=4 then { t with kind:=0,name:=⟨#[]⟩,sn:=true,syms:=[],opn:=false }
 else if t.kind=5 then { t with kind:=0,name:=⟨#[]⟩,mn:=true,mems:=[] }
 else if t.kind=6 then { t with kind:=0,name:=⟨#[]⟩,mn:=true,mems:=[],opn:=false }
 else if t.kind=7 then { t with kind:=0,max:=0,elem:=0 }
 else if t.kind=8 then { t with kind:=0,max:=0,elem:=0,key:=0 }
 else { t with kind:=0,elem:=0 }
def typOk (t:Typ):Bool :=
 if t.kind=2 then decide (t.low<=t.high)
 else if t.kind=3 then decide (0<=t.max)&&decide (t.max<=200)
 else if t.kind=4 then isName t.name&&symsOk t.syms
 else if t.kind=5 then isName t.name&&memsOk true t.mems
 else if t.kind=6 then isName t.name&&memsOk false t.mems
 else if t.kind=7\/t.kind=8 then decide (0<=t.max)&&decide (t.max<=50)
 else true
def typGood (t:Typ):Bool:=decide (1<=t.kind/\t.kind<=9)&&(typOk t&&t.left.same zeroT)
def Typ.fine (t:Typ):Prop:=t.ok/\t.syms.length<=8796093022206/\t.mems.length<=8796093022206
theorem kinds (k:Int):k=1\/k=2\/k=3\/k=4\/k=5\/k=6\/k=7\/k=8\/k=9\/¬ (1<=k/\k<=9):=by omega
def Typ.plain (t:Typ):Typ :=
 if t.kind=1 then { zeroT with kind:=t.kind }
 else if t.kind=2 then { zeroT with kind:=t.kind,low:=t.low,high:=t.high }
 else if t.kind=3 then { zeroT with kind:=t.kind,max:=t.max }
 else if t.kind=4 then { zeroT with kind:=t.kind,name:=t.name,sn:=t.sn,syms:=t.syms,opn:=t.opn }
 else if t.kind=5 then { zeroT with kind:=t.kind,name:=t.name,mn:=t.mn,mems:=t.mems }
 else if t.kind=6 then { zeroT with kind:=t.kind,name:=t.name,mn:=t.mn,mems:=t.mems,opn:=t.opn }
 else if t.kind=7 then { zeroT with kind:=t.kind,max:=t.max,elem:=t.elem }
 else if t.kind=8 then { zeroT with kind:=t.kind,max:=t.max,elem:=t.elem,key:=t.key }
 else { zeroT with kind:=t.kind,elem:=t.elem }
def Typ.named (t:Typ):Bool:=decide (t.kind=4)||decide (t.kind=5)||decide (t.kind=6)
structure Prt where
 id:Int
 ty:Int
 flag:Int
structure Nde where
 k:Int
 a:Int
 b:Int
 c:Int
 pn:Bool
 parts:List Prt
def prtC (x:Prt):List AV:=[.int .u8 x.id,.int .u8 x.ty,.int .u8 x.flag]
def ndeC (x:Nde):List AV:=[.int .u8 x.k,.int .u8 x.a,.int .u8 x.b,.int .u8 x.c,.sl x.pn (x.parts.map prtC)]
def u8 (n:Int):Prop:=0<=n/\n<=255
def Prt.ok (x:Prt):Prop:=u8 x.id/\u8 x.ty/\u8 x.flag
def Nde.ok (x:Nde):Prop:=u8 x.k/\u8 x.a/\u8 x.b/\u8 x.c/\x.parts.length<=9223372036854775807/\∀ p∈x.parts,p.ok
def Nde.kind (x:Nde):Int:=1 + x.k % 9
def Nde.low (x:Nde):Int:=x.a % 7 - 3
def Nde.high (x:Nde):Int:=x.low + x.b % 6
def bitZ (a:Int) (i:Nat):Bool:=decide (a / 2 ^ i % 2=1)
def idl (a:Int):Nat->List Int
 | 0=>[]
 | i + 1=>idl a i++if bitZ a i then [((i + 1:Nat):Int)] else []
def idsZ (a:Int):List Int:=if idl a 6=[] then [1] else idl a 6
def kdAt (l:List Nde) (z:Int):Int:=match l[z.toNat]? with
 | some x=>x.kind
 | none=>0
def oks (l:List Nde):Prop:=1<=l.length/\l.length<=5/\∀ x∈l,x.ok
def isKey (k:Int):Bool:=decide (1<=k/\k<=4)
def keyFrom (l:List Nde) (code:Int):Nat->Nat->Int
 | 0,_=>-1
 | n + 1,k=>if isKey (kdAt l ((code + k) % l.length))=true then (code + k) % l.length else keyFrom l code n (k + 1)
def keyZ (l:List Nde) (code:Int):Int:=keyFrom l code l.length 0
def holFrom (l:List Nde):Nat->Nat->Int
 | 0,_=>-1
 | n + 1,k=>if 7<=kdAt l k then k else holFrom l n (k + 1)
def tgtZ (l:List Nde) (i code:Int):Int:=if 7<=kdAt l (code % l.length)\/code % l.length<i then code % l.length else if 0<i then code % l.length % i else holFrom l l.length 0
section
set_option maxHeartbeats 2000000
def Vl.of (k:Int) (b:Bool) (i:Int) (s:ByteArray) (d:Int):Vl:=.mk k b i s d true [] true [] true []
def ndAt (l:List Nde) (z:Int):Nde:=match l[z.toNat]? with
 | some x=>x
 | none=>⟨0,0,0,0,true,[]⟩
def inK (l:List Nde) (t:Int):Int:=if kdAt l t=8/\keyZ l 0<0 then 7 else kdAt l t
def idAt (a code:Int):Int:=(idsZ a)[(code % (idsZ a).length).toNat]?.getD 0
def initZ (l:List Nde) (t code:Int):Vl × Bool :=
 if kdAt l t=5\/kdAt l t=6 then (.of 0 false 0 ⟨#[]⟩ 0,false) else
 (.of (inK l t) (decide (kdAt l t=1/\code % 2=1)) (if kdAt l t=2 then (ndAt l t).low + code % ((ndAt l t).b % 6 + 1) else 0) (if kdAt l t=3/\0<(ndAt l t).a % 4/\code % 2=1 then ⟨#[97]⟩ else ⟨#[]⟩) (if kdAt l t=4 then idAt (ndAt l t).a code else 0),true)
end
def low0 (m:Nat) (v:AV):Prop:=∀ t n,m<=n->v.kill0 t n=v
def lowV (m:Nat) (v:AV):Prop:=∀ t n,m<=n->v.kill t n=v
theorem lowV_mono {m m':Nat} (h:m<=m') {v:AV} (hv:lowV m v):lowV m' v:=fun t n hn=>hv t n (ye h hn)
theorem low0_ref {m t n z o l c:Nat} (h:n<m):low0 m (.ref t n z o l c):=fun t' n' h'=>by simp only [AV.kill0]; rw [if_neg (by omega)]
theorem low0_free {m:Nat} {v:AV} (h:v.free0=true):low0 m v:=fun t n _=>kill0_free h t n
theorem lowV_of {m:Nat} {v:AV} (h:low0 m v):(v.leaf=true)->lowV m v:=fun hl t n hn=>by
 have:=h t n hn;cases v <;> first | exact this | (simp [AV.leaf] at hl; done)
theorem lowV_kill {m t n:Nat} (hn:m<=n) {v:AV} (hv:lowV m v):v.kill t n=v:=hv t n hn
theorem kill0_comm (v:AV) (t n t' n':Nat):(v.kill0 t n).kill0 t' n'=(v.kill0 t' n').kill0 t n:=by
 cases v with
 | ptr a b o=>by_cases h1:(a=t/\b=n) <;> by_cases h2:(a=t'/\b=n') <;> first | (simp only [AV.kill0,if_pos h1,if_pos h2]; done) | (simp only [AV.kill0,if_pos h1,if_neg h2]; done) | (simp only [AV.kill0,if_neg h1,if_pos h2]; done) | (simp only [AV.kill0,if_neg h1,if_neg h2]; done)
 | ref a b z o l c=>by_cases h1:(a=t/\b=n) <;> by_cases h2:(a=t'/\b=n') <;> first | (simp only [AV.kill0,if_pos h1,if_pos h2]; done) | (simp only [AV.kill0,if_pos h1,if_neg h2]; done) | (simp only [AV.kill0,if_neg h1,if_pos h2]; done) | (simp only [AV.kill0,if_neg h1,if_neg h2]; done)
 | mp a b=>by_cases h1:(a=t/\b=n) <;> by_cases h2:(a=t'/\b=n') <;> first | (simp only [AV.kill0,if_pos h1,if_pos h2]; done) | (simp only [AV.kill0,if_pos h1,if_neg h2]; done) | (simp only [AV.kill0,if_neg h1,if_pos h2]; done) | (simp only [AV.kill0,if_neg h1,if_neg h2]; done)
 | _=>rfl
theorem q4N (l:List AV) (t n t' n':Nat):(l.map (AV.kill0 t n)).map (AV.kill0 t' n')=(l.map (AV.kill0 t' n')).map (AV.kill0 t n):=by
 rw [y3,y3];exact yr fun x _=>kill0_comm x t n t' n'
theorem kill1_comm (v:AV) (t n t' n':Nat):(v.kill1 t n).kill1 t' n'=(v.kill1 t' n').kill1 t n:=by
 cases v with
 | agg cs=>exact congrArg AV.agg (q4N cs t n t' n')
 | ptr a b o=>by_cases h1:(a=t/\b=n) <;> by_cases h2:(a=t'/\b=n') <;> first | (simp only [AV.kill1,AV.kill0,if_pos h1,if_pos h2]; done) | (simp only [AV.kill1,AV.kill0,if_pos h1,if_neg h2]; done) | (simp only [AV.kill1,AV.kill0,if_neg h1,if_pos h2]; done) | (simp only [AV.kill1,AV.kill0,if_neg h1,if_neg h2]; done)
 | ref a b z o l c=>by_cases h1:(a=t/\b=n) <;> by_cases h2:(a=t'/\b=n') <;> first | (simp only [AV.kill1,AV.kill0,if_pos h1,if_pos h2]; done) | (simp only [AV.kill1,AV.kill0,if_pos h1,if_neg h2]; done) | (simp only [AV.kill1,AV.kill0,if_neg h1,if_pos h2]; done) | (simp only [AV.kill1,AV.kill0,if_neg h1,if_neg h2]; done)
 | mp a b=>by_cases h1:(a=t/\b=n) <;> by_cases h2:(a=t'/\b=n') <;> first | (simp only [AV.kill1,AV.kill0,if_pos h1,if_pos h2]; done) | (simp only [AV.kill1,AV.kill0,if_pos h1,if_neg h2]; done) | (simp only [AV.kill1,AV.kill0,if_neg h1,if_pos h2]; done) | (simp only [AV.kill1,AV.kill0,if_neg h1,if_neg h2]; done)
 | _=>rfl
theorem kill_comm (v:AV) (t n t' n':Nat):(v.kill t n).kill t' n'=(v.kill t' n').kill t n:=by
 cases v with
 | agg cs=>exact congrArg AV.agg (q4N cs t n t' n')
 | fn f cs=>exact congrArg (AV.fn f) (q4N cs t n t' n')
 | tup vs =>
  refine congrArg AV.tup ?_;rw [y3,y3];exact yr fun x _=>kill1_comm x t n t' n'
 | ptr a b o=>by_cases h1:(a=t/\b=n) <;> by_cases h2:(a=t'/\b=n') <;> first | (simp only [AV.kill,AV.kill0,if_pos h1,if_pos h2]; done) | (simp only [AV.kill,AV.kill0,if_pos h1,if_neg h2]; done) | (simp only [AV.kill,AV.kill0,if_neg h1,if_pos h2]; done) | (simp only [AV.kill,AV.kill0,if_neg h1,if_neg h2]; done)
 | ref a b z o l c=>by_cases h1:(a=t/\b=n) <;> by_cases h2:(a=t'/\b=n') <;> first | (simp only [AV.kill,AV.kill0,if_pos h1,if_pos h2]; done) | (simp only [AV.kill,AV.kill0,if_pos h1,if_neg h2]; done) | (simp only [AV.kill,AV.kill0,if_neg h1,if_pos h2]; done) | (simp only [AV.kill,AV.kill0,if_neg h1,if_neg h2]; done)
 | mp a b=>by_cases h1:(a=t/\b=n) <;> by_cases h2:(a=t'/\b=n') <;> first | (simp only [AV.kill,AV.kill0,if_pos h1,if_pos h2]; done) | (simp only [AV.kill,AV.kill0,if_pos h1,if_neg h2]; done) | (simp only [AV.kill,AV.kill0,if_neg h1,if_pos h2]; done) | (simp only [AV.kill,AV.kill0,if_neg h1,if_neg h2]; done)
 | _=>rfl
theorem lowV_killed {m t n:Nat} {v:AV} (hv:lowV m v):lowV m (v.kill t n):=fun t' n' h=>by rw [kill_comm,hv t' n' h]
def LowE (m:Nat) (e:Nat->Slot):Prop:=∀ t,lowV m (e t).v
def LowM (m:Nat) (M:Nat->Nat->Option (List Slot)):Prop:=∀ t n r,M t n=some r->∀ x∈r,lowV m x.v
def q4l (m:Nat) (M0 M:Nat->Nat->Option (List Slot)):Prop:=∀ t n,n<m->M t n=M0 t n
theorem LowE.put {m:Nat} {e:Nat->Slot} {d:Nat} {x:Slot} (h:LowE m e) (hx:lowV m x.v):LowE m (putE e d x):=fun t=>by
 rw [putE_at];split
 ·exact hx
 ·exact h t
theorem LowE.mono {m m':Nat} (hm:m<=m') {e:Nat->Slot} (h:LowE m e):LowE m' e:=fun t=>lowV_mono hm (h t)
theorem LowE.kill {m:Nat} {e:Nat->Slot} (h:LowE m e) {t n:Nat}:LowE m (killE t n e):=fun j=>by
 rw [killE_at,Slot.kill_v];exact lowV_killed (h j)
theorem LowE.same {m:Nat} {e:Nat->Slot} (h:LowE m e) {t n:Nat} (hn:m<=n):killE t n e=e:=funext fun j=>by
 rw [killE_at];show (⟨(e j).v.kill t n,(e j).a⟩:Slot)=e j;rw [lowV_kill hn (h j)]
theorem LowM.set {m:Nat} {M:Nat->Nat->Option (List Slot)} {t n:Nat} {r:List Slot} (h:LowM m M) (hr:∀ x∈r,lowV m x.v):LowM m (setM M t n r):=fun t' n' r' he=>by
 rw [setM_at] at he;split at he
 ·injection he with he; subst he; exact hr
 ·exact h t' n' r' he
theorem LowM.mono {m m':Nat} (hm:m<=m') {M:Nat->Nat->Option (List Slot)} (h:LowM m M):LowM m' M:=fun t n r he x hx=>lowV_mono hm (h t n r he x hx)
theorem LowM.kill {m:Nat} {M:Nat->Nat->Option (List Slot)} (h:LowM m M) {t n:Nat}:LowM m (killM t n M):=fun t' n' r' he x hx=>by
 rw [q6W] at he;split at he
 ·cases he
 ·obtain ⟨r,hr,rfl⟩:=y9.1 he;obtain ⟨y,hy,rfl⟩:=List.mem_map.1 hx;rw [Slot.kill_v];exact lowV_killed (h t' n' r hr y hy)
theorem q4l.refl {m:Nat} {M:Nat->Nat->Option (List Slot)}:q4l m M M:=fun _ _ _=>rfl
theorem q4l.set {m:Nat} {M0 M:Nat->Nat->Option (List Slot)} {t n:Nat} {r:List Slot} (h:q4l m M0 M) (hn:m<=n):q4l m M0 (setM M t n r):=fun t' n' h'=>by
 rw [setM_at,if_neg (by omega)];exact h t' n' h'
theorem q4l.kill {m:Nat} {M0 M:Nat->Nat->Option (List Slot)} (h:q4l m M0 M) (h0:LowM m M0) {t n:Nat} (hn:m<=n):q4l m M0 (killM t n M):=fun t' n' h'=>by
 rw [q6W,if_neg (by omega),h t' n' h'];cases hr:M0 t' n' with
 | none=>rfl
 | some r =>
  refine congrArg some ?_;have:r.map (Slot.kill t n)=r.map id:=yr fun x hx=>by
   show (⟨x.v.kill t n,x.a⟩:Slot)=x;rw [lowV_kill hn (h0 t' n' r hr x hx)]
  rwa [List.map_id] at this
theorem low_row {m:Nat} {l:List (List AV)} (h:∀ c∈l,∀ v∈c,low0 m v) (h2:∀ c∈l,∀ v∈c,v.leaf=true):∀ x∈q0Z l,lowV m x.v:=fun x hx=>by
 obtain ⟨v,hv,rfl⟩:=List.mem_map.1 hx;obtain ⟨c,hc,hv⟩:=List.mem_flatten.1 hv;exact lowV_of (h c hc v hv) (h2 c hc v hv)
theorem free0_leaf {v:AV} (h:v.free0=true):v.leaf=true:=by
 cases v <;> first | rfl | (simp [AV.free0] at h; done)
theorem low_row_free {m:Nat} {l:List (List AV)} (h:freeEls l=true):∀ x∈q0Z l,lowV m x.v :=
 low_row (fun c hc v hv=>low0_free (y5.1 (y5.1 h c hc) v hv)) (fun c hc v hv=>free0_leaf (y5.1 (y5.1 h c hc) v hv))
structure Calm (m:Nat) (s0 s:MSt):Prop where
 mem:q4l m s0.mem s.mem
 gh:s.gh=s0.gh
 obj:s.obj=s0.obj
 next:m<=s.next
 low:LowM s.next s.mem
section
set_option maxHeartbeats 4000000
def mName (id:Int):ByteArray:=⟨#[109]⟩++Utf8.encode (97 + id)
def isPrt (l:List Nde) (i id:Int) (p:Prt):Bool:=decide (1 + p.id % 12=id/\0<=tgtZ l i p.ty)
def memZ (l:List Nde) (i:Int) (rc:Bool) (id:Int) (p:Prt):Mem :=
 ⟨id,mName id,tgtZ l i p.ty,rc&&decide (p.flag % 4=1),rc&&decide (2<=p.flag % 4)&&(initZ l (tgtZ l i p.ty) (p.flag / 4)).2,if (rc&&decide (2<=p.flag % 4))=true then (initZ l (tgtZ l i p.ty) (p.flag / 4)).1 else Vl.zero⟩
def memAt (l:List Nde) (i:Int) (rc:Bool) (id:Int) (ps:List Prt):List Mem:=match ps.find? (isPrt l i id) with
 | some p=>[memZ l i rc id p]
 | none=>[]
def partsTo (l:List Nde) (i:Int) (rc:Bool) (ps:List Prt):Nat->List Mem
 | 0=>[]
 | n + 1=>partsTo l i rc ps n++memAt l i rc ((n + 1:Nat):Int) ps
def partsZ (l:List Nde) (i:Int) (rc:Bool) (ps:List Prt):List Mem:=partsTo l i rc ps 12
def ListI (n0:Nat) (ms:List Mem) (x:Slot) (s:MSt):Prop :=
 (ms=[]/\x.v=.sl true []/\x.a=.ex)\/∃ N,ms≠[]/\n0<=N/\N<s.next/\x.v=.ref 88 N 13 0 ms.length ms.length/\s.mem 88 N=some (q0Z (ms.map memC))
structure PartsI (n0:Nat) (s0:MSt) (dn:Bool) (l:List Nde) (i0:Int) (rc:Bool) (x:Nde) (id:Int) (ms:List Mem) (s:MSt):Prop where
 e1:(s.env 1).v=.int .i64 i0
 e2:(s.env 2).v=.bool rc
 e3:(s.env 3).v=.ptr 3 n0 0
 m3:s.mem 3 n0=some [⟨.sl dn (l.map ndeC),.no⟩]
 e7:(s.env 7).v=.ptr 7 (n0 + 1) 0
 m7:s.mem 7 (n0 + 1)=some [⟨.int .u8 x.k,.no⟩,⟨.int .u8 x.a,.no⟩,⟨.int .u8 x.b,.no⟩,⟨.int .u8 x.c,.no⟩,⟨.sl x.pn (x.parts.map prtC),.no⟩]
 e9:(s.env 9).v=.int .i64 id
 lst:ListI n0 ms (s.env 8) s
 calm:Calm n0 s0 s
 lt:n0 + 1<s.next
theorem ListI.of {n0:Nat} {ms:List Mem} {x x':Slot} {s s':MSt} (h:ListI n0 ms x s) (hx:x'=x) (hm:∀ N,s'.mem 88 N=s.mem 88 N) (hn:s.next<=s'.next):ListI n0 ms x' s':=by
 subst hx;rcases h with h | ⟨N,h1,h2,h3,h4,h5⟩
 ·exact .inl h
 ·exact .inr ⟨N,h1,h2,yw h3 hn,h4,(hm N).trans h5⟩
end
section
set_option maxHeartbeats 4000000
theorem PartsI.of {n0:Nat} {s0:MSt} {dn:Bool} {l:List Nde} {i0:Int} {rc:Bool} {x:Nde} {id id':Int} {ms:List Mem} {s s':MSt} (h:PartsI n0 s0 dn l i0 rc x id ms s)
  (h1:(s'.env 1).v=(s.env 1).v) (h2:(s'.env 2).v=(s.env 2).v) (h3:(s'.env 3).v=(s.env 3).v) (h7:(s'.env 7).v=(s.env 7).v) (h8:s'.env 8=s.env 8) (h9:(s'.env 9).v=.int .i64 id') (hm:s'.mem=s.mem) (hg:s'.gh=s.gh) (ho:s'.obj=s.obj) (hn:s.next<=s'.next):PartsI n0 s0 dn l i0 rc x id' ms s':=by
 obtain ⟨e1,e2,e3,m3,e7,m7,e9,lst,⟨cm,cg,co,cn,cl⟩,lt⟩:=h;refine ⟨by rw [h1,e1],by rw [h2,e2],by rw [h3,e3],by rw [hm,m3],by rw [h7,e7],by rw [hm,m7],h9,lst.of h8 (fun N=>by rw [hm]) hn,⟨by rw [hm]; exact cm,by rw [hg,cg],by rw [ho,co],by omega,by rw [hm]; exact cl.mono hn⟩,by omega⟩
end
def pureS (x:Slot):Prop:=∀ k,x.strip k=x
def PureE (e:Nat->Slot):Prop:=∀ t,pureS (e t)
def PureM (m:Nat) (M:Nat->Nat->Option (List Slot)):Prop:=∀ t n r,n<m->M t n=some r->∀ x∈r,pureS x
theorem PureE.same {e:Nat->Slot} (h:PureE e) (k:Nat):stripE k e=e:=funext fun t=>by rw [stripE_at]; exact h t k
theorem stripM_val (k:Nat) (M:Nat->Nat->Option (List Slot)) (t n:Nat):stripM k M t n=(M t n).map (·.map (Slot.strip k)):=rfl
theorem q4l.strip {m:Nat} {M0 M:Nat->Nat->Option (List Slot)} (h:q4l m M0 M) (h0:PureM m M0) (k:Nat):q4l m M0 (stripM k M):=fun t n hn=>by
 rw [stripM_val,h t n hn];cases hr:M0 t n with
 | none=>rfl
 | some r =>
  refine congrArg some ?_;have:r.map (Slot.strip k)=r.map id:=yr fun x hx=>h0 t n r hn hr x hx k
  rwa [List.map_id] at this
theorem LowM.strip {m:Nat} {M:Nat->Nat->Option (List Slot)} (h:LowM m M) (k:Nat):LowM m (stripM k M):=fun t n r he x hx=>by
 rw [stripM_val] at he;obtain ⟨r0,hr,rfl⟩:=y9.1 he;obtain ⟨y,hy,rfl⟩:=List.mem_map.1 hx;exact h t n r0 hr y hy
theorem LowE.strip {m:Nat} {e:Nat->Slot} (h:LowE m e) (k:Nat):LowE m (stripE k e):=fun t=>h t
theorem rowOf_kill {l:List (List AV)} (h:freeEls l=true) (t n:Nat):(q0Z l).map (Slot.kill t n)=q0Z l:=by
 have:(q0Z l).map (Slot.kill t n)=(q0Z l).map id:=yr fun x hx=>by
  have:=low_row_free (m:=0) h x hx t n (Nat.zero_le _);show (⟨x.v.kill t n,x.a⟩:Slot)=x;rw [this]
 rwa [List.map_id] at this
def tName (i:Int):ByteArray:=Utf8.encode (65 + i)
def sName (d:Int):ByteArray:=⟨#[115]⟩++Utf8.encode (97 + d)
def symsZ (a:Int):List Sym:=(idsZ a).map fun d=>⟨d,sName d⟩
def Typ.of (k:Int) (nm:ByteArray):Typ:=⟨k,nm,0,0,0,true,[],true,[],0,0,false⟩
def typZ (l:List Nde) (i:Int):Typ :=
 let x:=ndAt l i
 let n:Int:=l.length
 match x.kind with
 | 1=>.of 1 ⟨#[]⟩
 | 2=>{ Typ.of 2 ⟨#[]⟩ with low:=x.low,high:=x.high }
 | 3=>{ Typ.of 3 ⟨#[]⟩ with max:=x.a % 4 }
 | 4=>{ Typ.of 4 (tName i) with opn:=decide (x.b % 2=1),sn:=false,syms:=symsZ x.a }
 | 5=>{ Typ.of 5 (tName i) with mn:=(partsZ l i true x.parts).isEmpty,mems:=partsZ l i true x.parts }
 | 6=>if (partsZ l i false x.parts).isEmpty=true then .of 5 (tName i) else { Typ.of 6 (tName i) with opn:=decide (x.b % 2=1),mn:=false,mems:=partsZ l i false x.parts }
 | 7=>{ Typ.of 7 ⟨#[]⟩ with max:=x.a % 4,elem:=x.c % n }
 | 8=>if keyZ l x.b<0 then { Typ.of 7 ⟨#[]⟩ with max:=x.a % 4,elem:=x.c % n } else { Typ.of 8 ⟨#[]⟩ with max:=x.a % 4,key:=keyZ l x.b,elem:=x.c % n }
 | _=>{ Typ.of 9 ⟨#[]⟩ with elem:=x.c % n }
def typL (t:Typ) (c:AV):List AV:=[.int .i64 t.kind,.str t.name,.int .i64 t.low,.int .i64 t.high,.int .i64 t.max,.sl t.sn (t.syms.map symC),c,.int .i64 t.key,.int .i64 t.elem,.bool t.opn]
def MemsI (ms:List Mem) (c:AV) (s:MSt):Prop :=
 (ms=[]/\c=.sl true [])\/∃ N,ms≠[]/\N<s.next/\c=.ref 88 N 13 0 ms.length ms.length/\s.mem 88 N=some (q0Z (ms.map memC))
theorem ListI.mems {n0:Nat} {ms:List Mem} {x:Slot} {s:MSt} (h:ListI n0 ms x s):MemsI ms x.v s:=by
 rcases h with ⟨h1,h2,_⟩ | ⟨N,h1,_,h3,h4,h5⟩
 ·exact .inl ⟨h1,h2⟩
 ·exact .inr ⟨N,h1,h3,h4,h5⟩
theorem MemsI.keep {ms:List Mem} {c:AV} {s s':MSt} (h:MemsI ms c s) (hm:∀ N,N<s.next->s'.mem 88 N=s.mem 88 N) (hn:s.next<=s'.next):MemsI ms c s':=by
 rcases h with h | ⟨N,h1,h2,h3,h4⟩
 ·exact .inl h
 ·exact .inr ⟨N,h1,yw h2 hn,h3,(hm N h2).trans h4⟩
theorem MemsI.low {ms:List Mem} {c:AV} {s:MSt} (h:MemsI ms c s):low0 s.next c:=by
 rcases h with ⟨_,rfl⟩ | ⟨N,_,h2,rfl,_⟩
 ·exact low0_free rfl
 ·exact low0_ref h2
def TypsI (S:List Typ) (L:List (List AV)) (s:MSt):Prop:=S.length=L.length/\∀ (i:Nat) (t:Typ) (c:List AV),S[i]?=some t->L[i]?=some c->∃ m,c=typL t m/\MemsI t.mems m s
theorem TypsI.keep {S:List Typ} {L:List (List AV)} {s s':MSt} (h:TypsI S L s) (hm:∀ N,N<s.next->s'.mem 88 N=s.mem 88 N) (hn:s.next<=s'.next):TypsI S L s' :=
 ⟨h.1,fun i t c ht hc=>by obtain ⟨m,h1,h2⟩:=h.2 i t c ht hc; exact ⟨m,h1,h2.keep hm hn⟩⟩
theorem TypsI.els {S:List Typ} {L:List (List AV)} {s:MSt} (h:TypsI S L s):q1g 10 L=true:=by
 refine y5.2 fun c hc=>?_
 obtain ⟨i,hi,rfl⟩:=List.getElem_of_mem hc;have hlen:=h.1;have hiS:i<S.length:=by omega
 obtain ⟨m,h1,_⟩:=h.2 i S[i] L[i] (yj (by omega)) (yj hi);rw [h1];rfl
def Typ.usesL (t:Typ):List Int:=(t.mems.map Mem.ty++(if t.kind=8 then [t.key] else []))++(if 7<=t.kind then [t.elem] else [])

def outside (n:Nat) (u:Int):Bool:=decide (u<0)||decide ((n:Int)<=u)
def kindAt (l:List Typ) (k:Int):Int:=match l[k.toNat]? with
 | some t=>t.kind
 | none=>0
def typErr (l:List Typ) (i:Nat) (t:Typ):Int :=
 if typGood t=false then 1
 else if t.named=true/\t.name∈(l.take i).map Typ.name then 1
 else if t.usesL.any (outside l.length)=true then 4
 else if t.kind=8/\¬ (1<=kindAt l t.key/\kindAt l t.key<=4) then 1
 else 0
def validAt (l:List Typ):Nat->Nat->Int
 | 0,_=>0
 | n + 1,i=>match l[i]? with
  | some t=>if typErr l i t=0 then validAt l n (i + 1) else typErr l i t
  | none=>0
def valid (l:List Typ):Int:=if 32<l.length then 3 else validAt l l.length 0
def Sch.fine (s:Sch):Prop:=s.types.length<=9223372036854775807/\∀ t∈s.types,t.fine
def idxI {α:Type} (p:α->Bool):List α->Int
 | []=>-1
 | x :: r=>if p x=true then 0 else if idxI p r=-1 then -1 else idxI p r + 1
theorem idxI_ge {α:Type} (p:α->Bool):∀ l:List α,-1<=idxI p l
 | []=>by simp [idxI]
 | x :: r=>by
  have:=idxI_ge p r;simp only [idxI];split
  ·omega
  ·split <;> omega
theorem idxI_skip {α:Type} (p:α->Bool) (x:α) (r:List α) (h:p x=false):idxI p (x :: r)=if idxI p r=-1 then -1 else idxI p r + 1:=by simp [idxI,h]
theorem idxI_any {α:Type} (p:α->Bool):∀ l:List α,(decide (0<=idxI p l))=l.any p
 | []=>by simp [idxI]
 | x :: r=>by
  have h1:=idxI_any p r;have h2:=idxI_ge p r;rw [List.any_cons,<- h1];simp only [idxI];by_cases hx:p x=true
  ·simp [hx]
  ·by_cases h:idxI p r=-1
   ·simp [hx,h]
   ·simp [hx,h]; omega
def memIx (l:List Mem) (id:Int):Int:=idxI (fun x=>decide (x.id=id)) l
def symIx (l:List Sym) (id:Int):Int:=idxI (fun x=>decide (x.id=id)) l
def Typ.sm (t:Typ):Prop:=t.kind=2->-100<=t.low/\t.low<=t.high/\t.high<=100

abbrev Pr:=Int × Int
def prC (p:Pr):List AV:=[.int .i64 p.1,.int .i64 p.2]
def outRow (out:List Pr) (a:An):List Slot:=[⟨.sl out.isEmpty (out.map prC),a⟩]
def outAn (out:List Pr) (a:An):Prop:=out=[]/\a=.ex\/out≠[]/\a=.own 16 63
structure Chg where
 kind:Int
 node:Int
 a:Int
 b:Int
def chgC (c:Chg):List AV:=[.int .u8 c.kind,.int .u8 c.node,.int .u8 c.a,.int .u8 c.b]
def Chg.ok (c:Chg):Prop:=u8 c.kind/\u8 c.node/\u8 c.a/\u8 c.b
abbrev Nd:=Nde × Slot
def ndRow (q:Nd):List Slot:=[⟨.int .u8 q.1.k,.no⟩,⟨.int .u8 q.1.a,.no⟩,⟨.int .u8 q.1.b,.no⟩,⟨.int .u8 q.1.c,.no⟩,q.2]
def ndsRow (xs:List Nd):List Slot:=xs.flatMap ndRow
def nmM (x:Slot):Option Nat:=match x.v with
 | .ref _ M _ _ _ _=>some M
 | _=>none
def PcI (M:Nat->Nat->Option (List Slot)) (n:Nat) (x:Slot):Prop :=
 (∃ (nl:Bool) (ps:List Prt) (a:An),x=⟨.sl nl (ps.map prtC),a⟩/\(a=.no\/a=.ex)/\(∀ p∈ps,p.ok)/\ps.length * 3<=140737488355328) ∨
 ∃ (t N c:Nat) (ps:List Prt),x=⟨.ref t N 3 0 ps.length c,.no⟩/\(t=47\/t=168\/t=193)/\N<n/\M t N=some (q0Z (ps.map prtC))/\(∀ p∈ps,p.ok)/\ps.length * 3<=140737488355328
def Pres (n:Nat) (ex:Option Nat) (M M':Nat->Nat->Option (List Slot)):Prop:=∀ (t N:Nat) (ps:List Prt),(t=47\/t=168\/t=193)->N<n->some N≠ex->M t N=some (q0Z (ps.map prtC))->M' t N=some (q0Z (ps.map prtC))
theorem Pres.refl (n:Nat) (ex:Option Nat) (M:Nat->Nat->Option (List Slot)):Pres n ex M M:=fun _ _ _ _ _ _ h=>h
theorem Pres.set {n:Nat} {ex:Option Nat} {M M':Nat->Nat->Option (List Slot)} (h:Pres n ex M M') {t' n':Nat} {r:List Slot} (hn:n<=n'\/¬ (t'=47\/t'=168\/t'=193)):Pres n ex M (setM M' t' n' r):=fun t N ps ht hN hx hm=>by
 rw [setM_at,if_neg]
 ·exact h t N ps ht hN hx hm
 ·rintro ⟨rfl,rfl⟩;rcases hn with hn | hn
  ·omega
  ·exact hn ht
theorem prt_free (ps:List Prt):freeEls (ps.map prtC)=true:=freeEls_map prtC ps fun p=>by simp [prtC,AV.free0]
theorem Pres.kill {n:Nat} {ex:Option Nat} {M M':Nat->Nat->Option (List Slot)} (h:Pres n ex M M') {t' n':Nat} (hn:ex=some n'):Pres n ex M (killM t' n' M'):=fun t N ps ht hN hx hm=>by
 rw [q6W,if_neg,h t N ps ht hN hx hm]
 ·simp only [yf,rowOf_kill (prt_free ps)]
 ·rintro ⟨rfl,rfl⟩;exact hx hn.symm
theorem PcI.pres {M M':Nat->Nat->Option (List Slot)} {n n':Nat} {x:Slot} (h:PcI M n x) {ex:Option Nat} (hp:Pres n ex M M') (hn:n<=n') (hx:∀ N,nmM x=some N->some N≠ex):PcI M' n' x:=by
 rcases h with h | ⟨t,N,c,ps,rfl,h1,h2,h3,h4,h5⟩
 ·exact .inl h
 ·exact .inr ⟨t,N,c,ps,rfl,h1,by omega,hp t N ps h1 h2 (hx N rfl) h3,h4,h5⟩
structure NdsI (L:Nat) (M:Nat->Nat->Option (List Slot)) (n:Nat) (xs:List Nd):Prop where
 len:xs.length=L
 row:M 13 2=some (ndsRow xs)
 num:∀ q∈xs,u8 q.1.k/\u8 q.1.a/\u8 q.1.b/\u8 q.1.c
 pc:∀ q∈xs,PcI M n q.2
 dist:∀ (j k:Nat) (a b:Nd) (N:Nat),j≠k->xs[j]?=some a->xs[k]?=some b->nmM a.2=some N->nmM b.2=some N->False
structure ChI (cn:Bool) (cs:List Chg) (L i:Nat) (xs:List Nd) (s:MSt):Prop where
 e1:(s.env 1).v=.sl cn (cs.map chgC)
 e4:(s.env 4).v=.ptr 4 1 0
 e5:(s.env 5).v=.ptr 5 2 0
 e6:(s.env 6).v=.int .i64 i
 m4:s.mem 4 1=some [⟨.sl true [],.ex⟩]
 m5:s.mem 5 2=some [⟨.ref 13 2 5 0 L L,.no⟩]
 nds:NdsI L s.mem s.next xs
 nx:2<s.next
section
set_option maxHeartbeats 4000000
def Stay (p n8:Nat) (M M':Nat->Nat->Option (List Slot)):Prop:=∀ t n,¬ (t=p/\n=n8)->(∀ r,M t n=some r->∀ x∈r,pureS x)->M' t n=M t n
theorem Stay.refl {p n8:Nat} {M:Nat->Nat->Option (List Slot)}:Stay p n8 M M:=fun _ _ _ _=>rfl
theorem Stay.strip {p n8:Nat} {M M':Nat->Nat->Option (List Slot)} (h:Stay p n8 M M') (k:Nat):Stay p n8 M (stripM k M'):=fun t n h1 h2=>by
 rw [stripM_at,h t n h1 h2];cases hr:M t n with
 | none=>rfl
 | some r =>
  refine congrArg some ?_;have:r.map (Slot.strip k)=r.map id:=yr fun x hx=>h2 r hr x hx k
  rwa [List.map_id] at this
theorem Stay.set {p n8:Nat} {M M':Nat->Nat->Option (List Slot)} (h:Stay p n8 M M') {r:List Slot}:Stay p n8 M (setM M' p n8 r):=fun t n h1 h2=>by
 rw [setM_at,if_neg h1];exact h t n h1 h2
end
section
set_option maxHeartbeats 4000000
def M5I (n0:Nat) (l:List Nde) (i:Nat) (s:MSt):Prop :=
 (i=0/\∃ a,s.mem 5 (n0 + 3)=some [⟨.sl true [],a⟩]/\pureS ⟨.sl true [],a⟩)\/∃ N L,¬ i=0/\s.mem 5 (n0 + 3)=some [⟨.ref 168 N 10 0 i i,.no⟩]/\n0<=N/\N<s.next/\s.mem 168 N=some (q0Z L)/\L.length=i/\TypsI ((List.range i).map fun (j:Nat)=>typZ l (j:Int)) L s
theorem M5I.keep {n0:Nat} {l:List Nde} {i:Nat} {s s':MSt} (h:M5I n0 l i s) (h5:s'.mem 5 (n0 + 3)=s.mem 5 (n0 + 3)) (h168:∀ N,N<s.next->s'.mem 168 N=s.mem 168 N) (h88:∀ N,N<s.next->s'.mem 88 N=s.mem 88 N) (hn:s.next<=s'.next):M5I n0 l i s':=by
 rcases h with ⟨h1,a,h2,h3⟩ | ⟨N,L,h1,h2,h0,h3,h4,h6,h7⟩
 ·exact .inl ⟨h1,a,h5.trans h2,h3⟩
 ·exact .inr ⟨N,L,h1,h5.trans h2,h0,yw h3 hn,(h168 N h3).trans h4,h6,h7.keep h88 hn⟩
end
section
set_option maxHeartbeats 4000000
theorem hx0 (x:Nde) (hx:x.ok):u8 x.k/\u8 x.a/\u8 x.b/\u8 x.c/\True:=⟨hx.1,hx.2.1,hx.2.2.1,hx.2.2.2.1,trivial⟩
end
section
set_option maxHeartbeats 4000000
end
section
set_option maxHeartbeats 4000000
theorem LowE.wait {m nt:Nat} {e g:Nat->Slot} (h:LowE m e) (h':LowE m g):LowE m (waitE nt e g):=fun t=>by
 rw [waitE_at];split
 ·exact h t
 ·exact h' _
theorem LowE.back {m nt:Nat} {g:Nat->Slot} (h:LowE m g):LowE m (backE nt g):=fun t=>by
 rw [backE_at];split
 ·exact h t
 ·exact fun _ _ _=>rfl
theorem q4l.trans {m m':Nat} {A B C:Nat->Nat->Option (List Slot)} (h:q4l m A B) (h':q4l m' B C) (hm:m<=m'):q4l m A C:=fun t n hn=>(h' t n (by omega)).trans (h t n hn)
theorem MemsI.lowV {ms:List Mem} {c:AV} {s:MSt} (h:MemsI ms c s):lowV s.next c:=lowV_of h.low (by
 rcases h with ⟨_,rfl⟩ | ⟨N,_,_,rfl,_⟩ <;> rfl)
end
section
set_option maxHeartbeats 4000000
theorem q6t {sz:Nat} {L:List (List AV)} (h:∀ c∈L,c.length=sz):rowRaw (q0Z L) sz 0 L.length=some L:=by
 have hlen:∀ {L:List (List AV)},(∀ c∈L,c.length=sz)->L.flatten.length=L.length * sz:=by
  intro L h
  induction L with
  | nil=>simp
  | cons c r ih =>
   simp only [yl,yp,yx];rw [ih fun c hc=>h c (ym _ hc),h c yd,yh];omega
 have hv:∀ l:List AV,(l.map fun v=>(⟨v,An.no⟩:Slot)).map (·.v)=l:=fun l=>by simp [Function.comp_def]
 unfold rowRaw;rw [if_pos (by rw [q0Z,yt,hlen h]; omega)];congr 1;refine List.ext_getElem (by simp) fun i h1 h2=>?_
 simp only [List.getElem_map,List.getElem_range,yi];simp only [q0Z];rw [<- List.map_drop,<- List.map_take,hv]
 induction L generalizing i with
 | nil=>simp at h2
 | cons c r ih =>
  have hc:=h c yd;cases i with
  | zero=>simp [<- hc]
  | succ i =>
   simp only [yl,List.getElem_cons_succ];rw [yh,Nat.add_comm,<- hc,<- List.drop_drop];rw [List.drop_left,hc];exact ih (fun c hc=>h c (ym _ hc)) i (by simpa using h2) (by simpa using h2)
end
section
set_option maxHeartbeats 4000000
end
section
set_option maxHeartbeats 4000000
end
def rwM (n:Nat) (a b:Mem):Prop:=b.id=a.id/\b.name=a.name/\b.crit=a.crit/\(b=a\/(0<=b.ty/\b.ty<n/\b.has=false/\b.dflt=Vl.zero))
def rwL (n:Nat) (xs bs:List Mem):Prop:=xs.length=bs.length/\∀ (i:Nat) a b,xs[i]?=some a->bs[i]?=some b->rwM n a b
def Mem.rewired (m:Mem) (ty:Int):Mem:=⟨m.id,m.name,ty,m.crit,false,Vl.zero⟩
theorem rwL_set {n:Nat} {xs bs:List Mem} (h:rwL n xs bs) {k:Nat} {m:Mem} (hk:bs[k]?=some m) {ty:Int} (h0:0<=ty) (h1:ty<n):rwL n xs (bs.set k (m.rewired ty)):=by
 obtain ⟨hl,h⟩:=h;refine ⟨by simpa using hl,fun i a b ha hb=>?_⟩;rw [List.getElem?_set] at hb;split at hb
 ·rename_i e;subst e;split at hb
  ·injection hb with hb;subst hb;obtain ⟨g1,g2,g3,_⟩:=h k a m ha hk;exact ⟨g1,g2,g3,.inr ⟨h0,h1,rfl,rfl⟩⟩
  ·cases hb
 ·exact h i a b ha hb
def MemsR (n:Nat) (xs:List Mem) (c:AV) (s:MSt):Prop :=
 (xs=[]/\c=.sl true [])\/∃ N bs,xs≠[]/\rwL n xs bs/\c=.ref 88 N 13 0 xs.length xs.length/\s.mem 88 N=some (q0Z (bs.map memC))
def TypsR (n:Nat) (S:List Typ) (L:List (List AV)) (s:MSt):Prop:=S.length=L.length/\∀ (i:Nat) (t:Typ) (c:List AV),S[i]?=some t->L[i]?=some c->∃ m,c=typL t m/\MemsR n t.mems m s
theorem TypsR.els {n:Nat} {S:List Typ} {L:List (List AV)} {s:MSt} (h:TypsR n S L s):q1g 10 L=true:=by
 refine y5.2 fun c hc=>?_
 obtain ⟨i,hi,rfl⟩:=List.getElem_of_mem hc;have hlen:=h.1;obtain ⟨m,h1,_⟩:=h.2 i S[i] L[i] (yj (by omega)) (yj hi);rw [h1];rfl
theorem TypsR.keep {n:Nat} {S:List Typ} {L:List (List AV)} {s s':MSt} (h:TypsR n S L s) (hm:∀ N,s'.mem 88 N=s.mem 88 N):TypsR n S L s':=⟨h.1,fun i t c ht hc=>by
 obtain ⟨m,h1,h2⟩:=h.2 i t c ht hc;refine ⟨m,h1,?_⟩;rcases h2 with h2 | ⟨N,bs,g1,g2,g3,g4⟩
 ·exact .inl h2
 ·exact .inr ⟨N,bs,g1,g2,g3,(hm N).trans g4⟩⟩
theorem memC_inj {a b:List Mem} (h:q0Z (a.map memC)=q0Z (b.map memC)) (hl:a.length=b.length):a.map memC=b.map memC:=by
 have h1:=q6t (sz:=13) (L:=a.map memC) (by simp [memC]);have h2:=q6t (sz:=13) (L:=b.map memC) (by simp [memC]);rw [h] at h1;simp only [yt] at h1 h2;rw [hl,h2] at h1;injection h1 with h1;exact h1.symm
theorem TypsR.store {n:Nat} {S:List Typ} {L:List (List AV)} {s s':MSt} (h:TypsR n S L s) {N k:Nat} {bs:List Mem} {m:Mem} (hN:s.mem 88 N=some (q0Z (bs.map memC))) (hk:bs[k]?=some m) {ty:Int} (h0:0<=ty) (h1:ty<n) (hm:∀ N',s'.mem 88 N'=if N'=N then some (q0Z ((bs.set k (m.rewired ty)).map memC)) else s.mem 88 N'):TypsR n S L s':=⟨h.1,fun i t c ht hc=>by
 obtain ⟨m',g1,g2⟩:=h.2 i t c ht hc;refine ⟨m',g1,?_⟩;rcases g2 with g2 | ⟨N',bs',g2,g3,g4,g5⟩
 ·exact .inl g2
 ·by_cases e:N'=N
  ·subst e;rw [hN] at g5;injection g5 with g5;have hlen:bs.length=bs'.length:=by
    have e1:=congrArg List.length g5;rw [rowOf_len (els_mem _),rowOf_len (els_mem _)] at e1;simp only [yt] at e1;omega
   have hmm:=memC_inj g5 hlen;have hk':k<bs'.length:=by rw [<- hlen]; exact (yb.1 hk).1
   have hkm:memC bs'[k]=memC m:=by
    have:=congrArg (·[k]?) hmm;simp only [yq,hk,yj hk',yf,Option.some.injEq] at this;exact this.symm
   refine .inr ⟨N',bs'.set k (bs'[k].rewired ty),g2,rwL_set g3 (yj hk') h0 h1,g4,?_⟩;rw [hm,if_pos rfl,List.map_set,List.map_set,hmm];have:memC (m.rewired ty)=memC (bs'[k].rewired ty):=by
    simp only [memC,List.cons.injEq,AV.int.injEq,AV.str.injEq,AV.bool.injEq,true_and] at hkm;simp only [memC,Mem.rewired,hkm.1,hkm.2.1,hkm.2.2.2.1]
   rw [this]
  ·exact .inr ⟨N',bs',g2,g3,g4,by rw [hm,if_neg e]; exact g5⟩⟩
section
section
variable {r:RV} {cn:Bool} {cs:List Chg} {L i:Nat} {xs:List Nd} {c:Chg} {z:Nat} {x:Nde} {pc:Slot} {ps:List Prt} {s:MSt}
end
end
section
section
variable {r:RV} {cn:Bool} {cs:List Chg} {L i:Nat} {xs:List Nd} {c:Chg} {z:Nat} {x:Nde} {pc:Slot} {ps:List Prt} {s:MSt}
theorem ChI.nothing {E:Nat->Slot} {n:Nat} (h:ChI cn cs L i xs s) (h1:(E 1).v=(s.env 1).v) (h4:(E 4).v=(s.env 4).v) (h5:(E 5).v=(s.env 5).v) (h6:(E 6).v=(s.env 6).v) (hn:s.next<=n):ChI cn cs L i xs ⟨E,s.mem,n,s.obj,s.gh⟩:=by
 obtain ⟨e1,e4,e5,e6,m4,m5,nds,nx⟩:=h;exact ⟨h1.trans e1,h4.trans e4,h5.trans e5,h6.trans e6,m4,m5,⟨nds.len,nds.row,nds.num,fun q hq=>(nds.pc q hq).pres (ex:=none) (Pres.refl _ _ _) hn (by simp),nds.dist⟩,by dsimp only; omega⟩
end
end
section
section
variable {r:RV} {cn:Bool} {cs:List Chg} {L i:Nat} {xs:List Nd} {c:Chg} {z:Nat} {x:Nde} {pc:Slot} {ps:List Prt} {s:MSt}
end
end

def zig (n:Int):Int:=if 0<=n then 2 * n else -2 * n - 1
def i64R (n:Int):Prop:=-9223372036854775808<=n/\n<=9223372036854775807
def cmpI (a b:Int):Int:=if a<b then -1 else if b<a then 1 else 0
def lessS (a b:ByteArray):Bool:=Op.bytesLess a.toList b.toList
def cmpS (a b:ByteArray):Int:=if a.size<b.size then -1 else if b.size<a.size then 1 else if a=b then 0 else if lessS a b=true then -1 else 1
def vcmp (a b:Vl):Int :=
 if a.kind≠b.kind then 0
 else if a.kind=1 then (if a.b=b.b then 0 else if b.b=true then -1 else 1)
 else if a.kind=2 then cmpI (zig a.i) (zig b.i)
 else if a.kind=3 then cmpS a.s b.s
 else if a.kind=4 then cmpI a.id b.id
 else 0
def zeroV (v:Vl):Bool :=
 (decide (v.kind=1)||!v.b)&&((decide (v.kind=2)||decide (v.i=0))&&((decide (v.kind=3)||decide (v.s=⟨#[]⟩))&&((decide (v.kind=4)||decide (v.kind=6)||decide (v.id=0))&&((decide (v.kind=8)||v.keys.isEmpty)&&((decide (5<=v.kind)||v.items.isEmpty)&&(decide (v.kind=5)||decide (v.kind=6)||v.rest.isEmpty))))))
def Vl.bare (v:Vl):Vl:=.mk v.kind (if v.kind=1 then v.b else false) (if v.kind=2 then v.i else 0) (if v.kind=3 then v.s else ⟨#[]⟩) (if v.kind=4\/v.kind=6 then v.id else 0)
 (if v.kind=8 then v.kn else true) (if v.kind=8 then v.keys else []) (if 5<=v.kind then v.xn else true) (if 5<=v.kind then v.items else []) (if v.kind=5\/v.kind=6 then v.rn else true) (if v.kind=5\/v.kind=6 then v.rest else [])

section
def ascV:List Vl->Bool
 | []=>true
 | [_]=>true
 | a :: b :: r=>decide (vcmp a b<0)&&ascV (b :: r)
def pairsV (f:Int->Vl->Bool):List Mem->List Vl->Bool
 | m :: r,v :: q=>f m.ty v&&pairsV f r q
 | _,_=>true
def unionFit (f:Int->Vl->Bool) (m:Option Mem) (known re:Bool):List Vl->Bool
 | [u]=>(match m with
  | some m=>known&&re&&f m.ty u
  | none=>false)
 | _=>false
def fitK (f:Int->Vl->Bool) (x:Typ) (v:Vl):Bool :=
 if x.kind=1 then true
 else if x.kind=2 then decide (x.low<=v.i)&&decide (v.i<=x.high)
 else if x.kind=3 then decide ((v.s.size:Int)<=x.max)
 else if x.kind=4 then decide (0<=symIx x.syms v.id)
 else if x.kind=5 then decide (v.items.length=x.mems.length)&&v.rest.isEmpty&&pairsV f x.mems v.items
 else if x.kind=6 then unionFit f x.mems[(memIx x.mems v.id).toNat]? (decide (0<=memIx x.mems v.id)) v.rest.isEmpty v.items
 else if x.kind=7 then decide ((v.items.length:Int)<=x.max)&&v.items.all (f x.elem)
 else if x.kind=8 then decide ((v.keys.length:Int)<=x.max)&&decide (v.items.length=v.keys.length)&&v.keys.all (f x.key)&&ascV v.keys&&v.items.all (f x.elem)
 else decide (v.items.length<=1)&&v.items.all (f x.elem)
def fitN (S:List Typ):Nat->Int->Vl->Bool
 | 0,_,_=>false
 | n + 1,t,v=>!outside S.length t&&(match S[t.toNat]? with
  | some x=>decide (v.kind=x.kind)&&zeroV v&&fitK (fitN S n) x v
  | none=>false)
mutual
/-- numbers that occur -/
def Vl.i64:Vl->Prop
 | .mk _ _ i _ _ _ ks _ xs _ _=>i64R i/\Vl.i64s ks/\Vl.i64s xs
def Vl.i64s:List Vl->Prop
 | []=>True
 | v :: r=>Vl.i64 v/\Vl.i64s r
end
section
variable (sn:Bool) (S:List Typ) (t:Int) (f:Vl->Bool)
end
end










noncomputable def plainV (S:List Typ) (t:Int) (v:Vl):Bool:=fitN S (SizeOf.sizeOf v + 1) t v
noncomputable def badM (S:List Typ) (m:Mem):Bool:=m.has&&!plainV S m.ty m.dflt
noncomputable def dfltI (S:List Typ) (t:Typ):Option Int:=(t.mems.find? (badM S)).map Mem.id
noncomputable def dfltsAt (S:List Typ):Nat->Nat->Option (Nat × Int)
 | 0,_=>none
 | n + 1,i=>match S[i]? with
  | some t=>(match dfltI S t with
   | some d=>some (i,d)
   | none=>dfltsAt S n (i + 1))
  | none=>none
def Typ.d64 (t:Typ):Prop:=∀ m∈t.mems,m.dflt.i64
def Sch.d64 (s:Sch):Prop:=∀ t∈s.types,t.d64
noncomputable def schErr (S:List Typ):Int:=if valid S=0 then (match dfltsAt S S.length 0 with
 | some _=>1
 | none=>0) else valid S
section
abbrev Vec:=Nat->Int
def inR (N:Nat) (v:Vec):Prop:=∀ j,j<N->0<=v j/\v j<=2
structure Grows (N:Nat) (F:Nat->Vec->Int):Prop where
 mono:∀ u v,inR N u->inR N v->(∀ j,j<N->u j<=v j)->∀ i,i<N->F i u<=F i v
 rng:∀ u,inR N u->∀ i,i<N->0<=F i u/\F i u<=2
structure Low (N:Nat) (F:Nat->Vec->Int) (v:Vec):Prop where
 rng:inR N v
 post:∀ j,j<N->v j<=F j v
 least:∀ m,inR N m->(∀ j,j<N->F j m<=m j)->∀ j,j<N->v j<=m j
section
variable {N:Nat} {F:Nat->Vec->Int}
theorem Low.zero (G:Grows N F):Low N F (fun _=>0):=by
 refine ⟨fun j hj=>by omega,fun j hj=>(G.rng _ (fun j hj=>by omega) j hj).1,fun m hm _ j hj=>(hm j hj).1⟩
end
end





theorem err_valid {S:List Typ} (h:schErr S=0):valid S=0:=by
 unfold schErr at h;by_cases h0:valid S=0
 ·exact h0
 ·rw [if_neg h0] at h; exact absurd h h0




structure SucI (x y:Typ) (out:List Pr) (s:MSt):Prop where
 e9:(s.env 9).v=.ptr 9 2 0
 e10:(s.env 10).v=.ptr 10 2 0
 e11:(s.env 11).v=.ptr 11 3 0
 e12:(s.env 12).v=.fn 135 [.ptr 11 3 0]
 m9:s.mem 9 2=some (typRow x)
 m10:s.mem 10 2=some (typRow y)
 m11:∃ an,s.mem 11 3=some (outRow out an)/\outAn out an
theorem SucI.of {x y:Typ} {out:List Pr} {s s':MSt} (h:SucI x y out s) (he:∀ t,9<=t->t<=12->(s'.env t).v=(s.env t).v) (hm:∀ t n,9<=t->t<=11->s'.mem t n=s.mem t n):SucI x y out s':=by
 obtain ⟨h1,h2,h3,h4,h5,h6,h7⟩:=h;exact ⟨by rw [he 9 (by omega) (by omega),h1],by rw [he 10 (by omega) (by omega),h2],by rw [he 11 (by omega) (by omega),h3],by rw [he 12 (by omega) (by omega),h4],by rw [hm 9 _ (by omega) (by omega),h5],by rw [hm 10 _ (by omega) (by omega),h6],by rw [hm 11 _ (by omega) (by omega)]; exact h7⟩

abbrev Ent:=Pr × List Pr × Int
structure EntOk (nx:Pr->List Pr) (p:Pr) (l:List Ent) (k:Nat) (e:Ent):Prop where
 bef:(k=0/\e=(p,[p],-1))\/(∃ j:Nat,j<k/\e.2.2=j/\∃ e',l[j]?=some e'/\e.2.1=e'.2.1++[e.1]/\e.1∈nx e'.1)
theorem EntOk.more {nx:Pr->List Pr} {p:Pr} {l:List Ent} {k:Nat} {e:Ent} (h:EntOk nx p l k e) (t:List Ent):EntOk nx p (l++t) k e:=by
 rcases h with ⟨h | ⟨j,h1,h2,e',h3,h4⟩⟩
 ·exact ⟨.inl h⟩
 ·exact ⟨.inr ⟨j,h1,h2,e',by rw [yC (yb.1 h3).1]; exact h3,h4⟩⟩












structure DrF (S:List Typ):Prop where
 fine:(⟨false,S⟩:Sch).fine
 d64:(⟨false,S⟩:Sch).d64
 err:schErr S=0
 sm:∀ x∈S,x.sm
 hol:∀ x∈S,∀ m∈x.mems,∃ k b i s d,m.dflt=.of k b i s d
 k56:∀ x∈S,∀ m∈x.mems,m.has=true->∀ y,S[m.ty.toNat]?=some y->y.kind≠5/\y.kind≠6
theorem DrF.val {S:List Typ} (h:DrF S):valid S=0:=err_valid h.err

section
open Go Go.RowKit Go.ChangeShapes Go.WideShapes
theorem mixed:Tryz.prog.follows .mixedOrders=true:=by kernel_rfl
theorem u8_of {n:Int} (h:(Lit.int .u8 n).wf=true):u8 n:=by
 simp only [Lit.wf,y8,decide_eq_true_eq] at h;have h1:IntKind.u8.min=0:=rfl;have h2:IntKind.u8.max=255:=rfl;exact ⟨by omega,by omega⟩
theorem q4a {H:Type} {P:Program} {m:Nat}:∀ {ts us:List TypeId} {ds gs:List (DataW H)},m∈DataW.weightsEach P ts ds->ts.length=ds.length->m∈DataW.weightsEach P (ts++us) (ds++gs)
 | [],_,[],_,h,_=>by simp [DataW.weightsEach] at h
 | [],_,_ :: _,_,_,h=>by simp at h
 | _ :: _,_,[],_,_,h=>by simp at h
 | t :: ts,us,d :: ds,gs,h,hl=>by
  simp only [DataW.weightsEach,List.mem_append,List.cons_append] at h ⊢;rcases h with h | h
  ·exact .inl h
  ·exact .inr (q4a h (by simpa using hl))
theorem list_T {α:Type} {P:List AV->Prop} {f:α->List AV} {p:α->Prop} (h:∀ x,P x->∃ o,x=f o/\p o):∀ els:List (List AV),(∀ x∈els,P x)->∃ L:List α,els=L.map f/\∀ o∈L,p o
 | [],_=>⟨[],rfl,fun _ h=>by cases h⟩
 | x :: r,hx=>by
  obtain ⟨L,h1,h2⟩:=list_T h r fun y hy=>hx y (ym _ hy)
  obtain ⟨o,h3,h4⟩:=h x (hx x yd);refine ⟨o :: L,by rw [h1,h3]; rfl,fun y hy=>?_⟩;rcases yu.1 hy with rfl | hy
  ·exact h4
  ·exact h2 y hy
end
abbrev Tbl:=List (Bool × List Bool)
def tbC (r:Bool × List Bool):List AV:=[.sl r.1 (r.2.map fun b=>[.bool b])]
def entP (l:Tbl) (i j:Nat):Bool:=match l[i]? with
 | some r=>r.2.getD j false
 | none=>false
def inS (S j:Nat):Bool:=decide (S / 2 ^ j % 2=1)
def q0w (ok:Nat->Bool):Nat->Nat
 | 0=>0
 | k + 1=>if ok k then q0w ok k ||| 2 ^ k else q0w ok k
def allS (S:Nat) (e:Nat->Bool):Nat->Bool
 | 0=>true
 | j + 1=>allS S e j&&(!inS S j||e j)
def rdP (l:Tbl) (S:Nat):Nat:=q0w (fun k=>allS S (fun j=>entP l j k) (min l.length 8)) (min l.length 8)
def wrP (l:Tbl) (S:Nat):Nat:=q0w (fun k=>allS S (fun j=>entP l k j) (min l.length 8)) (min l.length 8)
theorem q35 (ok:Nat->Bool):∀ k,q0w ok k<2 ^ k
 | 0=>by simp [q0w]
 | k + 1=>by
  have:=q35 ok k;have h2:2 ^ k<2 ^ (k + 1):=Nat.pow_lt_pow_right (by omega) (by omega);unfold q0w;split
  ·exact Nat.or_lt_two_pow (by omega) h2
  ·omega
theorem q0y {k:IntKind} {a b:Int}:binC .lss false (.int k a) (.int k b)=some (.bool (decide (a<b))):=by simp [binC]
theorem q0B {k:IntKind} {a b:Int}:binC .eql false (.int k a) (.int k b)=some (.bool (decide (a=b))):=by simp [binC]
theorem q0N {a b:Int}:binC .add false (.int .i64 a) (.int .i64 b)=some (.int .i64 (IntKind.i64.wrap (a + b))):=by simp [binC]
theorem shrK_tab:(List.range 256).all (fun s=>(List.range 8).all fun j=>AV.beqO (binC .shr false (.int .u8 s) (.int .i64 j)) (some (.int .u8 (s / 2 ^ j:Nat))))=true:=by decide +kernel
theorem andK_tab:(List.range 256).all (fun s=>AV.beqO (binC .and false (.int .u8 s) (.int .u8 1)) (some (.int .u8 (s % 2:Nat))))=true:=by decide +kernel
theorem shlK_tab:(List.range 8).all (fun j=>AV.beqO (binC .shl false (.int .u8 1) (.int .i64 j)) (some (.int .u8 (2 ^ j:Nat))))=true:=by decide +kernel
theorem orK_tab:(List.range 256).all (fun s=>(List.range 8).all fun j=>AV.beqO (binC .or false (.int .u8 s) (.int .u8 (2 ^ j:Nat))) (some (.int .u8 (s ||| 2 ^ j:Nat))))=true:=by decide +kernel
theorem shrK_ev {s j:Nat} (hs:s<256) (hj:j<8):binC .shr false (.int .u8 s) (.int .i64 j)=some (.int .u8 (s / 2 ^ j:Nat)):=AV.beqO_eq _ _ (y5.1 (y5.1 shrK_tab s (List.mem_range.2 hs)) j (List.mem_range.2 hj))
theorem andK_ev {s:Nat} (hs:s<256):binC .and false (.int .u8 s) (.int .u8 1)=some (.int .u8 (s % 2:Nat)):=AV.beqO_eq _ _ (y5.1 andK_tab s (List.mem_range.2 hs))
theorem shlK_ev {j:Nat} (hj:j<8):binC .shl false (.int .u8 1) (.int .i64 j)=some (.int .u8 (2 ^ j:Nat)):=AV.beqO_eq _ _ (y5.1 shlK_tab j (List.mem_range.2 hj))
theorem orK_ev {s j:Nat} (hs:s<256) (hj:j<8):binC .or false (.int .u8 s) (.int .u8 (2 ^ j:Nat))=some (.int .u8 (s ||| 2 ^ j:Nat)):=AV.beqO_eq _ _ (y5.1 (y5.1 orK_tab s (List.mem_range.2 hs)) j (List.mem_range.2 hj))
theorem in24_ev {s j:Nat} (hs:s<256) (hj:j<8):evA 112 [.int .u8 s,.int .i64 j] (.bool (inS s j)):=by
 refine q2b (c:=q2P) rfl rfl ?_;have q1:=shrK_ev hs hj;have hd:s / 2 ^ j<256:=Nat.lt_of_le_of_lt (Nat.div_le_self _ _) hs;have q2:=andK_ev hd;unfold inS;generalize s / 2 ^ j=x at *
 have hb:x % 2<2:=Nat.mod_lt _ (by omega);generalize x % 2=y at *
 by_cases hy:y=1
 ·subst hy;simp only [show ((1:Nat):Int)=1 from rfl] at q2;simp [q2P,-y0,-y7,-y3,y6,-binC,q0B,q1,q2]
 ·have hy0:y=0:=by omega
  subst hy0;simp only [show ((0:Nat):Int)=0 from rfl] at q2;simp [q2P,-y0,-y7,-y3,y6,-binC,q0B,q1,q2]
theorem pent_ev (nl:Bool) (l:Tbl) {i j:Nat} (hi:i<l.length):evA 111 [.sl nl (l.map tbC),.int .i64 i,.int .i64 j] (.bool (entP l i j)):=by
 refine q2b (c:=q0U) rfl rfl ?_;have g1:(l.map tbC)[i]?=some (tbC l[i]):=by simp [hi]
 have he:entP l i j=(l[i]).2.getD j false:=by unfold entP; rw [yj hi]
 rw [he];generalize l[i]=r at *
 obtain ⟨b,q⟩:=r;simp only [tbC] at g1;by_cases h:j<q.length
 ·have h':(j:Int)<q.length:=by omega
  have g2:(q.map fun b=>[AV.bool b])[j]?=some [.bool q[j]]:=by simp [h]
  have g3:q.getD j false=q[j]:=by simp [h]
  simp only [g3];generalize q[j]=z at *
  simp [q0U,-y0,-y7,-y3,y6,-binC,q0y,g1,g2,h']
 ·have h':¬ (j:Int)<q.length:=by omega
  have g3:q.getD j false=false:=by simp [h]
  simp only [g3];simp [q0U,-y0,-y7,-y3,y6,-binC,q0y,g1,h']
theorem rent_ev (nl:Bool) (l:Tbl) {i j:Nat} (hi:i<l.length):evA 113 [.sl nl (l.map tbC),.int .i64 i,.int .i64 j] (.bool (entP l i j)):=by
 refine q2b (c:=q1n) rfl rfl ?_;have g1:(l.map tbC)[i]?=some (tbC l[i]):=by simp [hi]
 have he:entP l i j=(l[i]).2.getD j false:=by unfold entP; rw [yj hi]
 rw [he];generalize l[i]=r at *
 obtain ⟨b,q⟩:=r;simp only [tbC] at g1;by_cases h:j<q.length
 ·have h':(j:Int)<q.length:=by omega
  have g2:(q.map fun b=>[AV.bool b])[j]?=some [.bool q[j]]:=by simp [h]
  have g3:q.getD j false=q[j]:=by simp [h]
  simp only [g3];generalize q[j]=z at *
  simp [q1n,-y0,-y7,-y3,y6,-binC,q0y,g1,g2,h']
 ·have h':¬ (j:Int)<q.length:=by omega
  have g3:q.getD j false=false:=by simp [h]
  simp only [g3];simp [q1n,-y0,-y7,-y3,y6,-binC,q0y,g1,h']
def prdI (nl:Bool) (l:Tbl) (S k M n:Nat) (s:MSt):Prop:=(s.env 0).v=.sl nl (l.map tbC)/\(s.env 1).v=.int .u8 S/\(s.env 7).v=.int .i64 k/\(s.env 6).v=.int .u8 M/\(s.env 5).v=.int .i64 n/\(s.env 13).v=.int .i64 n/\(s.env 14).v=.int .i64 k
theorem prd_in {rv:RV} {nl:Bool} {l:Tbl} {S k M n:Nat} (hS:S<256) (hn:n<=l.length) (hn8:n<=8) (hkn:k<n) (s:MSt) (h:prdI nl l S k M n s) (e17:(s.env 17).v=.int .i64 n) (eJ:(s.env 18).v=.int .i64 0) (e8:(s.env 8).v=.bool true) (kk:Ex->MSt->Option RV)
  (hk:∀ s',prdI nl l S k M n s'->(s'.env 8).v=.bool (allS S (fun j=>entP l j k) n)->kk (.exit 2) s'=some rv):evL allT q00 q0z s kk=some rv:=by
 refine q33 n (fun j s=>prdI nl l S k M n s/\(s.env 17).v=.int .i64 n/\(s.env 18).v=.int .i64 j/\(s.env 8).v=.bool (allS S (fun j=>entP l j k) j))
  (fun e s=>e=.exit 2/\prdI nl l S k M n s/\(s.env 8).v=.bool (allS S (fun j=>entP l j k) n)) (fun j hj s k' h ih hk=>?_) _ _ ⟨h,e17,eJ,e8⟩ (fun e s h=>by obtain ⟨rfl,h1,h2⟩:=h; exact hk _ h1 h2)
 obtain ⟨⟨e0,e1,e7,eM,e5,e13,e14⟩,e17,eJ,e8⟩:=h;refine q1p ?_;by_cases hlt:j<n
 ·have hlt':(j:Int)<n:=by omega
  have hw:=wrap1 (i:=j) (by omega);have q3:=pent_ev nl l (i:=j) (j:=k) (by omega);have q1:=shrK_ev hS (j:=j) (by omega);have hd:S / 2 ^ j<256:=Nat.lt_of_le_of_lt (Nat.div_le_self _ _) hS;have q2:=andK_ev hd;have hin:inS S j=decide (S / 2 ^ j % 2=1):=rfl;generalize S / 2 ^ j=x at *
  have hb:x % 2<2:=Nat.mod_lt _ (by omega);generalize x % 2=y at *
  have hst:allS S (fun j=>entP l j k) (j + 1)=(allS S (fun j=>entP l j k) j&&(!inS S j||entP l j k)):=rfl;rw [hst] at ih;generalize allS S (fun j=>entP l j k) j=acc at *
  generalize entP l j k=en at *
  have hyy:y=0\/y=1:=by omega
  simp only [evA] at q3;rcases hyy with rfl | rfl
  all_goals
   simp only [show ((0:Nat):Int)=0 from rfl,show ((1:Nat):Int)=1 from rfl] at q2;rw [hin] at ih;cases acc <;> cases en
   all_goals
    simp [q0z,-y0,-y7,-y3,y6,-binC,q0y,q0N,q0B,e0,e1,e7,eM,e5,e13,e14,e17,eJ,e8,hlt',hw,q1,q2,q3];refine ih hlt _ ⟨⟨?_,?_,?_,?_,?_,?_,?_⟩,?_,?_,?_⟩
    all_goals simp [e0,e1,e7,eM,e5,e13,e14,e17,eJ,e8]
 ·have hjn:j=n:=by omega
  subst hjn;simp [q0z,-y0,-y7,-y3,y6,-binC,q0y,q0N,q0B,e0,e1,e7,eM,e5,e13,e14,e17,eJ,e8];refine hk _ _ ⟨rfl,⟨?_,?_,?_,?_,?_,?_,?_⟩,?_⟩
  all_goals simp [e0,e1,e7,eM,e5,e13,e14,e17,eJ,e8]
theorem prd_ev (nl:Bool) (l:Tbl) {S:Nat} (hS:S<256) (hl:l.length<=10):evA 61 [.sl nl (l.map tbC),.int .u8 S] (.int .u8 (rdP l S:Nat)):=by
 refine q2b (c:=q0X) rfl rfl ?_;have hmn:min ((l.length:Nat):Int) 8=((min l.length 8:Nat):Int):=by omega
 have hmn':min 8 ((l.length:Nat):Int)=((min l.length 8:Nat):Int):=by omega
 have hn:min l.length 8<=l.length:=by omega
 have hn8:min l.length 8<=8:=by omega
 unfold rdP;simp [q0X,-y0,-y7,-y3,y6,hmn,hmn'];generalize min l.length 8=n at *
 refine q33 n (fun k s=>(s.env 0).v=.sl nl (l.map tbC)/\(s.env 1).v=.int .u8 S/\(s.env 5).v=.int .i64 n/\(s.env 13).v=.int .i64 n/\(s.env 14).v=.int .i64 k/\(s.env 6).v=.int .u8 (q0w (fun k=>allS S (fun j=>entP l j k) n) k:Nat))
  (fun e s=>e=.exit 0/\(s.env 6).v=.int .u8 (q0w (fun k=>allS S (fun j=>entP l j k) n) n:Nat)) (fun k hk0 s k' h ih hk=>?_) _ _ ?_ (fun e s h=>?_)
 ·obtain ⟨e0,e1,e5,e13,e14,eM⟩:=h;refine q1p ?_;by_cases hlt:k<n
  ·have hlt':(k:Int)<n:=by omega
   have hw:=wrap1 (i:=k) (by omega);have q4:=shlK_ev (j:=k) (by omega);have hM8:q0w (fun k=>allS S (fun j=>entP l j k) n) k<256:=yw (q35 _ _) (ye (Nat.pow_le_pow_right (by omega) (show k<=8 by omega)) (by decide));have q5:=orK_ev (j:=k) hM8 (by omega);have hst:q0w (fun k=>allS S (fun j=>entP l j k) n) (k + 1)=if allS S (fun j=>entP l j k) n then q0w (fun k=>allS S (fun j=>entP l j k) n) k ||| 2 ^ k else q0w (fun k=>allS S (fun j=>entP l j k) n) k:=rfl
   rw [hst] at ih;generalize q0w (fun k=>allS S (fun j=>entP l j k) n) k=M at *
   simp [q10,-y0,-y7,-y3,y6,-binC,q0y,q0N,q0B,e0,e1,e5,e13,e14,eM,hlt];refine prd_in (nl:=nl) (l:=l) (S:=S) (k:=k) (M:=M) (n:=n) hS hn hn8 hlt _ ⟨?_,?_,?_,?_,?_,?_,?_⟩ ?_ ?_ ?_ _ (fun s' h' e8=>?_)
   all_goals try (simp [e0,e1,e5,e13,e14,eM,hlt]; done)
   obtain ⟨e0,e1,e7,eM,e5,e13,e14⟩:=h';generalize allS S (fun j=>entP l j k) n=z at *
   generalize (2 ^ k:Nat)=p at *
   generalize M ||| p=Mp at *
   cases z
   ·simp [-y0,-y7,-y3,y6,-binC,q0y,q0N,q0B,e0,e1,e5,e7,e13,e14,eM,e8,hw];refine ih hlt _ ⟨?_,?_,?_,?_,?_,?_⟩
    all_goals simp [e0,e1,e5,e7,e13,e14,eM]
   ·simp [-y0,-y7,-y3,y6,-binC,q0y,q0N,q0B,e0,e1,e5,e7,e13,e14,eM,e8,hw,q4,q5];refine ih hlt _ ⟨?_,?_,?_,?_,?_,?_⟩
    all_goals simp [e0,e1,e5,e7,e13,e14,eM]
  ·have hkn:k=n:=by omega
   subst hkn;simp [q10,-y0,-y7,-y3,y6,-binC,q0y,q0N,q0B,e0,e1,e5,e13,e14,eM,hlt];exact hk _ _ ⟨rfl,by simp [eM]⟩
 ·simp [q0w]
 ·obtain ⟨rfl,h⟩:=h;simp [-y0,-y7,-y3,y6,h]
def pwrI (nl:Bool) (l:Tbl) (S k M n:Nat) (s:MSt):Prop:=(s.env 0).v=.sl nl (l.map tbC)/\(s.env 1).v=.int .u8 S/\(s.env 7).v=.int .i64 k/\(s.env 6).v=.int .u8 M/\(s.env 5).v=.int .i64 n/\(s.env 13).v=.int .i64 n/\(s.env 14).v=.int .i64 k
theorem pwr_in {rv:RV} {nl:Bool} {l:Tbl} {S k M n:Nat} (hS:S<256) (hn:n<=l.length) (hn8:n<=8) (hkn:k<n) (s:MSt) (h:pwrI nl l S k M n s) (e17:(s.env 17).v=.int .i64 n) (eJ:(s.env 18).v=.int .i64 0) (e8:(s.env 8).v=.bool true) (kk:Ex->MSt->Option RV)
  (hk:∀ s',pwrI nl l S k M n s'->(s'.env 8).v=.bool (allS S (fun j=>entP l k j) n)->kk (.exit 2) s'=some rv):evL allT q00 q0A s kk=some rv:=by
 refine q33 n (fun j s=>pwrI nl l S k M n s/\(s.env 17).v=.int .i64 n/\(s.env 18).v=.int .i64 j/\(s.env 8).v=.bool (allS S (fun j=>entP l k j) j))
  (fun e s=>e=.exit 2/\pwrI nl l S k M n s/\(s.env 8).v=.bool (allS S (fun j=>entP l k j) n)) (fun j hj s k' h ih hk=>?_) _ _ ⟨h,e17,eJ,e8⟩ (fun e s h=>by obtain ⟨rfl,h1,h2⟩:=h; exact hk _ h1 h2)
 obtain ⟨⟨e0,e1,e7,eM,e5,e13,e14⟩,e17,eJ,e8⟩:=h;refine q1p ?_;by_cases hlt:j<n
 ·have hlt':(j:Int)<n:=by omega
  have hw:=wrap1 (i:=j) (by omega);have q3:=pent_ev nl l (i:=k) (j:=j) (by omega);have q1:=shrK_ev hS (j:=j) (by omega);have hd:S / 2 ^ j<256:=Nat.lt_of_le_of_lt (Nat.div_le_self _ _) hS;have q2:=andK_ev hd;have hin:inS S j=decide (S / 2 ^ j % 2=1):=rfl;generalize S / 2 ^ j=x at *
  have hb:x % 2<2:=Nat.mod_lt _ (by omega);generalize x % 2=y at *
  have hst:allS S (fun j=>entP l k j) (j + 1)=(allS S (fun j=>entP l k j) j&&(!inS S j||entP l k j)):=rfl;rw [hst] at ih;generalize allS S (fun j=>entP l k j) j=acc at *
  generalize entP l k j=en at *
  have hyy:y=0\/y=1:=by omega
  simp only [evA] at q3;rcases hyy with rfl | rfl
  all_goals
   simp only [show ((0:Nat):Int)=0 from rfl,show ((1:Nat):Int)=1 from rfl] at q2;rw [hin] at ih;cases acc <;> cases en
   all_goals
    simp [q0A,-y0,-y7,-y3,y6,-binC,q0y,q0N,q0B,e0,e1,e7,eM,e5,e13,e14,e17,eJ,e8,hlt',hw,q1,q2,q3];refine ih hlt _ ⟨⟨?_,?_,?_,?_,?_,?_,?_⟩,?_,?_,?_⟩
    all_goals simp [e0,e1,e7,eM,e5,e13,e14,e17,eJ,e8]
 ·have hjn:j=n:=by omega
  subst hjn;simp [q0A,-y0,-y7,-y3,y6,-binC,q0y,q0N,q0B,e0,e1,e7,eM,e5,e13,e14,e17,eJ,e8];refine hk _ _ ⟨rfl,⟨?_,?_,?_,?_,?_,?_,?_⟩,?_⟩
  all_goals simp [e0,e1,e7,eM,e5,e13,e14,e17,eJ,e8]
theorem pwr_ev (nl:Bool) (l:Tbl) {S:Nat} (hS:S<256) (hl:l.length<=10):evA 63 [.sl nl (l.map tbC),.int .u8 S] (.int .u8 (wrP l S:Nat)):=by
 refine q2b (c:=q0Y) rfl rfl ?_;have hmn:min ((l.length:Nat):Int) 8=((min l.length 8:Nat):Int):=by omega
 have hmn':min 8 ((l.length:Nat):Int)=((min l.length 8:Nat):Int):=by omega
 have hn:min l.length 8<=l.length:=by omega
 have hn8:min l.length 8<=8:=by omega
 unfold wrP;simp [q0Y,-y0,-y7,-y3,y6,hmn,hmn'];generalize min l.length 8=n at *
 refine q33 n (fun k s=>(s.env 0).v=.sl nl (l.map tbC)/\(s.env 1).v=.int .u8 S/\(s.env 5).v=.int .i64 n/\(s.env 13).v=.int .i64 n/\(s.env 14).v=.int .i64 k/\(s.env 6).v=.int .u8 (q0w (fun k=>allS S (fun j=>entP l k j) n) k:Nat))
  (fun e s=>e=.exit 0/\(s.env 6).v=.int .u8 (q0w (fun k=>allS S (fun j=>entP l k j) n) n:Nat)) (fun k hk0 s k' h ih hk=>?_) _ _ ?_ (fun e s h=>?_)
 ·obtain ⟨e0,e1,e5,e13,e14,eM⟩:=h;refine q1p ?_;by_cases hlt:k<n
  ·have hlt':(k:Int)<n:=by omega
   have hw:=wrap1 (i:=k) (by omega);have q4:=shlK_ev (j:=k) (by omega);have hM8:q0w (fun k=>allS S (fun j=>entP l k j) n) k<256:=yw (q35 _ _) (ye (Nat.pow_le_pow_right (by omega) (show k<=8 by omega)) (by decide));have q5:=orK_ev (j:=k) hM8 (by omega);have hst:q0w (fun k=>allS S (fun j=>entP l k j) n) (k + 1)=if allS S (fun j=>entP l k j) n then q0w (fun k=>allS S (fun j=>entP l k j) n) k ||| 2 ^ k else q0w (fun k=>allS S (fun j=>entP l k j) n) k:=rfl
   rw [hst] at ih;generalize q0w (fun k=>allS S (fun j=>entP l k j) n) k=M at *
   simp [q11,-y0,-y7,-y3,y6,-binC,q0y,q0N,q0B,e0,e1,e5,e13,e14,eM,hlt];refine pwr_in (nl:=nl) (l:=l) (S:=S) (k:=k) (M:=M) (n:=n) hS hn hn8 hlt _ ⟨?_,?_,?_,?_,?_,?_,?_⟩ ?_ ?_ ?_ _ (fun s' h' e8=>?_)
   all_goals try (simp [e0,e1,e5,e13,e14,eM,hlt]; done)
   obtain ⟨e0,e1,e7,eM,e5,e13,e14⟩:=h';generalize allS S (fun j=>entP l k j) n=z at *
   generalize (2 ^ k:Nat)=p at *
   generalize M ||| p=Mp at *
   cases z
   ·simp [-y0,-y7,-y3,y6,-binC,q0y,q0N,q0B,e0,e1,e5,e7,e13,e14,eM,e8,hw];refine ih hlt _ ⟨?_,?_,?_,?_,?_,?_⟩
    all_goals simp [e0,e1,e5,e7,e13,e14,eM]
   ·simp [-y0,-y7,-y3,y6,-binC,q0y,q0N,q0B,e0,e1,e5,e7,e13,e14,eM,e8,hw,q4,q5];refine ih hlt _ ⟨?_,?_,?_,?_,?_,?_⟩
    all_goals simp [e0,e1,e5,e7,e13,e14,eM]
  ·have hkn:k=n:=by omega
   subst hkn;simp [q11,-y0,-y7,-y3,y6,-binC,q0y,q0N,q0B,e0,e1,e5,e13,e14,eM,hlt];exact hk _ _ ⟨rfl,by simp [eM]⟩
 ·simp [q0w]
 ·obtain ⟨rfl,h⟩:=h;simp [-y0,-y7,-y3,y6,h]
def rrdI (nl:Bool) (l:Tbl) (S k M n:Nat) (s:MSt):Prop:=(s.env 0).v=.sl nl (l.map tbC)/\(s.env 1).v=.int .u8 S/\(s.env 7).v=.int .i64 k/\(s.env 5).v=.int .u8 M/\(s.env 6).v=.int .i64 n
theorem rrd_in {rv:RV} {nl:Bool} {l:Tbl} {S k M n:Nat} (hS:S<256) (hn:n<=l.length) (hn8:n<=8) (hkn:k<n) (s:MSt) (h:rrdI nl l S k M n s) (eJ:(s.env 9).v=.int .i64 0) (e8:(s.env 8).v=.bool true) (kk:Ex->MSt->Option RV)
  (hk:∀ s',rrdI nl l S k M n s'->(s'.env 8).v=.bool (allS S (fun j=>entP l j k) n)->kk (.exit 2) s'=some rv):evL allT q00 q0O s kk=some rv:=by
 refine q33 n (fun j s=>rrdI nl l S k M n s/\(s.env 9).v=.int .i64 j/\(s.env 8).v=.bool (allS S (fun j=>entP l j k) j))
  (fun e s=>e=.exit 2/\rrdI nl l S k M n s/\(s.env 8).v=.bool (allS S (fun j=>entP l j k) n)) (fun j hj s k' h ih hk=>?_) _ _ ⟨h,eJ,e8⟩ (fun e s h=>by obtain ⟨rfl,h1,h2⟩:=h; exact hk _ h1 h2)
 obtain ⟨⟨e0,e1,e7,eM,e6⟩,eJ,e8⟩:=h;refine q1p ?_;by_cases hlt:j<n
 ·have hlt':(j:Int)<n:=by omega
  have hw:=wrap1 (i:=j) (by omega);have q3:=rent_ev nl l (i:=j) (j:=k) (by omega);have q1:=in24_ev hS (j:=j) (by omega);have hst:allS S (fun j=>entP l j k) (j + 1)=(allS S (fun j=>entP l j k) j&&(!inS S j||entP l j k)):=rfl;rw [hst] at ih;generalize allS S (fun j=>entP l j k) j=acc at *
  generalize entP l j k=en at *
  generalize inS S j=y at *
  simp only [evA] at q1 q3;cases acc <;> cases en <;> cases y
  all_goals
   simp [q0O,-y0,-y7,-y3,y6,-binC,q0y,q0N,q0B,e0,e1,e7,eM,e6,eJ,e8,hlt',hw,q1,q3];refine ih hlt _ ⟨⟨?_,?_,?_,?_,?_⟩,?_,?_⟩
   all_goals simp [e0,e1,e7,eM,e6,eJ,e8]
 ·have hjn:j=n:=by omega
  subst hjn;simp [q0O,-y0,-y7,-y3,y6,-binC,q0y,q0N,q0B,e0,e1,e7,eM,e6,eJ,e8];refine hk _ _ ⟨rfl,⟨?_,?_,?_,?_,?_⟩,?_⟩
  all_goals simp [e0,e1,e7,eM,e6,eJ,e8]
theorem rrd_ev (nl:Bool) (l:Tbl) {S:Nat} (hS:S<256) (hl:l.length<=10):evA 62 [.sl nl (l.map tbC),.int .u8 S] (.int .u8 (rdP l S:Nat)):=by
 refine q2b (c:=q1j) rfl rfl ?_;have hmn:min ((l.length:Nat):Int) 8=((min l.length 8:Nat):Int):=by omega
 have hmn':min 8 ((l.length:Nat):Int)=((min l.length 8:Nat):Int):=by omega
 have hn:min l.length 8<=l.length:=by omega
 have hn8:min l.length 8<=8:=by omega
 unfold rdP;simp [q1j,-y0,-y7,-y3,y6,hmn,hmn'];generalize min l.length 8=n at *
 refine q33 n (fun k s=>(s.env 0).v=.sl nl (l.map tbC)/\(s.env 1).v=.int .u8 S/\(s.env 6).v=.int .i64 n/\(s.env 7).v=.int .i64 k/\(s.env 5).v=.int .u8 (q0w (fun k=>allS S (fun j=>entP l j k) n) k:Nat))
  (fun e s=>e=.exit 0/\(s.env 5).v=.int .u8 (q0w (fun k=>allS S (fun j=>entP l j k) n) n:Nat)) (fun k hk0 s k' h ih hk=>?_) _ _ ?_ (fun e s h=>?_)
 ·obtain ⟨e0,e1,e6,e7,eM⟩:=h;refine q1p ?_;by_cases hlt:k<n
  ·have hlt':(k:Int)<n:=by omega
   have hw:=wrap1 (i:=k) (by omega);have q4:=shlK_ev (j:=k) (by omega);have hM8:q0w (fun k=>allS S (fun j=>entP l j k) n) k<256:=yw (q35 _ _) (ye (Nat.pow_le_pow_right (by omega) (show k<=8 by omega)) (by decide));have q5:=orK_ev (j:=k) hM8 (by omega);have hst:q0w (fun k=>allS S (fun j=>entP l j k) n) (k + 1)=if allS S (fun j=>entP l j k) n then q0w (fun k=>allS S (fun j=>entP l j k) n) k ||| 2 ^ k else q0w (fun k=>allS S (fun j=>entP l j k) n) k:=rfl
   rw [hst] at ih;generalize q0w (fun k=>allS S (fun j=>entP l j k) n) k=M at *
   simp [q1k,-y0,-y7,-y3,y6,-binC,q0y,q0N,q0B,e0,e1,e6,e7,eM,hlt];refine rrd_in (nl:=nl) (l:=l) (S:=S) (k:=k) (M:=M) (n:=n) hS hn hn8 hlt _ ⟨?_,?_,?_,?_,?_⟩ ?_ ?_ _ (fun s' h' e8=>?_)
   all_goals try (simp [e0,e1,e6,e7,eM,hlt]; done)
   obtain ⟨e0,e1,e7,eM,e6⟩:=h';generalize allS S (fun j=>entP l j k) n=z at *
   generalize (2 ^ k:Nat)=p at *
   generalize M ||| p=Mp at *
   cases z
   ·simp [-y0,-y7,-y3,y6,-binC,q0y,q0N,q0B,e0,e1,e6,e7,eM,e8,hw];refine ih hlt _ ⟨?_,?_,?_,?_,?_⟩
    all_goals simp [e0,e1,e6,e7,eM]
   ·simp [-y0,-y7,-y3,y6,-binC,q0y,q0N,q0B,e0,e1,e6,e7,eM,e8,hw,q4,q5];refine ih hlt _ ⟨?_,?_,?_,?_,?_⟩
    all_goals simp [e0,e1,e6,e7,eM]
  ·have hkn:k=n:=by omega
   subst hkn;simp [q1k,-y0,-y7,-y3,y6,-binC,q0y,q0N,q0B,e0,e1,e6,e7,eM,hlt];exact hk _ _ ⟨rfl,by simp [eM]⟩
 ·simp [q0w]
 ·obtain ⟨rfl,h⟩:=h;simp [-y0,-y7,-y3,y6,h]
def rwrI (nl:Bool) (l:Tbl) (S k M n:Nat) (s:MSt):Prop:=(s.env 0).v=.sl nl (l.map tbC)/\(s.env 1).v=.int .u8 S/\(s.env 7).v=.int .i64 k/\(s.env 5).v=.int .u8 M/\(s.env 6).v=.int .i64 n
theorem rwr_in {rv:RV} {nl:Bool} {l:Tbl} {S k M n:Nat} (hS:S<256) (hn:n<=l.length) (hn8:n<=8) (hkn:k<n) (s:MSt) (h:rwrI nl l S k M n s) (eJ:(s.env 9).v=.int .i64 0) (e8:(s.env 8).v=.bool true) (kk:Ex->MSt->Option RV)
  (hk:∀ s',rwrI nl l S k M n s'->(s'.env 8).v=.bool (allS S (fun j=>entP l k j) n)->kk (.exit 2) s'=some rv):evL allT q00 q0P s kk=some rv:=by
 refine q33 n (fun j s=>rwrI nl l S k M n s/\(s.env 9).v=.int .i64 j/\(s.env 8).v=.bool (allS S (fun j=>entP l k j) j))
  (fun e s=>e=.exit 2/\rwrI nl l S k M n s/\(s.env 8).v=.bool (allS S (fun j=>entP l k j) n)) (fun j hj s k' h ih hk=>?_) _ _ ⟨h,eJ,e8⟩ (fun e s h=>by obtain ⟨rfl,h1,h2⟩:=h; exact hk _ h1 h2)
 obtain ⟨⟨e0,e1,e7,eM,e6⟩,eJ,e8⟩:=h;refine q1p ?_;by_cases hlt:j<n
 ·have hlt':(j:Int)<n:=by omega
  have hw:=wrap1 (i:=j) (by omega);have q3:=rent_ev nl l (i:=k) (j:=j) (by omega);have q1:=in24_ev hS (j:=j) (by omega);have hst:allS S (fun j=>entP l k j) (j + 1)=(allS S (fun j=>entP l k j) j&&(!inS S j||entP l k j)):=rfl;rw [hst] at ih;generalize allS S (fun j=>entP l k j) j=acc at *
  generalize entP l k j=en at *
  generalize inS S j=y at *
  simp only [evA] at q1 q3;cases acc <;> cases en <;> cases y
  all_goals
   simp [q0P,-y0,-y7,-y3,y6,-binC,q0y,q0N,q0B,e0,e1,e7,eM,e6,eJ,e8,hlt',hw,q1,q3];refine ih hlt _ ⟨⟨?_,?_,?_,?_,?_⟩,?_,?_⟩
   all_goals simp [e0,e1,e7,eM,e6,eJ,e8]
 ·have hjn:j=n:=by omega
  subst hjn;simp [q0P,-y0,-y7,-y3,y6,-binC,q0y,q0N,q0B,e0,e1,e7,eM,e6,eJ,e8];refine hk _ _ ⟨rfl,⟨?_,?_,?_,?_,?_⟩,?_⟩
  all_goals simp [e0,e1,e7,eM,e6,eJ,e8]
theorem rwr_ev (nl:Bool) (l:Tbl) {S:Nat} (hS:S<256) (hl:l.length<=10):evA 64 [.sl nl (l.map tbC),.int .u8 S] (.int .u8 (wrP l S:Nat)):=by
 refine q2b (c:=q1l) rfl rfl ?_;have hmn:min ((l.length:Nat):Int) 8=((min l.length 8:Nat):Int):=by omega
 have hmn':min 8 ((l.length:Nat):Int)=((min l.length 8:Nat):Int):=by omega
 have hn:min l.length 8<=l.length:=by omega
 have hn8:min l.length 8<=8:=by omega
 unfold wrP;simp [q1l,-y0,-y7,-y3,y6,hmn,hmn'];generalize min l.length 8=n at *
 refine q33 n (fun k s=>(s.env 0).v=.sl nl (l.map tbC)/\(s.env 1).v=.int .u8 S/\(s.env 6).v=.int .i64 n/\(s.env 7).v=.int .i64 k/\(s.env 5).v=.int .u8 (q0w (fun k=>allS S (fun j=>entP l k j) n) k:Nat))
  (fun e s=>e=.exit 0/\(s.env 5).v=.int .u8 (q0w (fun k=>allS S (fun j=>entP l k j) n) n:Nat)) (fun k hk0 s k' h ih hk=>?_) _ _ ?_ (fun e s h=>?_)
 ·obtain ⟨e0,e1,e6,e7,eM⟩:=h;refine q1p ?_;by_cases hlt:k<n
  ·have hlt':(k:Int)<n:=by omega
   have hw:=wrap1 (i:=k) (by omega);have q4:=shlK_ev (j:=k) (by omega);have hM8:q0w (fun k=>allS S (fun j=>entP l k j) n) k<256:=yw (q35 _ _) (ye (Nat.pow_le_pow_right (by omega) (show k<=8 by omega)) (by decide));have q5:=orK_ev (j:=k) hM8 (by omega);have hst:q0w (fun k=>allS S (fun j=>entP l k j) n) (k + 1)=if allS S (fun j=>entP l k j) n then q0w (fun k=>allS S (fun j=>entP l k j) n) k ||| 2 ^ k else q0w (fun k=>allS S (fun j=>entP l k j) n) k:=rfl
   rw [hst] at ih;generalize q0w (fun k=>allS S (fun j=>entP l k j) n) k=M at *
   simp [q1m,-y0,-y7,-y3,y6,-binC,q0y,q0N,q0B,e0,e1,e6,e7,eM,hlt];refine rwr_in (nl:=nl) (l:=l) (S:=S) (k:=k) (M:=M) (n:=n) hS hn hn8 hlt _ ⟨?_,?_,?_,?_,?_⟩ ?_ ?_ _ (fun s' h' e8=>?_)
   all_goals try (simp [e0,e1,e6,e7,eM,hlt]; done)
   obtain ⟨e0,e1,e7,eM,e6⟩:=h';generalize allS S (fun j=>entP l k j) n=z at *
   generalize (2 ^ k:Nat)=p at *
   generalize M ||| p=Mp at *
   cases z
   ·simp [-y0,-y7,-y3,y6,-binC,q0y,q0N,q0B,e0,e1,e6,e7,eM,e8,hw];refine ih hlt _ ⟨?_,?_,?_,?_,?_⟩
    all_goals simp [e0,e1,e6,e7,eM]
   ·simp [-y0,-y7,-y3,y6,-binC,q0y,q0N,q0B,e0,e1,e6,e7,eM,e8,hw,q4,q5];refine ih hlt _ ⟨?_,?_,?_,?_,?_⟩
    all_goals simp [e0,e1,e6,e7,eM]
  ·have hkn:k=n:=by omega
   subst hkn;simp [q1m,-y0,-y7,-y3,y6,-binC,q0y,q0N,q0B,e0,e1,e6,e7,eM,hlt];exact hk _ _ ⟨rfl,by simp [eM]⟩
 ·simp [q0w]
 ·obtain ⟨rfl,h⟩:=h;simp [-y0,-y7,-y3,y6,h]
abbrev i6 (n:Int):AV:=.int .i64 n
abbrev f6:AV:=.bool false
abbrev t6:AV:=.bool true
abbrev n6:AV:=.sl true []
abbrev e6:AV:=.str ⟨#[]⟩
abbrev i0:AV:=.int .i64 0
def awkh_M0:List ME:=[]
theorem awkh_k0:q03 allT q00 awkh_M0:=q03.nil
def awkh_M1:List ME:=⟨102,[t6,t6],none,((.agg [(.sl false [[(i6 5),(.str (.mk #[82])),i0,i0,i0,n6,(.sl false [[(i6 1),(.str (.mk #[120])),(i6 1),f6,t6,(i6 1),t6,i0,e6,i0,n6,n6,n6]]),i0,i0,f6],[(i6 1),e6,i0,i0,i0,n6,n6,i0,i0,f6]]),i0]),none)⟩ :: awkh_M0
theorem awkh_k1:q03 allT q00 awkh_M1:=awkh_k0.more 3000 _ (by kernel_rfl)
def awkh_M2:List ME:=⟨102,[f6,f6],none,((.agg [(.sl false [[(i6 5),(.str (.mk #[82])),i0,i0,i0,n6,n6,i0,i0,f6],[(i6 1),e6,i0,i0,i0,n6,n6,i0,i0,f6]]),i0]),none)⟩ :: awkh_M1
theorem awkh_k2:q03 allT q00 awkh_M2:=awkh_k1.more 3000 _ (by kernel_rfl)
def awkh_M3:List ME:=⟨102,[t6,f6],none,((.agg [(.sl false [[(i6 5),(.str (.mk #[82])),i0,i0,i0,n6,(.sl false [[(i6 1),(.str (.mk #[120])),(i6 1),f6,t6,(i6 1),f6,i0,e6,i0,n6,n6,n6]]),i0,i0,f6],[(i6 1),e6,i0,i0,i0,n6,n6,i0,i0,f6]]),i0]),none)⟩ :: awkh_M2
theorem awkh_k3:q03 allT q00 awkh_M3:=awkh_k2.more 3000 _ (by kernel_rfl)
def awkh_M4:List ME:=⟨203,[(.agg [(.sl false [[(i6 5),(.str (.mk #[82])),i0,i0,i0,n6,(.sl false [[(i6 1),(.str (.mk #[120])),(i6 1),f6,t6,(i6 1),t6,i0,e6,i0,n6,n6,n6]]),i0,i0,f6],[(i6 1),e6,i0,i0,i0,n6,n6,i0,i0,f6]])])],none,(i0,none)⟩ :: awkh_M3
theorem awkh_k4:q03 allT q00 awkh_M4:=awkh_k3.more 3000 _ (by kernel_rfl)
def awkh_M5:List ME:=⟨204,[(.agg [(.sl false [[(i6 5),(.str (.mk #[82])),i0,i0,i0,n6,(.sl false [[(i6 1),(.str (.mk #[120])),(i6 1),f6,t6,(i6 1),t6,i0,e6,i0,n6,n6,n6]]),i0,i0,f6],[(i6 1),e6,i0,i0,i0,n6,n6,i0,i0,f6]])])],none,((.tup [i0,i0,i0]),none)⟩ :: awkh_M4
theorem awkh_k5:q03 allT q00 awkh_M5:=awkh_k4.more 3000 _ (by kernel_rfl)
def awkh_M6:List ME:=⟨173,[(.agg [(.sl false [[(i6 5),(.str (.mk #[82])),i0,i0,i0,n6,(.sl false [[(i6 1),(.str (.mk #[120])),(i6 1),f6,t6,(i6 1),t6,i0,e6,i0,n6,n6,n6]]),i0,i0,f6],[(i6 1),e6,i0,i0,i0,n6,n6,i0,i0,f6]])])],none,(i0,none)⟩ :: awkh_M5
theorem awkh_k6:q03 allT q00 awkh_M6:=awkh_k5.more 3000 _ (by kernel_rfl)
def awkh_M7:List ME:=⟨174,[(.agg [(.sl false [[(i6 5),(.str (.mk #[82])),i0,i0,i0,n6,(.sl false [[(i6 1),(.str (.mk #[120])),(i6 1),f6,t6,(i6 1),t6,i0,e6,i0,n6,n6,n6]]),i0,i0,f6],[(i6 1),e6,i0,i0,i0,n6,n6,i0,i0,f6]])])],none,((.sl false [[(i6 2)],[(i6 2)]]),none)⟩ :: awkh_M6
theorem awkh_k7:q03 allT q00 awkh_M7:=awkh_k6.more 3000 _ (by kernel_rfl)
def awkh_M8:List ME:=⟨144,[(.agg [(.sl false [[(i6 5),(.str (.mk #[82])),i0,i0,i0,n6,(.sl false [[(i6 1),(.str (.mk #[120])),(i6 1),f6,t6,(i6 1),t6,i0,e6,i0,n6,n6,n6]]),i0,i0,f6],[(i6 1),e6,i0,i0,i0,n6,n6,i0,i0,f6]])])],none,((.tup [(.sl false [[t6],[t6]]),i0]),none)⟩ :: awkh_M7
theorem awkh_k8:q03 allT q00 awkh_M8:=awkh_k7.more 3000 _ (by kernel_rfl)
def awkh_M9:List ME:=⟨95,[(.agg [(.sl false [[(i6 5),(.str (.mk #[82])),i0,i0,i0,n6,(.sl false [[(i6 1),(.str (.mk #[120])),(i6 1),f6,t6,(i6 1),t6,i0,e6,i0,n6,n6,n6]]),i0,i0,f6],[(i6 1),e6,i0,i0,i0,n6,n6,i0,i0,f6]])])],none,(i0,none)⟩ :: awkh_M8
theorem awkh_k9:q03 allT q00 awkh_M9:=awkh_k8.more 3000 _ (by kernel_rfl)
def awkh_M10:List ME:=⟨203,[(.agg [(.sl false [[(i6 5),(.str (.mk #[82])),i0,i0,i0,n6,n6,i0,i0,f6],[(i6 1),e6,i0,i0,i0,n6,n6,i0,i0,f6]])])],none,(i0,none)⟩ :: awkh_M9
theorem awkh_k10:q03 allT q00 awkh_M10:=awkh_k9.more 3000 _ (by kernel_rfl)
def awkh_M11:List ME:=⟨204,[(.agg [(.sl false [[(i6 5),(.str (.mk #[82])),i0,i0,i0,n6,n6,i0,i0,f6],[(i6 1),e6,i0,i0,i0,n6,n6,i0,i0,f6]])])],none,((.tup [i0,i0,i0]),none)⟩ :: awkh_M10
theorem awkh_k11:q03 allT q00 awkh_M11:=awkh_k10.more 3000 _ (by kernel_rfl)
def awkh_M12:List ME:=⟨173,[(.agg [(.sl false [[(i6 5),(.str (.mk #[82])),i0,i0,i0,n6,n6,i0,i0,f6],[(i6 1),e6,i0,i0,i0,n6,n6,i0,i0,f6]])])],none,(i0,none)⟩ :: awkh_M11
theorem awkh_k12:q03 allT q00 awkh_M12:=awkh_k11.more 3000 _ (by kernel_rfl)
def awkh_M13:List ME:=⟨174,[(.agg [(.sl false [[(i6 5),(.str (.mk #[82])),i0,i0,i0,n6,n6,i0,i0,f6],[(i6 1),e6,i0,i0,i0,n6,n6,i0,i0,f6]])])],none,((.sl false [[(i6 1)],[(i6 2)]]),none)⟩ :: awkh_M12
theorem awkh_k13:q03 allT q00 awkh_M13:=awkh_k12.more 3000 _ (by kernel_rfl)
def awkh_M14:List ME:=⟨144,[(.agg [(.sl false [[(i6 5),(.str (.mk #[82])),i0,i0,i0,n6,n6,i0,i0,f6],[(i6 1),e6,i0,i0,i0,n6,n6,i0,i0,f6]])])],none,((.tup [(.sl false [[t6],[t6]]),i0]),none)⟩ :: awkh_M13
theorem awkh_k14:q03 allT q00 awkh_M14:=awkh_k13.more 3000 _ (by kernel_rfl)
def awkh_M15:List ME:=⟨95,[(.agg [(.sl false [[(i6 5),(.str (.mk #[82])),i0,i0,i0,n6,n6,i0,i0,f6],[(i6 1),e6,i0,i0,i0,n6,n6,i0,i0,f6]])])],none,(i0,none)⟩ :: awkh_M14
theorem awkh_k15:q03 allT q00 awkh_M15:=awkh_k14.more 3000 _ (by kernel_rfl)
def awkh_M16:List ME:=⟨203,[(.agg [(.sl false [[(i6 5),(.str (.mk #[82])),i0,i0,i0,n6,(.sl false [[(i6 1),(.str (.mk #[120])),(i6 1),f6,t6,(i6 1),f6,i0,e6,i0,n6,n6,n6]]),i0,i0,f6],[(i6 1),e6,i0,i0,i0,n6,n6,i0,i0,f6]])])],none,(i0,none)⟩ :: awkh_M15
theorem awkh_k16:q03 allT q00 awkh_M16:=awkh_k15.more 3000 _ (by kernel_rfl)
def awkh_M17:List ME:=⟨204,[(.agg [(.sl false [[(i6 5),(.str (.mk #[82])),i0,i0,i0,n6,(.sl false [[(i6 1),(.str (.mk #[120])),(i6 1),f6,t6,(i6 1),f6,i0,e6,i0,n6,n6,n6]]),i0,i0,f6],[(i6 1),e6,i0,i0,i0,n6,n6,i0,i0,f6]])])],none,((.tup [i0,i0,i0]),none)⟩ :: awkh_M16
theorem awkh_k17:q03 allT q00 awkh_M17:=awkh_k16.more 3000 _ (by kernel_rfl)
def awkh_M18:List ME:=⟨173,[(.agg [(.sl false [[(i6 5),(.str (.mk #[82])),i0,i0,i0,n6,(.sl false [[(i6 1),(.str (.mk #[120])),(i6 1),f6,t6,(i6 1),f6,i0,e6,i0,n6,n6,n6]]),i0,i0,f6],[(i6 1),e6,i0,i0,i0,n6,n6,i0,i0,f6]])])],none,(i0,none)⟩ :: awkh_M17
theorem awkh_k18:q03 allT q00 awkh_M18:=awkh_k17.more 3000 _ (by kernel_rfl)
def awkh_M19:List ME:=⟨174,[(.agg [(.sl false [[(i6 5),(.str (.mk #[82])),i0,i0,i0,n6,(.sl false [[(i6 1),(.str (.mk #[120])),(i6 1),f6,t6,(i6 1),f6,i0,e6,i0,n6,n6,n6]]),i0,i0,f6],[(i6 1),e6,i0,i0,i0,n6,n6,i0,i0,f6]])])],none,((.sl false [[(i6 2)],[(i6 2)]]),none)⟩ :: awkh_M18
theorem awkh_k19:q03 allT q00 awkh_M19:=awkh_k18.more 3000 _ (by kernel_rfl)
def awkh_M20:List ME:=⟨144,[(.agg [(.sl false [[(i6 5),(.str (.mk #[82])),i0,i0,i0,n6,(.sl false [[(i6 1),(.str (.mk #[120])),(i6 1),f6,t6,(i6 1),f6,i0,e6,i0,n6,n6,n6]]),i0,i0,f6],[(i6 1),e6,i0,i0,i0,n6,n6,i0,i0,f6]])])],none,((.tup [(.sl false [[t6],[t6]]),i0]),none)⟩ :: awkh_M19
theorem awkh_k20:q03 allT q00 awkh_M20:=awkh_k19.more 3000 _ (by kernel_rfl)
def awkh_M21:List ME:=⟨95,[(.agg [(.sl false [[(i6 5),(.str (.mk #[82])),i0,i0,i0,n6,(.sl false [[(i6 1),(.str (.mk #[120])),(i6 1),f6,t6,(i6 1),f6,i0,e6,i0,n6,n6,n6]]),i0,i0,f6],[(i6 1),e6,i0,i0,i0,n6,n6,i0,i0,f6]])])],none,(i0,none)⟩ :: awkh_M20
theorem awkh_k21:q03 allT q00 awkh_M21:=awkh_k20.more 3000 _ (by kernel_rfl)
def awkh_M22:List ME:=⟨103,[(.sl false [[(.sl false [[(i6 5),(.str (.mk #[82])),i0,i0,i0,n6,(.sl false [[(i6 1),(.str (.mk #[120])),(i6 1),f6,t6,(i6 1),t6,i0,e6,i0,n6,n6,n6]]),i0,i0,f6],[(i6 1),e6,i0,i0,i0,n6,n6,i0,i0,f6]]),i0],[(.sl false [[(i6 5),(.str (.mk #[82])),i0,i0,i0,n6,n6,i0,i0,f6],[(i6 1),e6,i0,i0,i0,n6,n6,i0,i0,f6]]),i0],[(.sl false [[(i6 5),(.str (.mk #[82])),i0,i0,i0,n6,(.sl false [[(i6 1),(.str (.mk #[120])),(i6 1),f6,t6,(i6 1),f6,i0,e6,i0,n6,n6,n6]]),i0,i0,f6],[(i6 1),e6,i0,i0,i0,n6,n6,i0,i0,f6]]),i0]])],none,(i0,none)⟩ :: awkh_M21
theorem awkh_k22:q03 allT q00 awkh_M22:=awkh_k21.more 3000 _ (by kernel_rfl)
def awkh_M23:List ME:=⟨79,[(.agg [(.sl false [[(i6 5),(.str (.mk #[82])),i0,i0,i0,n6,(.sl false [[(i6 1),(.str (.mk #[120])),(i6 1),f6,t6,(i6 1),t6,i0,e6,i0,n6,n6,n6]]),i0,i0,f6],[(i6 1),e6,i0,i0,i0,n6,n6,i0,i0,f6]])]),i0,(.agg [(.sl false [[(i6 5),(.str (.mk #[82])),i0,i0,i0,n6,(.sl false [[(i6 1),(.str (.mk #[120])),(i6 1),f6,t6,(i6 1),t6,i0,e6,i0,n6,n6,n6]]),i0,i0,f6],[(i6 1),e6,i0,i0,i0,n6,n6,i0,i0,f6]])]),i0],none,((.sl false [[(i6 1),(i6 1)]]),none)⟩ :: awkh_M22
theorem awkh_k23:q03 allT q00 awkh_M23:=awkh_k22.more 3000 _ (by kernel_rfl)
def awkh_M24:List ME:=⟨79,[(.agg [(.sl false [[(i6 5),(.str (.mk #[82])),i0,i0,i0,n6,(.sl false [[(i6 1),(.str (.mk #[120])),(i6 1),f6,t6,(i6 1),t6,i0,e6,i0,n6,n6,n6]]),i0,i0,f6],[(i6 1),e6,i0,i0,i0,n6,n6,i0,i0,f6]])]),(i6 1),(.agg [(.sl false [[(i6 5),(.str (.mk #[82])),i0,i0,i0,n6,(.sl false [[(i6 1),(.str (.mk #[120])),(i6 1),f6,t6,(i6 1),t6,i0,e6,i0,n6,n6,n6]]),i0,i0,f6],[(i6 1),e6,i0,i0,i0,n6,n6,i0,i0,f6]])]),(i6 1)],none,(n6,none)⟩ :: awkh_M23
theorem awkh_k24:q03 allT q00 awkh_M24:=awkh_k23.more 3000 _ (by kernel_rfl)
def awkh_M25:List ME:=⟨81,[(.agg [(.sl false [[(i6 5),(.str (.mk #[82])),i0,i0,i0,n6,(.sl false [[(i6 1),(.str (.mk #[120])),(i6 1),f6,t6,(i6 1),t6,i0,e6,i0,n6,n6,n6]]),i0,i0,f6],[(i6 1),e6,i0,i0,i0,n6,n6,i0,i0,f6]]),i0]),(.agg [(.sl false [[(i6 5),(.str (.mk #[82])),i0,i0,i0,n6,(.sl false [[(i6 1),(.str (.mk #[120])),(i6 1),f6,t6,(i6 1),t6,i0,e6,i0,n6,n6,n6]]),i0,i0,f6],[(i6 1),e6,i0,i0,i0,n6,n6,i0,i0,f6]]),i0])],none,((.tup [(.sl false [[i0,i0],[(i6 1),(i6 1)]]),(.sl false [[(i6 (-1))],[i0]])]),none)⟩ :: awkh_M24
theorem awkh_k25:q03 allT q00 awkh_M25:=awkh_k24.more 3000 _ (by kernel_rfl)
def awkh_M26:List ME:=⟨77,[(.agg [(.sl false [[(i6 5),(.str (.mk #[82])),i0,i0,i0,n6,(.sl false [[(i6 1),(.str (.mk #[120])),(i6 1),f6,t6,(i6 1),t6,i0,e6,i0,n6,n6,n6]]),i0,i0,f6],[(i6 1),e6,i0,i0,i0,n6,n6,i0,i0,f6]])]),i0,(.agg [(.sl false [[(i6 5),(.str (.mk #[82])),i0,i0,i0,n6,(.sl false [[(i6 1),(.str (.mk #[120])),(i6 1),f6,t6,(i6 1),t6,i0,e6,i0,n6,n6,n6]]),i0,i0,f6],[(i6 1),e6,i0,i0,i0,n6,n6,i0,i0,f6]])]),i0],none,(i0,none)⟩ :: awkh_M25
theorem awkh_k26:q03 allT q00 awkh_M26:=awkh_k25.more 3000 _ (by kernel_rfl)
def awkh_M27:List ME:=⟨77,[(.agg [(.sl false [[(i6 5),(.str (.mk #[82])),i0,i0,i0,n6,(.sl false [[(i6 1),(.str (.mk #[120])),(i6 1),f6,t6,(i6 1),t6,i0,e6,i0,n6,n6,n6]]),i0,i0,f6],[(i6 1),e6,i0,i0,i0,n6,n6,i0,i0,f6]])]),(i6 1),(.agg [(.sl false [[(i6 5),(.str (.mk #[82])),i0,i0,i0,n6,(.sl false [[(i6 1),(.str (.mk #[120])),(i6 1),f6,t6,(i6 1),t6,i0,e6,i0,n6,n6,n6]]),i0,i0,f6],[(i6 1),e6,i0,i0,i0,n6,n6,i0,i0,f6]])]),(i6 1)],none,(i0,none)⟩ :: awkh_M26
theorem awkh_k27:q03 allT q00 awkh_M27:=awkh_k26.more 3000 _ (by kernel_rfl)
def awkh_M28:List ME:=⟨32,[(.agg [(.sl false [[(i6 5),(.str (.mk #[82])),i0,i0,i0,n6,(.sl false [[(i6 1),(.str (.mk #[120])),(i6 1),f6,t6,(i6 1),t6,i0,e6,i0,n6,n6,n6]]),i0,i0,f6],[(i6 1),e6,i0,i0,i0,n6,n6,i0,i0,f6]]),i0]),(.agg [(.sl false [[(i6 5),(.str (.mk #[82])),i0,i0,i0,n6,(.sl false [[(i6 1),(.str (.mk #[120])),(i6 1),f6,t6,(i6 1),t6,i0,e6,i0,n6,n6,n6]]),i0,i0,f6],[(i6 1),e6,i0,i0,i0,n6,n6,i0,i0,f6]]),i0])],none,((.tup [n6,i0,(i6 15)]),none)⟩ :: awkh_M27
theorem awkh_k28:q03 allT q00 awkh_M28:=awkh_k27.more 3000 _ (by kernel_rfl)
def awkh_M29:List ME:=⟨21,[(.agg [(.sl false [[(i6 5),(.str (.mk #[82])),i0,i0,i0,n6,(.sl false [[(i6 1),(.str (.mk #[120])),(i6 1),f6,t6,(i6 1),t6,i0,e6,i0,n6,n6,n6]]),i0,i0,f6],[(i6 1),e6,i0,i0,i0,n6,n6,i0,i0,f6]]),i0]),(.agg [(.sl false [[(i6 5),(.str (.mk #[82])),i0,i0,i0,n6,(.sl false [[(i6 1),(.str (.mk #[120])),(i6 1),f6,t6,(i6 1),t6,i0,e6,i0,n6,n6,n6]]),i0,i0,f6],[(i6 1),e6,i0,i0,i0,n6,n6,i0,i0,f6]]),i0])],none,((.tup [t6,i0]),none)⟩ :: awkh_M28
theorem awkh_k29:q03 allT q00 awkh_M29:=awkh_k28.more 3000 _ (by kernel_rfl)
def awkh_M30:List ME:=⟨79,[(.agg [(.sl false [[(i6 5),(.str (.mk #[82])),i0,i0,i0,n6,(.sl false [[(i6 1),(.str (.mk #[120])),(i6 1),f6,t6,(i6 1),t6,i0,e6,i0,n6,n6,n6]]),i0,i0,f6],[(i6 1),e6,i0,i0,i0,n6,n6,i0,i0,f6]])]),i0,(.agg [(.sl false [[(i6 5),(.str (.mk #[82])),i0,i0,i0,n6,n6,i0,i0,f6],[(i6 1),e6,i0,i0,i0,n6,n6,i0,i0,f6]])]),i0],none,(n6,none)⟩ :: awkh_M29
theorem awkh_k30:q03 allT q00 awkh_M30:=awkh_k29.more 3000 _ (by kernel_rfl)
def awkh_M31:List ME:=⟨81,[(.agg [(.sl false [[(i6 5),(.str (.mk #[82])),i0,i0,i0,n6,(.sl false [[(i6 1),(.str (.mk #[120])),(i6 1),f6,t6,(i6 1),t6,i0,e6,i0,n6,n6,n6]]),i0,i0,f6],[(i6 1),e6,i0,i0,i0,n6,n6,i0,i0,f6]]),i0]),(.agg [(.sl false [[(i6 5),(.str (.mk #[82])),i0,i0,i0,n6,n6,i0,i0,f6],[(i6 1),e6,i0,i0,i0,n6,n6,i0,i0,f6]]),i0])],none,((.tup [(.sl false [[i0,i0]]),(.sl false [[(i6 (-1))]])]),none)⟩ :: awkh_M30
theorem awkh_k31:q03 allT q00 awkh_M31:=awkh_k30.more 3000 _ (by kernel_rfl)
def awkh_M32:List ME:=⟨77,[(.agg [(.sl false [[(i6 5),(.str (.mk #[82])),i0,i0,i0,n6,(.sl false [[(i6 1),(.str (.mk #[120])),(i6 1),f6,t6,(i6 1),t6,i0,e6,i0,n6,n6,n6]]),i0,i0,f6],[(i6 1),e6,i0,i0,i0,n6,n6,i0,i0,f6]])]),i0,(.agg [(.sl false [[(i6 5),(.str (.mk #[82])),i0,i0,i0,n6,n6,i0,i0,f6],[(i6 1),e6,i0,i0,i0,n6,n6,i0,i0,f6]])]),i0],none,(i0,none)⟩ :: awkh_M31
theorem awkh_k32:q03 allT q00 awkh_M32:=awkh_k31.more 3000 _ (by kernel_rfl)
def awkh_M33:List ME:=⟨32,[(.agg [(.sl false [[(i6 5),(.str (.mk #[82])),i0,i0,i0,n6,(.sl false [[(i6 1),(.str (.mk #[120])),(i6 1),f6,t6,(i6 1),t6,i0,e6,i0,n6,n6,n6]]),i0,i0,f6],[(i6 1),e6,i0,i0,i0,n6,n6,i0,i0,f6]]),i0]),(.agg [(.sl false [[(i6 5),(.str (.mk #[82])),i0,i0,i0,n6,n6,i0,i0,f6],[(i6 1),e6,i0,i0,i0,n6,n6,i0,i0,f6]]),i0])],none,((.tup [n6,i0,(i6 15)]),none)⟩ :: awkh_M32
theorem awkh_k33:q03 allT q00 awkh_M33:=awkh_k32.more 3000 _ (by kernel_rfl)
def awkh_M34:List ME:=⟨21,[(.agg [(.sl false [[(i6 5),(.str (.mk #[82])),i0,i0,i0,n6,(.sl false [[(i6 1),(.str (.mk #[120])),(i6 1),f6,t6,(i6 1),t6,i0,e6,i0,n6,n6,n6]]),i0,i0,f6],[(i6 1),e6,i0,i0,i0,n6,n6,i0,i0,f6]]),i0]),(.agg [(.sl false [[(i6 5),(.str (.mk #[82])),i0,i0,i0,n6,n6,i0,i0,f6],[(i6 1),e6,i0,i0,i0,n6,n6,i0,i0,f6]]),i0])],none,((.tup [t6,i0]),none)⟩ :: awkh_M33
theorem awkh_k34:q03 allT q00 awkh_M34:=awkh_k33.more 3000 _ (by kernel_rfl)
def awkh_M35:List ME:=⟨79,[(.agg [(.sl false [[(i6 5),(.str (.mk #[82])),i0,i0,i0,n6,(.sl false [[(i6 1),(.str (.mk #[120])),(i6 1),f6,t6,(i6 1),t6,i0,e6,i0,n6,n6,n6]]),i0,i0,f6],[(i6 1),e6,i0,i0,i0,n6,n6,i0,i0,f6]])]),i0,(.agg [(.sl false [[(i6 5),(.str (.mk #[82])),i0,i0,i0,n6,(.sl false [[(i6 1),(.str (.mk #[120])),(i6 1),f6,t6,(i6 1),f6,i0,e6,i0,n6,n6,n6]]),i0,i0,f6],[(i6 1),e6,i0,i0,i0,n6,n6,i0,i0,f6]])]),i0],none,((.sl false [[(i6 1),(i6 1)]]),none)⟩ :: awkh_M34
theorem awkh_k35:q03 allT q00 awkh_M35:=awkh_k34.more 3000 _ (by kernel_rfl)
def awkh_M36:List ME:=⟨79,[(.agg [(.sl false [[(i6 5),(.str (.mk #[82])),i0,i0,i0,n6,(.sl false [[(i6 1),(.str (.mk #[120])),(i6 1),f6,t6,(i6 1),t6,i0,e6,i0,n6,n6,n6]]),i0,i0,f6],[(i6 1),e6,i0,i0,i0,n6,n6,i0,i0,f6]])]),(i6 1),(.agg [(.sl false [[(i6 5),(.str (.mk #[82])),i0,i0,i0,n6,(.sl false [[(i6 1),(.str (.mk #[120])),(i6 1),f6,t6,(i6 1),f6,i0,e6,i0,n6,n6,n6]]),i0,i0,f6],[(i6 1),e6,i0,i0,i0,n6,n6,i0,i0,f6]])]),(i6 1)],none,(n6,none)⟩ :: awkh_M35
theorem awkh_k36:q03 allT q00 awkh_M36:=awkh_k35.more 3000 _ (by kernel_rfl)
def awkh_M37:List ME:=⟨81,[(.agg [(.sl false [[(i6 5),(.str (.mk #[82])),i0,i0,i0,n6,(.sl false [[(i6 1),(.str (.mk #[120])),(i6 1),f6,t6,(i6 1),t6,i0,e6,i0,n6,n6,n6]]),i0,i0,f6],[(i6 1),e6,i0,i0,i0,n6,n6,i0,i0,f6]]),i0]),(.agg [(.sl false [[(i6 5),(.str (.mk #[82])),i0,i0,i0,n6,(.sl false [[(i6 1),(.str (.mk #[120])),(i6 1),f6,t6,(i6 1),f6,i0,e6,i0,n6,n6,n6]]),i0,i0,f6],[(i6 1),e6,i0,i0,i0,n6,n6,i0,i0,f6]]),i0])],none,((.tup [(.sl false [[i0,i0],[(i6 1),(i6 1)]]),(.sl false [[(i6 (-1))],[i0]])]),none)⟩ :: awkh_M36
theorem awkh_k37:q03 allT q00 awkh_M37:=awkh_k36.more 3000 _ (by kernel_rfl)
def awkh_M38:List ME:=⟨77,[(.agg [(.sl false [[(i6 5),(.str (.mk #[82])),i0,i0,i0,n6,(.sl false [[(i6 1),(.str (.mk #[120])),(i6 1),f6,t6,(i6 1),t6,i0,e6,i0,n6,n6,n6]]),i0,i0,f6],[(i6 1),e6,i0,i0,i0,n6,n6,i0,i0,f6]])]),i0,(.agg [(.sl false [[(i6 5),(.str (.mk #[82])),i0,i0,i0,n6,(.sl false [[(i6 1),(.str (.mk #[120])),(i6 1),f6,t6,(i6 1),f6,i0,e6,i0,n6,n6,n6]]),i0,i0,f6],[(i6 1),e6,i0,i0,i0,n6,n6,i0,i0,f6]])]),i0],none,((i6 10),none)⟩ :: awkh_M37
theorem awkh_k38:q03 allT q00 awkh_M38:=awkh_k37.more 3000 _ (by kernel_rfl)
def awkh_M39:List ME:=⟨32,[(.agg [(.sl false [[(i6 5),(.str (.mk #[82])),i0,i0,i0,n6,(.sl false [[(i6 1),(.str (.mk #[120])),(i6 1),f6,t6,(i6 1),t6,i0,e6,i0,n6,n6,n6]]),i0,i0,f6],[(i6 1),e6,i0,i0,i0,n6,n6,i0,i0,f6]]),i0]),(.agg [(.sl false [[(i6 5),(.str (.mk #[82])),i0,i0,i0,n6,(.sl false [[(i6 1),(.str (.mk #[120])),(i6 1),f6,t6,(i6 1),f6,i0,e6,i0,n6,n6,n6]]),i0,i0,f6],[(i6 1),e6,i0,i0,i0,n6,n6,i0,i0,f6]]),i0])],none,((.tup [(.sl false [[i0,i0]]),(i6 10),i0]),none)⟩ :: awkh_M38
theorem awkh_k39:q03 allT q00 awkh_M39:=awkh_k38.more 3000 _ (by kernel_rfl)
def awkh_M40:List ME:=⟨21,[(.agg [(.sl false [[(i6 5),(.str (.mk #[82])),i0,i0,i0,n6,(.sl false [[(i6 1),(.str (.mk #[120])),(i6 1),f6,t6,(i6 1),t6,i0,e6,i0,n6,n6,n6]]),i0,i0,f6],[(i6 1),e6,i0,i0,i0,n6,n6,i0,i0,f6]]),i0]),(.agg [(.sl false [[(i6 5),(.str (.mk #[82])),i0,i0,i0,n6,(.sl false [[(i6 1),(.str (.mk #[120])),(i6 1),f6,t6,(i6 1),f6,i0,e6,i0,n6,n6,n6]]),i0,i0,f6],[(i6 1),e6,i0,i0,i0,n6,n6,i0,i0,f6]]),i0])],none,((.tup [f6,i0]),none)⟩ :: awkh_M39
theorem awkh_k40:q03 allT q00 awkh_M40:=awkh_k39.more 3000 _ (by kernel_rfl)
def awkh_M41:List ME:=⟨79,[(.agg [(.sl false [[(i6 5),(.str (.mk #[82])),i0,i0,i0,n6,n6,i0,i0,f6],[(i6 1),e6,i0,i0,i0,n6,n6,i0,i0,f6]])]),i0,(.agg [(.sl false [[(i6 5),(.str (.mk #[82])),i0,i0,i0,n6,(.sl false [[(i6 1),(.str (.mk #[120])),(i6 1),f6,t6,(i6 1),t6,i0,e6,i0,n6,n6,n6]]),i0,i0,f6],[(i6 1),e6,i0,i0,i0,n6,n6,i0,i0,f6]])]),i0],none,(n6,none)⟩ :: awkh_M40
theorem awkh_k41:q03 allT q00 awkh_M41:=awkh_k40.more 3000 _ (by kernel_rfl)
def awkh_M42:List ME:=⟨81,[(.agg [(.sl false [[(i6 5),(.str (.mk #[82])),i0,i0,i0,n6,n6,i0,i0,f6],[(i6 1),e6,i0,i0,i0,n6,n6,i0,i0,f6]]),i0]),(.agg [(.sl false [[(i6 5),(.str (.mk #[82])),i0,i0,i0,n6,(.sl false [[(i6 1),(.str (.mk #[120])),(i6 1),f6,t6,(i6 1),t6,i0,e6,i0,n6,n6,n6]]),i0,i0,f6],[(i6 1),e6,i0,i0,i0,n6,n6,i0,i0,f6]]),i0])],none,((.tup [(.sl false [[i0,i0]]),(.sl false [[(i6 (-1))]])]),none)⟩ :: awkh_M41
theorem awkh_k42:q03 allT q00 awkh_M42:=awkh_k41.more 3000 _ (by kernel_rfl)
def awkh_M43:List ME:=⟨77,[(.agg [(.sl false [[(i6 5),(.str (.mk #[82])),i0,i0,i0,n6,n6,i0,i0,f6],[(i6 1),e6,i0,i0,i0,n6,n6,i0,i0,f6]])]),i0,(.agg [(.sl false [[(i6 5),(.str (.mk #[82])),i0,i0,i0,n6,(.sl false [[(i6 1),(.str (.mk #[120])),(i6 1),f6,t6,(i6 1),t6,i0,e6,i0,n6,n6,n6]]),i0,i0,f6],[(i6 1),e6,i0,i0,i0,n6,n6,i0,i0,f6]])]),i0],none,(i0,none)⟩ :: awkh_M42
theorem awkh_k43:q03 allT q00 awkh_M43:=awkh_k42.more 3000 _ (by kernel_rfl)
def awkh_M44:List ME:=⟨32,[(.agg [(.sl false [[(i6 5),(.str (.mk #[82])),i0,i0,i0,n6,n6,i0,i0,f6],[(i6 1),e6,i0,i0,i0,n6,n6,i0,i0,f6]]),i0]),(.agg [(.sl false [[(i6 5),(.str (.mk #[82])),i0,i0,i0,n6,(.sl false [[(i6 1),(.str (.mk #[120])),(i6 1),f6,t6,(i6 1),t6,i0,e6,i0,n6,n6,n6]]),i0,i0,f6],[(i6 1),e6,i0,i0,i0,n6,n6,i0,i0,f6]]),i0])],none,((.tup [n6,i0,(i6 15)]),none)⟩ :: awkh_M43
theorem awkh_k44:q03 allT q00 awkh_M44:=awkh_k43.more 3000 _ (by kernel_rfl)
def awkh_M45:List ME:=⟨21,[(.agg [(.sl false [[(i6 5),(.str (.mk #[82])),i0,i0,i0,n6,n6,i0,i0,f6],[(i6 1),e6,i0,i0,i0,n6,n6,i0,i0,f6]]),i0]),(.agg [(.sl false [[(i6 5),(.str (.mk #[82])),i0,i0,i0,n6,(.sl false [[(i6 1),(.str (.mk #[120])),(i6 1),f6,t6,(i6 1),t6,i0,e6,i0,n6,n6,n6]]),i0,i0,f6],[(i6 1),e6,i0,i0,i0,n6,n6,i0,i0,f6]]),i0])],none,((.tup [t6,i0]),none)⟩ :: awkh_M44
theorem awkh_k45:q03 allT q00 awkh_M45:=awkh_k44.more 3000 _ (by kernel_rfl)
def awkh_M46:List ME:=⟨79,[(.agg [(.sl false [[(i6 5),(.str (.mk #[82])),i0,i0,i0,n6,n6,i0,i0,f6],[(i6 1),e6,i0,i0,i0,n6,n6,i0,i0,f6]])]),i0,(.agg [(.sl false [[(i6 5),(.str (.mk #[82])),i0,i0,i0,n6,n6,i0,i0,f6],[(i6 1),e6,i0,i0,i0,n6,n6,i0,i0,f6]])]),i0],none,(n6,none)⟩ :: awkh_M45
theorem awkh_k46:q03 allT q00 awkh_M46:=awkh_k45.more 3000 _ (by kernel_rfl)
def awkh_M47:List ME:=⟨81,[(.agg [(.sl false [[(i6 5),(.str (.mk #[82])),i0,i0,i0,n6,n6,i0,i0,f6],[(i6 1),e6,i0,i0,i0,n6,n6,i0,i0,f6]]),i0]),(.agg [(.sl false [[(i6 5),(.str (.mk #[82])),i0,i0,i0,n6,n6,i0,i0,f6],[(i6 1),e6,i0,i0,i0,n6,n6,i0,i0,f6]]),i0])],none,((.tup [(.sl false [[i0,i0]]),(.sl false [[(i6 (-1))]])]),none)⟩ :: awkh_M46
theorem awkh_k47:q03 allT q00 awkh_M47:=awkh_k46.more 3000 _ (by kernel_rfl)
def awkh_M48:List ME:=⟨77,[(.agg [(.sl false [[(i6 5),(.str (.mk #[82])),i0,i0,i0,n6,n6,i0,i0,f6],[(i6 1),e6,i0,i0,i0,n6,n6,i0,i0,f6]])]),i0,(.agg [(.sl false [[(i6 5),(.str (.mk #[82])),i0,i0,i0,n6,n6,i0,i0,f6],[(i6 1),e6,i0,i0,i0,n6,n6,i0,i0,f6]])]),i0],none,(i0,none)⟩ :: awkh_M47
theorem awkh_k48:q03 allT q00 awkh_M48:=awkh_k47.more 3000 _ (by kernel_rfl)
def awkh_M49:List ME:=⟨32,[(.agg [(.sl false [[(i6 5),(.str (.mk #[82])),i0,i0,i0,n6,n6,i0,i0,f6],[(i6 1),e6,i0,i0,i0,n6,n6,i0,i0,f6]]),i0]),(.agg [(.sl false [[(i6 5),(.str (.mk #[82])),i0,i0,i0,n6,n6,i0,i0,f6],[(i6 1),e6,i0,i0,i0,n6,n6,i0,i0,f6]]),i0])],none,((.tup [n6,i0,(i6 15)]),none)⟩ :: awkh_M48
theorem awkh_k49:q03 allT q00 awkh_M49:=awkh_k48.more 3000 _ (by kernel_rfl)
def awkh_M50:List ME:=⟨21,[(.agg [(.sl false [[(i6 5),(.str (.mk #[82])),i0,i0,i0,n6,n6,i0,i0,f6],[(i6 1),e6,i0,i0,i0,n6,n6,i0,i0,f6]]),i0]),(.agg [(.sl false [[(i6 5),(.str (.mk #[82])),i0,i0,i0,n6,n6,i0,i0,f6],[(i6 1),e6,i0,i0,i0,n6,n6,i0,i0,f6]]),i0])],none,((.tup [t6,i0]),none)⟩ :: awkh_M49
theorem awkh_k50:q03 allT q00 awkh_M50:=awkh_k49.more 3000 _ (by kernel_rfl)
def awkh_M51:List ME:=⟨79,[(.agg [(.sl false [[(i6 5),(.str (.mk #[82])),i0,i0,i0,n6,n6,i0,i0,f6],[(i6 1),e6,i0,i0,i0,n6,n6,i0,i0,f6]])]),i0,(.agg [(.sl false [[(i6 5),(.str (.mk #[82])),i0,i0,i0,n6,(.sl false [[(i6 1),(.str (.mk #[120])),(i6 1),f6,t6,(i6 1),f6,i0,e6,i0,n6,n6,n6]]),i0,i0,f6],[(i6 1),e6,i0,i0,i0,n6,n6,i0,i0,f6]])]),i0],none,(n6,none)⟩ :: awkh_M50
theorem awkh_k51:q03 allT q00 awkh_M51:=awkh_k50.more 3000 _ (by kernel_rfl)
def awkh_M52:List ME:=⟨81,[(.agg [(.sl false [[(i6 5),(.str (.mk #[82])),i0,i0,i0,n6,n6,i0,i0,f6],[(i6 1),e6,i0,i0,i0,n6,n6,i0,i0,f6]]),i0]),(.agg [(.sl false [[(i6 5),(.str (.mk #[82])),i0,i0,i0,n6,(.sl false [[(i6 1),(.str (.mk #[120])),(i6 1),f6,t6,(i6 1),f6,i0,e6,i0,n6,n6,n6]]),i0,i0,f6],[(i6 1),e6,i0,i0,i0,n6,n6,i0,i0,f6]]),i0])],none,((.tup [(.sl false [[i0,i0]]),(.sl false [[(i6 (-1))]])]),none)⟩ :: awkh_M51
theorem awkh_k52:q03 allT q00 awkh_M52:=awkh_k51.more 3000 _ (by kernel_rfl)
def awkh_M53:List ME:=⟨77,[(.agg [(.sl false [[(i6 5),(.str (.mk #[82])),i0,i0,i0,n6,n6,i0,i0,f6],[(i6 1),e6,i0,i0,i0,n6,n6,i0,i0,f6]])]),i0,(.agg [(.sl false [[(i6 5),(.str (.mk #[82])),i0,i0,i0,n6,(.sl false [[(i6 1),(.str (.mk #[120])),(i6 1),f6,t6,(i6 1),f6,i0,e6,i0,n6,n6,n6]]),i0,i0,f6],[(i6 1),e6,i0,i0,i0,n6,n6,i0,i0,f6]])]),i0],none,(i0,none)⟩ :: awkh_M52
theorem awkh_k53:q03 allT q00 awkh_M53:=awkh_k52.more 3000 _ (by kernel_rfl)
def awkh_M54:List ME:=⟨32,[(.agg [(.sl false [[(i6 5),(.str (.mk #[82])),i0,i0,i0,n6,n6,i0,i0,f6],[(i6 1),e6,i0,i0,i0,n6,n6,i0,i0,f6]]),i0]),(.agg [(.sl false [[(i6 5),(.str (.mk #[82])),i0,i0,i0,n6,(.sl false [[(i6 1),(.str (.mk #[120])),(i6 1),f6,t6,(i6 1),f6,i0,e6,i0,n6,n6,n6]]),i0,i0,f6],[(i6 1),e6,i0,i0,i0,n6,n6,i0,i0,f6]]),i0])],none,((.tup [n6,i0,(i6 15)]),none)⟩ :: awkh_M53
theorem awkh_k54:q03 allT q00 awkh_M54:=awkh_k53.more 3000 _ (by kernel_rfl)
def awkh_M55:List ME:=⟨21,[(.agg [(.sl false [[(i6 5),(.str (.mk #[82])),i0,i0,i0,n6,n6,i0,i0,f6],[(i6 1),e6,i0,i0,i0,n6,n6,i0,i0,f6]]),i0]),(.agg [(.sl false [[(i6 5),(.str (.mk #[82])),i0,i0,i0,n6,(.sl false [[(i6 1),(.str (.mk #[120])),(i6 1),f6,t6,(i6 1),f6,i0,e6,i0,n6,n6,n6]]),i0,i0,f6],[(i6 1),e6,i0,i0,i0,n6,n6,i0,i0,f6]]),i0])],none,((.tup [t6,i0]),none)⟩ :: awkh_M54
theorem awkh_k55:q03 allT q00 awkh_M55:=awkh_k54.more 3000 _ (by kernel_rfl)
def awkh_M56:List ME:=⟨79,[(.agg [(.sl false [[(i6 5),(.str (.mk #[82])),i0,i0,i0,n6,(.sl false [[(i6 1),(.str (.mk #[120])),(i6 1),f6,t6,(i6 1),f6,i0,e6,i0,n6,n6,n6]]),i0,i0,f6],[(i6 1),e6,i0,i0,i0,n6,n6,i0,i0,f6]])]),i0,(.agg [(.sl false [[(i6 5),(.str (.mk #[82])),i0,i0,i0,n6,(.sl false [[(i6 1),(.str (.mk #[120])),(i6 1),f6,t6,(i6 1),t6,i0,e6,i0,n6,n6,n6]]),i0,i0,f6],[(i6 1),e6,i0,i0,i0,n6,n6,i0,i0,f6]])]),i0],none,((.sl false [[(i6 1),(i6 1)]]),none)⟩ :: awkh_M55
theorem awkh_k56:q03 allT q00 awkh_M56:=awkh_k55.more 3000 _ (by kernel_rfl)
def awkh_M57:List ME:=⟨79,[(.agg [(.sl false [[(i6 5),(.str (.mk #[82])),i0,i0,i0,n6,(.sl false [[(i6 1),(.str (.mk #[120])),(i6 1),f6,t6,(i6 1),f6,i0,e6,i0,n6,n6,n6]]),i0,i0,f6],[(i6 1),e6,i0,i0,i0,n6,n6,i0,i0,f6]])]),(i6 1),(.agg [(.sl false [[(i6 5),(.str (.mk #[82])),i0,i0,i0,n6,(.sl false [[(i6 1),(.str (.mk #[120])),(i6 1),f6,t6,(i6 1),t6,i0,e6,i0,n6,n6,n6]]),i0,i0,f6],[(i6 1),e6,i0,i0,i0,n6,n6,i0,i0,f6]])]),(i6 1)],none,(n6,none)⟩ :: awkh_M56
theorem awkh_k57:q03 allT q00 awkh_M57:=awkh_k56.more 3000 _ (by kernel_rfl)
def awkh_M58:List ME:=⟨81,[(.agg [(.sl false [[(i6 5),(.str (.mk #[82])),i0,i0,i0,n6,(.sl false [[(i6 1),(.str (.mk #[120])),(i6 1),f6,t6,(i6 1),f6,i0,e6,i0,n6,n6,n6]]),i0,i0,f6],[(i6 1),e6,i0,i0,i0,n6,n6,i0,i0,f6]]),i0]),(.agg [(.sl false [[(i6 5),(.str (.mk #[82])),i0,i0,i0,n6,(.sl false [[(i6 1),(.str (.mk #[120])),(i6 1),f6,t6,(i6 1),t6,i0,e6,i0,n6,n6,n6]]),i0,i0,f6],[(i6 1),e6,i0,i0,i0,n6,n6,i0,i0,f6]]),i0])],none,((.tup [(.sl false [[i0,i0],[(i6 1),(i6 1)]]),(.sl false [[(i6 (-1))],[i0]])]),none)⟩ :: awkh_M57
theorem awkh_k58:q03 allT q00 awkh_M58:=awkh_k57.more 3000 _ (by kernel_rfl)
def awkh_M59:List ME:=⟨77,[(.agg [(.sl false [[(i6 5),(.str (.mk #[82])),i0,i0,i0,n6,(.sl false [[(i6 1),(.str (.mk #[120])),(i6 1),f6,t6,(i6 1),f6,i0,e6,i0,n6,n6,n6]]),i0,i0,f6],[(i6 1),e6,i0,i0,i0,n6,n6,i0,i0,f6]])]),i0,(.agg [(.sl false [[(i6 5),(.str (.mk #[82])),i0,i0,i0,n6,(.sl false [[(i6 1),(.str (.mk #[120])),(i6 1),f6,t6,(i6 1),t6,i0,e6,i0,n6,n6,n6]]),i0,i0,f6],[(i6 1),e6,i0,i0,i0,n6,n6,i0,i0,f6]])]),i0],none,((i6 10),none)⟩ :: awkh_M58
theorem awkh_k59:q03 allT q00 awkh_M59:=awkh_k58.more 3000 _ (by kernel_rfl)
def awkh_M60:List ME:=⟨32,[(.agg [(.sl false [[(i6 5),(.str (.mk #[82])),i0,i0,i0,n6,(.sl false [[(i6 1),(.str (.mk #[120])),(i6 1),f6,t6,(i6 1),f6,i0,e6,i0,n6,n6,n6]]),i0,i0,f6],[(i6 1),e6,i0,i0,i0,n6,n6,i0,i0,f6]]),i0]),(.agg [(.sl false [[(i6 5),(.str (.mk #[82])),i0,i0,i0,n6,(.sl false [[(i6 1),(.str (.mk #[120])),(i6 1),f6,t6,(i6 1),t6,i0,e6,i0,n6,n6,n6]]),i0,i0,f6],[(i6 1),e6,i0,i0,i0,n6,n6,i0,i0,f6]]),i0])],none,((.tup [(.sl false [[i0,i0]]),(i6 10),i0]),none)⟩ :: awkh_M59
theorem awkh_k60:q03 allT q00 awkh_M60:=awkh_k59.more 3000 _ (by kernel_rfl)
def awkh_M61:List ME:=⟨21,[(.agg [(.sl false [[(i6 5),(.str (.mk #[82])),i0,i0,i0,n6,(.sl false [[(i6 1),(.str (.mk #[120])),(i6 1),f6,t6,(i6 1),f6,i0,e6,i0,n6,n6,n6]]),i0,i0,f6],[(i6 1),e6,i0,i0,i0,n6,n6,i0,i0,f6]]),i0]),(.agg [(.sl false [[(i6 5),(.str (.mk #[82])),i0,i0,i0,n6,(.sl false [[(i6 1),(.str (.mk #[120])),(i6 1),f6,t6,(i6 1),t6,i0,e6,i0,n6,n6,n6]]),i0,i0,f6],[(i6 1),e6,i0,i0,i0,n6,n6,i0,i0,f6]]),i0])],none,((.tup [f6,i0]),none)⟩ :: awkh_M60
theorem awkh_k61:q03 allT q00 awkh_M61:=awkh_k60.more 3000 _ (by kernel_rfl)
def awkh_M62:List ME:=⟨79,[(.agg [(.sl false [[(i6 5),(.str (.mk #[82])),i0,i0,i0,n6,(.sl false [[(i6 1),(.str (.mk #[120])),(i6 1),f6,t6,(i6 1),f6,i0,e6,i0,n6,n6,n6]]),i0,i0,f6],[(i6 1),e6,i0,i0,i0,n6,n6,i0,i0,f6]])]),i0,(.agg [(.sl false [[(i6 5),(.str (.mk #[82])),i0,i0,i0,n6,n6,i0,i0,f6],[(i6 1),e6,i0,i0,i0,n6,n6,i0,i0,f6]])]),i0],none,(n6,none)⟩ :: awkh_M61
theorem awkh_k62:q03 allT q00 awkh_M62:=awkh_k61.more 3000 _ (by kernel_rfl)
def awkh_M63:List ME:=⟨81,[(.agg [(.sl false [[(i6 5),(.str (.mk #[82])),i0,i0,i0,n6,(.sl false [[(i6 1),(.str (.mk #[120])),(i6 1),f6,t6,(i6 1),f6,i0,e6,i0,n6,n6,n6]]),i0,i0,f6],[(i6 1),e6,i0,i0,i0,n6,n6,i0,i0,f6]]),i0]),(.agg [(.sl false [[(i6 5),(.str (.mk #[82])),i0,i0,i0,n6,n6,i0,i0,f6],[(i6 1),e6,i0,i0,i0,n6,n6,i0,i0,f6]]),i0])],none,((.tup [(.sl false [[i0,i0]]),(.sl false [[(i6 (-1))]])]),none)⟩ :: awkh_M62
theorem awkh_k63:q03 allT q00 awkh_M63:=awkh_k62.more 3000 _ (by kernel_rfl)
def awkh_M64:List ME:=⟨77,[(.agg [(.sl false [[(i6 5),(.str (.mk #[82])),i0,i0,i0,n6,(.sl false [[(i6 1),(.str (.mk #[120])),(i6 1),f6,t6,(i6 1),f6,i0,e6,i0,n6,n6,n6]]),i0,i0,f6],[(i6 1),e6,i0,i0,i0,n6,n6,i0,i0,f6]])]),i0,(.agg [(.sl false [[(i6 5),(.str (.mk #[82])),i0,i0,i0,n6,n6,i0,i0,f6],[(i6 1),e6,i0,i0,i0,n6,n6,i0,i0,f6]])]),i0],none,(i0,none)⟩ :: awkh_M63
theorem awkh_k64:q03 allT q00 awkh_M64:=awkh_k63.more 3000 _ (by kernel_rfl)
def awkh_M65:List ME:=⟨32,[(.agg [(.sl false [[(i6 5),(.str (.mk #[82])),i0,i0,i0,n6,(.sl false [[(i6 1),(.str (.mk #[120])),(i6 1),f6,t6,(i6 1),f6,i0,e6,i0,n6,n6,n6]]),i0,i0,f6],[(i6 1),e6,i0,i0,i0,n6,n6,i0,i0,f6]]),i0]),(.agg [(.sl false [[(i6 5),(.str (.mk #[82])),i0,i0,i0,n6,n6,i0,i0,f6],[(i6 1),e6,i0,i0,i0,n6,n6,i0,i0,f6]]),i0])],none,((.tup [n6,i0,(i6 15)]),none)⟩ :: awkh_M64
theorem awkh_k65:q03 allT q00 awkh_M65:=awkh_k64.more 3000 _ (by kernel_rfl)
def awkh_M66:List ME:=⟨21,[(.agg [(.sl false [[(i6 5),(.str (.mk #[82])),i0,i0,i0,n6,(.sl false [[(i6 1),(.str (.mk #[120])),(i6 1),f6,t6,(i6 1),f6,i0,e6,i0,n6,n6,n6]]),i0,i0,f6],[(i6 1),e6,i0,i0,i0,n6,n6,i0,i0,f6]]),i0]),(.agg [(.sl false [[(i6 5),(.str (.mk #[82])),i0,i0,i0,n6,n6,i0,i0,f6],[(i6 1),e6,i0,i0,i0,n6,n6,i0,i0,f6]]),i0])],none,((.tup [t6,i0]),none)⟩ :: awkh_M65
theorem awkh_k66:q03 allT q00 awkh_M66:=awkh_k65.more 3000 _ (by kernel_rfl)
def awkh_M67:List ME:=⟨79,[(.agg [(.sl false [[(i6 5),(.str (.mk #[82])),i0,i0,i0,n6,(.sl false [[(i6 1),(.str (.mk #[120])),(i6 1),f6,t6,(i6 1),f6,i0,e6,i0,n6,n6,n6]]),i0,i0,f6],[(i6 1),e6,i0,i0,i0,n6,n6,i0,i0,f6]])]),i0,(.agg [(.sl false [[(i6 5),(.str (.mk #[82])),i0,i0,i0,n6,(.sl false [[(i6 1),(.str (.mk #[120])),(i6 1),f6,t6,(i6 1),f6,i0,e6,i0,n6,n6,n6]]),i0,i0,f6],[(i6 1),e6,i0,i0,i0,n6,n6,i0,i0,f6]])]),i0],none,((.sl false [[(i6 1),(i6 1)]]),none)⟩ :: awkh_M66
theorem awkh_k67:q03 allT q00 awkh_M67:=awkh_k66.more 3000 _ (by kernel_rfl)
def awkh_M68:List ME:=⟨79,[(.agg [(.sl false [[(i6 5),(.str (.mk #[82])),i0,i0,i0,n6,(.sl false [[(i6 1),(.str (.mk #[120])),(i6 1),f6,t6,(i6 1),f6,i0,e6,i0,n6,n6,n6]]),i0,i0,f6],[(i6 1),e6,i0,i0,i0,n6,n6,i0,i0,f6]])]),(i6 1),(.agg [(.sl false [[(i6 5),(.str (.mk #[82])),i0,i0,i0,n6,(.sl false [[(i6 1),(.str (.mk #[120])),(i6 1),f6,t6,(i6 1),f6,i0,e6,i0,n6,n6,n6]]),i0,i0,f6],[(i6 1),e6,i0,i0,i0,n6,n6,i0,i0,f6]])]),(i6 1)],none,(n6,none)⟩ :: awkh_M67
theorem awkh_k68:q03 allT q00 awkh_M68:=awkh_k67.more 3000 _ (by kernel_rfl)
def awkh_M69:List ME:=⟨81,[(.agg [(.sl false [[(i6 5),(.str (.mk #[82])),i0,i0,i0,n6,(.sl false [[(i6 1),(.str (.mk #[120])),(i6 1),f6,t6,(i6 1),f6,i0,e6,i0,n6,n6,n6]]),i0,i0,f6],[(i6 1),e6,i0,i0,i0,n6,n6,i0,i0,f6]]),i0]),(.agg [(.sl false [[(i6 5),(.str (.mk #[82])),i0,i0,i0,n6,(.sl false [[(i6 1),(.str (.mk #[120])),(i6 1),f6,t6,(i6 1),f6,i0,e6,i0,n6,n6,n6]]),i0,i0,f6],[(i6 1),e6,i0,i0,i0,n6,n6,i0,i0,f6]]),i0])],none,((.tup [(.sl false [[i0,i0],[(i6 1),(i6 1)]]),(.sl false [[(i6 (-1))],[i0]])]),none)⟩ :: awkh_M68
theorem awkh_k69:q03 allT q00 awkh_M69:=awkh_k68.more 3000 _ (by kernel_rfl)
def awkh_M70:List ME:=⟨77,[(.agg [(.sl false [[(i6 5),(.str (.mk #[82])),i0,i0,i0,n6,(.sl false [[(i6 1),(.str (.mk #[120])),(i6 1),f6,t6,(i6 1),f6,i0,e6,i0,n6,n6,n6]]),i0,i0,f6],[(i6 1),e6,i0,i0,i0,n6,n6,i0,i0,f6]])]),i0,(.agg [(.sl false [[(i6 5),(.str (.mk #[82])),i0,i0,i0,n6,(.sl false [[(i6 1),(.str (.mk #[120])),(i6 1),f6,t6,(i6 1),f6,i0,e6,i0,n6,n6,n6]]),i0,i0,f6],[(i6 1),e6,i0,i0,i0,n6,n6,i0,i0,f6]])]),i0],none,(i0,none)⟩ :: awkh_M69
theorem awkh_k70:q03 allT q00 awkh_M70:=awkh_k69.more 3000 _ (by kernel_rfl)
def awkh_M71:List ME:=⟨77,[(.agg [(.sl false [[(i6 5),(.str (.mk #[82])),i0,i0,i0,n6,(.sl false [[(i6 1),(.str (.mk #[120])),(i6 1),f6,t6,(i6 1),f6,i0,e6,i0,n6,n6,n6]]),i0,i0,f6],[(i6 1),e6,i0,i0,i0,n6,n6,i0,i0,f6]])]),(i6 1),(.agg [(.sl false [[(i6 5),(.str (.mk #[82])),i0,i0,i0,n6,(.sl false [[(i6 1),(.str (.mk #[120])),(i6 1),f6,t6,(i6 1),f6,i0,e6,i0,n6,n6,n6]]),i0,i0,f6],[(i6 1),e6,i0,i0,i0,n6,n6,i0,i0,f6]])]),(i6 1)],none,(i0,none)⟩ :: awkh_M70
theorem awkh_k71:q03 allT q00 awkh_M71:=awkh_k70.more 3000 _ (by kernel_rfl)
def awkh_M72:List ME:=⟨32,[(.agg [(.sl false [[(i6 5),(.str (.mk #[82])),i0,i0,i0,n6,(.sl false [[(i6 1),(.str (.mk #[120])),(i6 1),f6,t6,(i6 1),f6,i0,e6,i0,n6,n6,n6]]),i0,i0,f6],[(i6 1),e6,i0,i0,i0,n6,n6,i0,i0,f6]]),i0]),(.agg [(.sl false [[(i6 5),(.str (.mk #[82])),i0,i0,i0,n6,(.sl false [[(i6 1),(.str (.mk #[120])),(i6 1),f6,t6,(i6 1),f6,i0,e6,i0,n6,n6,n6]]),i0,i0,f6],[(i6 1),e6,i0,i0,i0,n6,n6,i0,i0,f6]]),i0])],none,((.tup [n6,i0,(i6 15)]),none)⟩ :: awkh_M71
theorem awkh_k72:q03 allT q00 awkh_M72:=awkh_k71.more 3000 _ (by kernel_rfl)
def awkh_M73:List ME:=⟨21,[(.agg [(.sl false [[(i6 5),(.str (.mk #[82])),i0,i0,i0,n6,(.sl false [[(i6 1),(.str (.mk #[120])),(i6 1),f6,t6,(i6 1),f6,i0,e6,i0,n6,n6,n6]]),i0,i0,f6],[(i6 1),e6,i0,i0,i0,n6,n6,i0,i0,f6]]),i0]),(.agg [(.sl false [[(i6 5),(.str (.mk #[82])),i0,i0,i0,n6,(.sl false [[(i6 1),(.str (.mk #[120])),(i6 1),f6,t6,(i6 1),f6,i0,e6,i0,n6,n6,n6]]),i0,i0,f6],[(i6 1),e6,i0,i0,i0,n6,n6,i0,i0,f6]]),i0])],none,((.tup [t6,i0]),none)⟩ :: awkh_M72
theorem awkh_k73:q03 allT q00 awkh_M73:=awkh_k72.more 3000 _ (by kernel_rfl)
def awkh_M74:List ME:=⟨46,[(.sl false [[(.sl false [[(i6 5),(.str (.mk #[82])),i0,i0,i0,n6,(.sl false [[(i6 1),(.str (.mk #[120])),(i6 1),f6,t6,(i6 1),t6,i0,e6,i0,n6,n6,n6]]),i0,i0,f6],[(i6 1),e6,i0,i0,i0,n6,n6,i0,i0,f6]]),i0],[(.sl false [[(i6 5),(.str (.mk #[82])),i0,i0,i0,n6,n6,i0,i0,f6],[(i6 1),e6,i0,i0,i0,n6,n6,i0,i0,f6]]),i0],[(.sl false [[(i6 5),(.str (.mk #[82])),i0,i0,i0,n6,(.sl false [[(i6 1),(.str (.mk #[120])),(i6 1),f6,t6,(i6 1),f6,i0,e6,i0,n6,n6,n6]]),i0,i0,f6],[(i6 1),e6,i0,i0,i0,n6,n6,i0,i0,f6]]),i0]])],none,((.tup [(.sl false [[(.sl false [[t6],[t6],[f6]])],[(.sl false [[t6],[t6],[t6]])],[(.sl false [[f6],[t6],[t6]])]]),i0]),none)⟩ :: awkh_M73
theorem awkh_k74:q03 allT q00 awkh_M74:=awkh_k73.more 3000 _ (by kernel_rfl)
def awkh_M75:List ME:=⟨54,[(.sl false [[(.sl false [[(i6 5),(.str (.mk #[82])),i0,i0,i0,n6,(.sl false [[(i6 1),(.str (.mk #[120])),(i6 1),f6,t6,(i6 1),t6,i0,e6,i0,n6,n6,n6]]),i0,i0,f6],[(i6 1),e6,i0,i0,i0,n6,n6,i0,i0,f6]]),i0],[(.sl false [[(i6 5),(.str (.mk #[82])),i0,i0,i0,n6,n6,i0,i0,f6],[(i6 1),e6,i0,i0,i0,n6,n6,i0,i0,f6]]),i0],[(.sl false [[(i6 5),(.str (.mk #[82])),i0,i0,i0,n6,(.sl false [[(i6 1),(.str (.mk #[120])),(i6 1),f6,t6,(i6 1),f6,i0,e6,i0,n6,n6,n6]]),i0,i0,f6],[(i6 1),e6,i0,i0,i0,n6,n6,i0,i0,f6]]),i0]])],none,((.tup [(.sl false [[i0,(i6 2)]]),i0]),none)⟩ :: awkh_M74
theorem awkh_k75:q03 allT q00 awkh_M75:=awkh_k74.more 3000 _ (by kernel_rfl)
def awkh_M76:List ME:=⟨50,[(.sl false [[(.sl false [[(i6 5),(.str (.mk #[82])),i0,i0,i0,n6,(.sl false [[(i6 1),(.str (.mk #[120])),(i6 1),f6,t6,(i6 1),t6,i0,e6,i0,n6,n6,n6]]),i0,i0,f6],[(i6 1),e6,i0,i0,i0,n6,n6,i0,i0,f6]]),i0],[(.sl false [[(i6 5),(.str (.mk #[82])),i0,i0,i0,n6,n6,i0,i0,f6],[(i6 1),e6,i0,i0,i0,n6,n6,i0,i0,f6]]),i0],[(.sl false [[(i6 5),(.str (.mk #[82])),i0,i0,i0,n6,(.sl false [[(i6 1),(.str (.mk #[120])),(i6 1),f6,t6,(i6 1),f6,i0,e6,i0,n6,n6,n6]]),i0,i0,f6],[(i6 1),e6,i0,i0,i0,n6,n6,i0,i0,f6]]),i0]])],none,((.tup [f6,i0]),none)⟩ :: awkh_M75
theorem awkh_k76:q03 allT q00 awkh_M76:=awkh_k75.more 3000 _ (by kernel_rfl)
def awkh_M77:List ME:=⟨105,[(.agg [(i6 5),(.str (.mk #[82])),i0,i0,i0,n6,(.sl false [[(i6 1),(.str (.mk #[120])),(i6 1),f6,t6,(i6 1),t6,i0,e6,i0,n6,n6,n6]]),i0,i0,f6])],none,((.sl false [[(i6 1)]]),none)⟩ :: awkh_M76
theorem awkh_k77:q03 allT q00 awkh_M77:=awkh_k76.more 3000 _ (by kernel_rfl)
def awkh_M78:List ME:=⟨105,[(.agg [(i6 5),(.str (.mk #[82])),i0,i0,i0,n6,n6,i0,i0,f6])],none,(n6,none)⟩ :: awkh_M77
theorem awkh_k78:q03 allT q00 awkh_M78:=awkh_k77.more 3000 _ (by kernel_rfl)
def awkh_M79:List ME:=⟨105,[(.agg [(i6 5),(.str (.mk #[82])),i0,i0,i0,n6,(.sl false [[(i6 1),(.str (.mk #[120])),(i6 1),f6,t6,(i6 1),f6,i0,e6,i0,n6,n6,n6]]),i0,i0,f6])],none,((.sl false [[(i6 1)]]),none)⟩ :: awkh_M78
theorem awkh_k79:q03 allT q00 awkh_M79:=awkh_k78.more 3000 _ (by kernel_rfl)
def awkh_M80:List ME:=⟨106,[(.sl false [[(i6 1)]]),(i6 1)],none,(t6,none)⟩ :: awkh_M79
theorem awkh_k80:q03 allT q00 awkh_M80:=awkh_k79.more 3000 _ (by kernel_rfl)
def awkh_M81:List ME:=⟨106,[n6,(i6 1)],none,(f6,none)⟩ :: awkh_M80
theorem awkh_k81:q03 allT q00 awkh_M81:=awkh_k80.more 3000 _ (by kernel_rfl)
def awkh_M82:List ME:=⟨40,[(.sl false [[(.sl false [[t6],[t6],[f6]])],[(.sl false [[t6],[t6],[t6]])],[(.sl false [[f6],[t6],[t6]])]]),(.sl false [[(.sl false [[t6],[t6],[f6]])],[(.sl false [[t6],[t6],[t6]])],[(.sl false [[f6],[t6],[t6]])]])],none,(t6,none)⟩ :: awkh_M81
theorem awkh_k82:q03 allT q00 awkh_M82:=awkh_k81.more 3000 _ (by kernel_rfl)
def awkh_M83:List ME:=⟨28,[(.sl false [[i0,(i6 2)]]),(.sl false [[i0,(i6 2)]])],none,(t6,none)⟩ :: awkh_M82
theorem awkh_k83:q03 allT q00 awkh_M83:=awkh_k82.more 3000 _ (by kernel_rfl)
def awkh_M84:List ME:=⟨61,[(.sl false [[(.sl false [[t6],[t6],[f6]])],[(.sl false [[t6],[t6],[t6]])],[(.sl false [[f6],[t6],[t6]])]]),(.int .u8 3)],none,((.int .u8 3),none)⟩ :: awkh_M83
theorem awkh_k84:q03 allT q00 awkh_M84:=awkh_k83.more 3000 _ (by kernel_rfl)
theorem awkh_knows:q03 allT q00 awkh_M84:=awkh_k84
end Go.Proofs.YtbnlmgncbgaepaaGreat
