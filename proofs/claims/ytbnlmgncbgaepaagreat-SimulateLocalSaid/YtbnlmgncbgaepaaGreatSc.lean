/- Part of the proof: the machine, the code of functions, and what it computes. -/
import Derived.Test.YtbnlmgncbgaepaaGreatSb
import Derived.LoopN
import Derived.Deep.Slices
import Derived.Deep.Fields
import Derived.ChangeSame
import Derived.OpenShut
import Derived.Carry
import Derived.ChangeOld
import Derived.SizedLaws
import Derived.Test.YtbnlmgncbgaepaaGreatChecked
import Derived.Lib.Builder
import Derived.Lib.UnsafeStr
import Derived.Shelf.RegionOpenPlain
set_option linter.unusedSimpArgs false
set_option linter.unusedVariables false
set_option linter.unusedSectionVars false
set_option maxRecDepth 100000
set_option maxHeartbeats 8000000
open Option renaming bind_some → y0, bind_eq_some_iff → y9, map_eq_some_iff → yh, map_some → yt
open List renaming map_map → y4, all_eq_true → y6, getElem?_eq_getElem → y7, getElem_mem → y8, getElem?_eq_some_iff → ye, getElem?_map → yf, drop_eq_nil_of_le → yg, mem_cons → yj, map_cons → yk, mem_cons_self → yl, map_nil → yn, mem_cons_of_mem → yp, length_map → yx, mem_map → yz, mem_append → yA, getElem_of_mem → yC, length_take → yD, size_toArray → yS, getElem?_take → yT, getElem?_drop → yU
open Bool renaming and_eq_true → yb, false_eq_true → yr
open Nat renaming le_refl → ym, zero_add → yy, succ_mul → yB, le_trans → yH, mul_le_mul_right → yW, lt_of_lt_of_le → yX
open Array renaming getD_eq_getD_getElem? → yY
namespace Go.Proofs.YtbnlmgncbgaepaaGreat
open Go
section
open Go Go.RowKit
section
variable {P:Program} {O:Objs} {nt B:Nat} {F0:Own} {av0:Av} {w0:World} {s s':MSt} {a:Act} {w w':World} {call:q1z} {lp:LH}
def exOf:Ex->Exit
 | .nrm=>.normal
 | .exit id=>.exit id
 | .ret=>.ret
def LpOk (P:Program) (O:Objs) (N:Nat) (lp:LpT):Prop :=
 ∀ (boxes:List Nat) (nt B:Nat) (F0:Own) (av0:Av) (w0:World) (code:Code) (b:C) (s:MSt) (k:Ex->MSt->Option RV) (r:RV) (a:Act) (w:World) (Q:Exit->Act->World->Prop),comp P boxes nt code=some b->lp b s k=some r->RelE P O nt B F0 av0 w0 (fun _=>False) s a w →
  (∀ e s' a' w',RelE P O nt B F0 av0 w0 (fun _=>False) s' a' w'->k e s'=some r->Q (exOf e) a' w')->Code.rounds P code Q N a w
theorem q2Z (hm:P.follows .mixedOrders=true) (hcall:∀ f args S r,call f args S=some r->q1Y P O f args S r) {N:Nat} (hlp:LpOk P O N lp.l) (hhp:HpOk P O lp.h) {boxes:List Nat} :
  ∀ (code:Code) (c:C) (s:MSt) (k:Ex->MSt->Option RV) (r:RV) (a:Act) (w:World) (Q:Exit->Act->World->Prop),comp P boxes nt code=some c->c.run call lp s k=some r->RelE P O nt B F0 av0 w0 (fun _=>False) s a w →
   (∀ e s' a' w',RelE P O nt B F0 av0 w0 (fun _=>False) s' a' w'->k e s'=some r->Q (exOf e) a' w')->code.wp P Q a w
 | .skip,c,s,k,r,a,w,Q,hc,hr,R,hk=>by
  injection hc with hc;subst hc;exact wp_skip (hk .nrm s a w R hr)
 | .seq x y,c,s,k,r,a,w,Q,hc,hr,R,hk=>by
  unfold comp at hc;split at hc
  ·rename_i cx cy hx hy;injection hc with hc;subst hc;refine wp_seq (q2Z hm hcall hlp hhp x cx s _ r a w _ hx hr R fun e s' a' w' R' he=>?_);cases e with
   | nrm=>exact q2Z hm hcall hlp hhp y cy s' k r a' w' Q hy he R' hk
   | exit id=>exact hk _ _ _ _ R' he
   | ret=>exact hk _ _ _ _ R' he
  ·cases hc
 | .region id ops draw,c,s,k,r,a,w,Q,hc,hr,R,hk=>by
  unfold comp at hc;split at hc
  ·rename_i cs hcs;split at hc
   ·rename_i hok;injection hc with hc;subst hc;simp only [yb,Bool.or_eq_true] at hok;simp only [C.run] at hr;exact region_sound hm hcall hhp hcs hok.1 (fun h=>by rcases hok.2 with h' | h'; rw [h] at h'; cases h'; exact h') R hr fun s' a' w' R' hk'=>hk .nrm _ _ _ R' hk'
   ·cases hc
  ·cases hc
 | .cond x t e,c,s,k,r,a,w,Q,hc,hr,R,hk=>by
  unfold comp at hc;split at hc
  ·rename_i cx ct ce hx ht he;injection hc with hc;subst hc;simp only [C.run] at hr;split at hr
   ·rename_i b hb;have hv:a.eval x=.bool b:=by
     obtain ⟨ι,Θ,R⟩:=R;have:=(R.opd hx).1
     rwa [hb,q0T] at this
    cases b with
    | true=>exact wp_cond_true hv (q2Z hm hcall hlp hhp t ct s k r a w Q ht (by simpa using hr) R hk)
    | false=>exact wp_cond_false hv (q2Z hm hcall hlp hhp e ce s k r a w Q he (by simpa using hr) R hk)
   ·cases hr
  ·cases hc
 | .block id b,c,s,k,r,a,w,Q,hc,hr,R,hk=>by
  unfold comp at hc;obtain ⟨cb,hb,rfl⟩:=yh.1 hc;refine wp_block (q2Z hm hcall hlp hhp b cb s _ r a w _ hb hr R fun e s' a' w' R' he=>?_);cases e with
  | nrm=>exact hk _ _ _ _ R' he
  | ret=>exact hk _ _ _ _ R' he
  | exit j =>
   simp only at he;show Exit.inBlock id Q (.exit j) a' w';unfold Exit.inBlock;split at he
   ·rename_i e; simp only [e,if_true]; exact hk _ _ _ _ R' he
   ·rename_i e; simp only [e,if_false]; exact hk _ _ _ _ R' he
 | .loop b,c,s,k,r,a,w,Q,hc,hr,R,hk=>by
  unfold comp at hc;obtain ⟨cb,hb,rfl⟩:=yh.1 hc;exact wp_loop_rounds N (hlp boxes nt B F0 av0 w0 b cb s k r a w Q hb hr R hk)
 | .exit id,c,s,k,r,a,w,Q,hc,hr,R,hk=>by
  injection hc with hc;subst hc;exact wp_exit (hk (.exit id) s a w R hr)
 | .ret,c,s,k,r,a,w,Q,hc,hr,R,hk=>by
  injection hc with hc;subst hc;exact wp_ret (hk .ret s a w R hr)
 | .scope b,c,s,k,r,a,w,Q,hc,hr,R,hk=>by
  unfold comp at hc;refine wp_scope_straight (q2Z hm hcall hlp hhp b c s k r a w _ hc hr R fun e s' a' w' R' he=>?_);have:=hk _ _ _ _ R' he;cases e <;> exact this
 | .rangeFunc ..,_,_,_,_,_,_,_,hc,_,_,_=>by cases hc
 | .label _,_,_,_,_,_,_,_,hc,_,_,_=>by cases hc
 | .goto _,_,_,_,_,_,_,_,hc,_,_,_=>by cases hc
 | .refuse _,_,_,_,_,_,_,_,hc,_,_,_=>by cases hc
theorem rep_of_S {ι:Ix} {av:Av} {x:AV} {v:Value} (h:RepS ι av (fun _ _=>False) w x v) (hx:x.free=true):Rep av w x v:=by
  cases x <;> first
    | exact h
    | (simp [AV.free,AV.free0] at hx; done)
    | (obtain ⟨us,hv,hc⟩:=h
       exact ⟨us,hv,q40 hc fun y hy=>y6.1 hx y hy⟩)
theorem RepT_length {av:Av}:∀ {xs:List AV} {us:List Value},RepT av w xs us->us.length=xs.length
 | [],_,h=>by simp only [RepT] at h; subst h; rfl
 | x :: r,_,h=>by
  simp only [RepT] at h;obtain ⟨u,us',rfl,_,h⟩:=h;simp [RepT_length h]
theorem qa5 {p:Nat} {av:Av}:∀ {xs:List AV} {us:List Value},q8p p av w xs us->us.length=xs.length
 | [],_,h=>by simp only [q8p] at h; subst h; rfl
 | x :: r,_,h=>by
  simp only [q8p] at h;obtain ⟨u,us',rfl,_,h⟩:=h;simp [qa5 h]
def q9v (ι:Ix) (av avb:Av) (w:World):List AV->List Value->Prop
 | [],us=>us=[]
 | x :: r,us=>∃ u us',us=u :: us'/\RepS ι av avb w x u/\q9v ι av avb w r us'
theorem RepS.toRep {ι:Ix} {av av' avb:Av} {x:AV} {v:Value} (h:RepS ι av avb w x v) (hx:x.free=true) (hav:∀ b o,av' b o->av b o):Rep av' w x v :=
 Rep.held (Held.less hav) _ _ (rep_of_S (free_rep (ι':=ι) h hx) hx)
theorem q9v.toT {ι:Ix} {av av' avb:Av} (hav:∀ b o,av' b o->av b o):∀ {xs:List AV} {us:List Value},q9v ι av avb w xs us->(∀ v∈xs,v.free=true)->RepT av' w xs us
 | [],_,h,_=>h
 | x :: r,_,h,hf=>by
  simp only [q9v] at h;obtain ⟨u,us',rfl,h0,h⟩:=h;exact ⟨u,us',rfl,h0.toRep (hf x yl) hav,h.toT hav fun v hv=>hf v (yp _ hv)⟩
theorem unname_ptr {t n:Nat} {x:AV} (h:(q6k t n x).isObj=true):x=.ptr t n 0:=by
 cases x with
 | ptr t' n' o =>
  simp only [q6k] at h;split at h
  ·rename_i e; obtain ⟨rfl,rfl,rfl⟩:=e; rfl
  ·cases h
 | _=>cases h
theorem unname_free {t n:Nat} {x:AV} (h:(q6k t n x).free=true):q6k t n x=x:=by
 cases x with
 | ptr t' n' o =>
  simp only [q6k] at h;split at h <;> cases h
 | _=>rfl
theorem q9v.toO {ι:Ix} {av av' avb:Av} {t n p:Nat} (hp:ι t n=some p) (hav:∀ b o,av' b o->av b o):∀ {xs:List AV} {us:List Value},q9v ι av avb w xs us->(∀ v∈xs,((q6k t n v).free||(q6k t n v).isObj)=true)->q8p p av' w (xs.map (q6k t n)) us
 | [],_,h,_=>h
 | x :: r,_,h,hf=>by
  simp only [q9v] at h;obtain ⟨u,us',rfl,h0,h⟩:=h;refine ⟨u,us',rfl,?_,h.toO hp hav fun v hv=>hf v (yp _ hv)⟩;have h1:=hf x yl;unfold RepO;split
  ·rename_i ho;have:=unname_ptr ho;subst this;obtain ⟨b,hb,hv⟩:=h0;rw [hp] at hb;injection hb with hb;rw [hv,hb]
  ·rename_i ho;have hfr:(q6k t n x).free=true:=by
    rcases Bool.or_eq_true_iff.1 h1 with h | h
    ·exact h
    ·exact absurd h ho
   have hsame:=unname_free hfr;rw [hsame] at hfr ⊢;exact h0.toRep hfr hav
def avF (s:MSt) (av:Av) (ι:Ix):Av:=fun b o=>av b o/\¬ ∃ t n r,s.mem t n=some r/\ι t n=some b
theorem RepC.frz1 {D:Nat->Prop} {ι:Ix} {Θ:Fam} (R:Rel P O nt B F0 av0 w0 D s a w ι Θ) {x:AV} {u:Value} (h:RepC ι (avA av0 ι Θ) w x u):RepC ι (avF s (avA av0 ι Θ) ι) w (x.frz1 s) u:=by
 have less:Held (avA av0 ι Θ) (avF s (avA av0 ι Θ) ι) w w:=Held.less fun b o h=>h.1
 have same:=RepC.held (Ix.Le.refl ι) less x u h;cases x with
 | ref t n sz off len c =>
  simp only [AV.frz1];split
  ·rename_i l hl;obtain ⟨r,hm,hl⟩:=y9.1 hl;obtain ⟨b,hb,hle,cc,hcc,hz,hv⟩:=h;obtain ⟨hno,b',cur,ty,hb',hheap,hrow,_⟩:=R.rows t n r hm;rw [hb] at hb';injection hb' with hb';subst hb';obtain ⟨h1,h2,us,hL,hus⟩:=q5V hrow hheap hl;subst h1;show Rep _ w (.sl false l) u;simp only [Rep];refine ⟨_,cc,hv,yH hle hcc,fun x hx y hy=>(h2 x hx).trans (h2 y hy).symm,(fun h=>by cases h),fun _=>⟨fun h=>(by cases h),fun _=>⟨b,off,rfl,?_⟩⟩⟩;rw [q39];exact q63 (RepL.held less _ _ hL) fun j u hj=>⟨hus j u hj,fun h=>h.2 ⟨t,n,r,hm,hb⟩⟩
  ·exact same
 | _=>exact same
theorem q0v.frz1 {D:Nat->Prop} {ι:Ix} {Θ:Fam} (R:Rel P O nt B F0 av0 w0 D s a w ι Θ):∀ {xs:List AV} {us:List Value},q0v ι (avA av0 ι Θ) w xs us->q0v ι (avF s (avA av0 ι Θ) ι) w (xs.map (AV.frz1 s)) us
 | [],_,h=>h
 | x :: r,_,h=>by
  simp only [q0v] at h;obtain ⟨u,us',rfl,h0,h1,h⟩:=h;exact ⟨u,us',rfl,h0.frz1 R,h1,h.frz1 R⟩
theorem RepC.frz {D:Nat->Prop} {ι:Ix} {Θ:Fam} (R:Rel P O nt B F0 av0 w0 D s a w ι Θ) {x:AV} {u:Value} (h:RepC ι (avA av0 ι Θ) w x u):RepC ι (avF s (avA av0 ι Θ) ι) w (x.frz0 s) u:=by
 have less:Held (avA av0 ι Θ) (avF s (avA av0 ι Θ) ι) w w:=Held.less fun b o h=>h.1
 have same:=RepC.held (Ix.Le.refl ι) less x u h;cases x with
 | ref t n sz off len c =>
  simp only [AV.frz0];split
  ·rename_i l hl;obtain ⟨r,hm,hl⟩:=y9.1 hl;obtain ⟨b,hb,hle,cc,hcc,hz,hv⟩:=h;obtain ⟨hno,b',cur,ty,hb',hheap,hrow,_⟩:=R.rows t n r hm;rw [hb] at hb';injection hb' with hb';subst hb';obtain ⟨h1,h2,us,hL,hus⟩:=q5V hrow hheap hl;subst h1;show Rep _ w (.sl false l) u;simp only [Rep];refine ⟨_,cc,hv,yH hle hcc,fun x hx y hy=>(h2 x hx).trans (h2 y hy).symm,(fun h=>by cases h),fun _=>⟨fun h=>(by cases h),fun _=>⟨b,off,rfl,?_⟩⟩⟩;rw [q39];exact q63 (RepL.held less _ _ hL) fun j u hj=>⟨hus j u hj,fun h=>h.2 ⟨t,n,r,hm,hb⟩⟩
  ·split
   ·rename_i l hl;obtain ⟨r,hm,hl⟩:=y9.1 hl;obtain ⟨l0,hl0,hl⟩:=y9.1 hl;split at hl
    ·rename_i hfree;injection hl with hl;subst hl;obtain ⟨b,hb,hle,cc,hcc,hz,hv⟩:=h;obtain ⟨hno,b',cur,ty,hb',hheap,hrow,_⟩:=R.rows t n r hm;rw [hb] at hb';injection hb' with hb';subst hb';obtain ⟨h1,h2,us,hL,hus⟩:=q8K hrow hheap hl0;subst h1;have hL1:=q0v.frz1 R hL;rw [List.map_flatten] at hL1;have hL2:=q40 hL1 fun x hx=>y6.1 hfree x hx
     show Rep _ w (.sl false _) u;simp only [Rep];refine ⟨_,cc,by rw [yx]; exact hv,by rw [yx]; exact yH hle hcc,fun x hx y hy=>?_,(fun h=>by cases h),fun _=>⟨fun h=>(by cases h),fun _=>⟨b,off,rfl,?_⟩⟩⟩
     ·obtain ⟨x',hx',rfl⟩:=yz.1 hx;obtain ⟨y',hy',rfl⟩:=yz.1 hy;rw [yx,yx,h2 x' hx',h2 y' hy']
     ·rw [q39];exact q63 hL2 fun j u hj=>⟨hus j u hj,fun h=>h.2 ⟨t,n,r,hm,hb⟩⟩
    ·cases hl
   ·exact same
 | _=>exact same
theorem q0v.frz {D:Nat->Prop} {ι:Ix} {Θ:Fam} (R:Rel P O nt B F0 av0 w0 D s a w ι Θ):∀ {xs:List AV} {us:List Value},q0v ι (avA av0 ι Θ) w xs us->q0v ι (avF s (avA av0 ι Θ) ι) w (xs.map (AV.frz0 s)) us
 | [],_,h=>h
 | x :: r,_,h=>by
  simp only [q0v] at h;obtain ⟨u,us',rfl,h0,h1,h⟩:=h;exact ⟨u,us',rfl,h0.frz R,h1,h.frz R⟩
theorem RepS.frz {D:Nat->Prop} {ι:Ix} {Θ:Fam} (R:Rel P O nt B F0 av0 w0 D s a w ι Θ) {x:AV} {u:Value} (h:RepS ι (avA av0 ι Θ) (avB ι Θ) w x u):RepS ι (avF s (avA av0 ι Θ) ι) (avB ι Θ) w (x.frz s) u:=by
 have less:Held (avA av0 ι Θ) (avF s (avA av0 ι Θ) ι) w w:=Held.less fun b o h=>h.1
 have same:=RepS.held (Ix.Le.refl ι) less (Held.refl _ _) x u h;cases x with
 | agg cs=>obtain ⟨us,hv,hc⟩:=h; exact ⟨us,hv,hc.frz R⟩
 | ref t n sz off len c =>
  have:=RepC.frz R (x:=.ref t n sz off len c) h;show RepS _ _ _ w (AV.frz0 s (.ref t n sz off len c)) u;generalize hy:AV.frz0 s (.ref t n sz off len c)=y at this ⊢;simp only [AV.frz0] at hy;split at hy
  ·subst hy; exact this
  ·split at hy <;> (subst hy; exact this)
 | _=>exact same
theorem q9v.frz {D:Nat->Prop} {ι:Ix} {Θ:Fam} (R:Rel P O nt B F0 av0 w0 D s a w ι Θ):∀ {xs:List AV} {us:List Value},q9v ι (avA av0 ι Θ) (avB ι Θ) w xs us->q9v ι (avF s (avA av0 ι Θ) ι) (avB ι Θ) w (xs.map (AV.frz s)) us
 | [],_,h=>h
 | x :: r,_,h=>by
  simp only [q9v] at h;obtain ⟨u,us',rfl,h0,h⟩:=h;exact ⟨u,us',rfl,h0.frz R,h.frz R⟩
def packV (us:List Value):Value:=if h:us.toArray.size=1 then us.toArray[0] else .tuple us.toArray
theorem pack_rep {av:Av}:∀ {xs:List AV} {us:List Value},RepT av w xs us->Rep av w (pack xs) (packV us)
 | [],us,h=>by simp only [RepT] at h; subst h; exact ⟨#[],rfl,rfl⟩
 | [x],us,h=>by
  simp only [RepT] at h;obtain ⟨u,us',rfl,h0,rfl⟩:=h;exact h0
 | x :: y :: r,us,h=>by
  have hl:=RepT_length h;have:¬ us.toArray.size=1:=by simp; simp at hl; omega
  unfold packV;rw [dif_neg this];exact ⟨_,rfl,h⟩
theorem pack_repN {p:Nat} {av:Av}:∀ {xs:List AV} {us:List Value},q8p p av w xs us->(∀ v∈xs,(v.free||v.isObj)=true)->RepN p av w (pack xs) (packV us)
 | [],us,h,_=>by simp only [q8p] at h; subst h; exact ⟨#[],rfl,rfl⟩
 | [x],us,h,hf=>by
  simp only [q8p] at h;obtain ⟨u,us',rfl,h0,rfl⟩:=h;have:=hf x yl;cases x with
  | tup vs=>cases this
  | _=>exact h0
 | x :: y :: r,us,h,_=>by
  have hl:=qa5 h;have:¬ us.toArray.size=1:=by simp; simp at hl; omega
  unfold packV;rw [dif_neg this];exact ⟨_,rfl,h⟩
def q9m (tmps:Array Value):ResultVar->Sem Value
 | .tmp t=>pure (tmps.getD t undef)
 | .cell b t=>do loadVar t (<- asAddr (tmps.getD b undef))
theorem res_run {D:Nat->Prop} {ι:Ix} {Θ:Fam} (R:Rel P O nt B F0 av0 w0 D s a w ι Θ):∀ {rs:List ResultVar} {cs:List ResC} {vs:List AV},q70 P rs=some cs->resC s cs=some vs →
  ∃ us,(rs.mapM (q9m a.tmps)).run P w=Result.ok us w/\q9v ι (avA av0 ι Θ) (avB ι Θ) w vs us
 | [],cs,vs,h,hr=>by
  injection h with h;subst h;injection hr with hr;subst hr;exact ⟨[],by simp,rfl⟩
 | .tmp t :: rs,cs,vs,h,hr=>by
  unfold q70 at h;obtain ⟨l,hl,rfl⟩:=yh.1 h;simp only [resC] at hr;obtain ⟨vs',hv,rfl⟩:=yh.1 hr;obtain ⟨us,hu,hT⟩:=res_run R hl hv;refine ⟨a.tmps.getD t undef :: us,by rw [List.mapM_cons]; simp only [q9m,Sem.run_bind,Sem.run_pure,Result.andThen_ok,hu],_,us,rfl,R.env t,hT⟩
 | .cell b t :: rs,cs,vs,h,hr=>by
  unfold q70 at h;split at h
  ·rename_i ag z l hA hz hl;injection h with h;subst h;simp only [resC] at hr;split at hr
   ·rename_i t' n off hb;cases hm:s.mem t' n with
    | none=>rw [hm] at hr; cases hr
    | some row =>
     rw [hm,y0] at hr;obtain ⟨x,hx,hr⟩:=y9.1 hr;obtain ⟨vs',hv,rfl⟩:=yh.1 hr;obtain ⟨us,hu,hT⟩:=res_run R hl hv;have hv:=R.env b;rw [hb,q38] at hv;obtain ⟨bb,hbb,hv⟩:=hv;obtain ⟨hnob,b',cur,ty,hb',hheap,hrow,_⟩:=R.rows t' n row hm;rw [hbb] at hb';injection hb' with hb';subst hb';have hcell:∀ (j:Nat) (u:Value),((cur.toList.take row.length).drop off)[j]?=some u->w.cell? ⟨bb,off + j,none⟩=some u:=fun j u hu=>by
      rw [cell_of_row w bb (off + j) cur ty (0,0) hheap];rw [yU,yT] at hu;split at hu
      ·simpa using hu
      ·cases hu
     have hrep:=q2X off hrow.rep;have hi:q58 ag z ((row.map (·.v)).drop off)=some x.v:=by
      cases ag with
      | true =>
       simp only [q17,if_true] at hx;split at hx
       ·rename_i hle;injection hx with hx;subst hx;simp only [q58,if_true,List.length_drop,yx];rw [if_pos (by omega)];simp [List.map_take,List.map_drop]
       ·cases hx
      | false =>
       simp only [q17,yr,if_false] at hx;simp [q58,yU,hx]
     obtain ⟨u,hrun,hS,_⟩:=q97 (P:=P) (avb:=avB ι Θ) hA hz hrep hcell hi;refine ⟨u :: us,by rw [List.mapM_cons]; simp only [q9m,Sem.run_bind,hv,asAddr,Sem.run_pure,Result.andThen_ok,hrun,hu],_,us,rfl,hS,hT⟩
   ·cases hr
  ·cases h
structure FnOk (P:Program) (f:FuncId) (c:FnC):Prop where
 enter:∀ xs w,(callFunc f xs).run P w=.ok (.enter f xs) w
 fn:∃ fn,P.funcs[f]?=some fn/\compF P c.mu fn=some c
theorem RepA_length {ι:Ix} {av avl:Av}:∀ {xs:List AV} {us:List Value},RepA ι av avl w xs us->us.length=xs.length
 | [],_,h=>by simp only [RepA] at h; subst h; rfl
 | x :: r,_,h=>by
  simp only [RepA] at h;obtain ⟨u,us',rfl,_,h⟩:=h;simp [RepA_length h]
theorem RepA_get {ι:Ix} {av avl:Av}:∀ {xs:List AV} {us:List Value} (_:RepA ι av avl w xs us) (t:Nat),RepS ι av avl w (xs.getD t .undef) (us.getD t undef)
 | [],_,_,_=>by simp [RepS]
 | x :: r,_,h,t=>by
  simp only [RepA] at h;obtain ⟨u,us',rfl,h0,h⟩:=h;cases t with
  | zero=>simpa using h0
  | succ t=>simpa using RepA_get h t
theorem init_size {vs:List Value} {args:List AV} {ι:Ix} {av avl:Av} {np:Nat} (h:RepA ι av avl w args vs) (hl:args.length=np) (hn:np<=nt):(vs.toArray++Array.replicate (nt - vs.toArray.size) undef).size=nt:=by
 have:=RepA_length h;simp;omega
theorem init_env {vs:List Value} {args:List AV} {ι ι':Ix} {av av' avb avl:Av} {S0:Option AV} (h:RepA ι av avl w args vs) (hι:Ix.Le ι ι') (hA:Held av av' w w) (hB:Held avl avb w w) (t:Nat) :
  RepS ι' av' avb w ((MSt.init args S0).env t).v ((vs.toArray++Array.replicate (nt - vs.toArray.size) undef).getD t undef):=by
 have h1:=RepS.held hι hA hB _ _ (RepA_get h t);have h2:(vs.toArray++Array.replicate (nt - vs.toArray.size) undef).getD t undef=vs.getD t undef:=by
  simp only [yY,List.getD_eq_getElem?_getD,Array.getElem?_append,yS,List.getElem?_toArray];split
  ·rfl
  ·rename_i hge;rw [List.getElem?_eq_none (by omega)];simp only [Array.getElem?_replicate];split <;> rfl
 rw [h2];exact h1
theorem init_none {vs:List Value} {args:List AV} {av:Av} {np:Nat} (h:RepA Ix.none av (fun _ _=>False) w args vs) (hav:∀ b o,av b o->b<w.heap.size) (hl:args.length=np) (hn:np<=nt) :
  RelE P O nt w.heap.size ⟨fun _=>False,none,fun _=>False,0,fun _=>undef⟩ av w (fun _=>False) (MSt.init args none) { tmps:=vs.toArray++Array.replicate (nt - vs.toArray.size) undef,defers:=[] } w:=by
 have hB0:∀ b o,avB Ix.none (fun _=>none) b o->False:=fun b o h=>by rcases h with (⟨t,n,h⟩ | ⟨t,n,H,h,_⟩) | ⟨k,ow,h,_⟩ <;> cases h
 have hA:Held av (avA av Ix.none (fun _=>none)) w w:=Held.less fun b o h=>h.resolve_right (hB0 b o)
 have hB:Held (fun _ _=>False) (avB Ix.none (fun _=>none)) w w:=Held.less fun b o h=>hB0 b o h
 exact ⟨Ix.none,fun _=>none,rfl,init_size h hl hn,fun t=>init_env h (Ix.Le.refl _) hA hB t,fun t=>trivial,fun t n r h=>(by cases h),fun t n b h=>(by cases h),fun _ _ _ _ _ h=>(by cases h),fun _ _ h=>(by cases h),fun _ _ _ _ h=>(by cases h),fun _ _ _ _ h=>(by cases h),hav,fun _ h=>(by cases h),Keep.refl _ _,rfl,fun t n S h=>(by simp [MSt.init] at h),fun t n H h=>(by cases h),fun _=>trivial,fun _=>trivial⟩
theorem init_some {vs:List Value} {args:List AV} {av:Av} {np p:Nat} {H:Nat->Prop} {S:AV} (h:RepA (Ix.one p) av (fun b _=>H b) w args vs) (hav:∀ b o,av b o->b<w.heap.size) (hH:∀ b o,H b->av b o) (hat:O.at_ S H p w) (hni:noIt S=true) (hl:args.length=np) (hn:np<=nt) :
  RelE P O nt w.heap.size ⟨H,some p,fun _=>False,0,fun _=>undef⟩ av w (fun _=>False) (MSt.init args (some S)) { tmps:=vs.toArray++Array.replicate (nt - vs.toArray.size) undef,defers:=[] } w:=by
 obtain ⟨ι,hι⟩:∃ ι:Ix,ι=⟨fun t n=>if t=0/\n=0 then some p else none,fun t n=>if t=0/\n=0 then some H else none,fun _=>0⟩:=⟨_,rfl⟩;have hf:∀ t n b,ι t n=some b->t=0/\n=0/\b=p:=fun t n b h=>by
  subst hι;have h':(if t=0/\n=0 then some p else none)=some b:=h;split at h'
  ·rename_i e; injection h' with h'; exact ⟨e.1,e.2,h'.symm⟩
  ·cases h'
 have ho:∀ t n H1,ι.ob t n=some H1->t=0/\n=0/\H1=H:=fun t n b h=>by
  subst hι;simp only at h;split at h
  ·rename_i e; injection h with h'; exact ⟨e.1,e.2,h'.symm⟩
  ·cases h
 have h0:ι 0 0=some p:=by subst hι; rfl
 have h1:ι.ob 0 0=some H:=by subst hι; rfl
 have hsub:∀ t n b,Ix.one p t n=some b->ι t n=some b:=fun t n b h=>by subst hι; exact h
 have hle:Ix.Le (Ix.one p) ι:=⟨hsub,fun _ _ _ _=>by subst hι; rfl⟩;clear hι;have hpH:=O.main hat;have hB0:∀ b o,avB ι (fun _=>none) b o->H b:=fun b o h=>by
  rcases h with (⟨t,n,h⟩ | ⟨t,n,H1,h,hb⟩) | ⟨k,ow,h,_⟩
  ·rw [(hf _ _ _ h).2.2]; exact hpH
  ·rw [(ho _ _ _ h).2.2] at hb; exact hb
  ·cases h
 have hA:Held av (avA av ι (fun _=>none)) w w:=Held.less fun b o h=>h.elim id fun h=>hH b o (hB0 b o h)
 refine ⟨ι,fun _=>none,rfl,init_size h hl hn,fun t=>?_,fun t=>trivial,fun t n r h=>(by cases h),fun t n b h=>?_,fun t n t' n' b h h'=>?_,fun _ _ h=>(by cases h),fun _ _ _ _ h=>(by cases h),fun _ _ _ _ h=>(by cases h),hav,fun q h=>?_,Keep.refl _ _,rfl,fun t n S1 h=>?_,fun t n H1 h=>?_,fun _=>trivial,fun _=>trivial⟩
 ·exact init_env h hle hA (Held.less fun b o h=>hB0 b o h) t
 ·obtain ⟨rfl,rfl,rfl⟩:=hf _ _ _ h;exact ⟨.inr hpH,O.lt hat hpH,.inl (by simp [MSt.init])⟩
 ·obtain ⟨rfl,rfl,_⟩:=hf _ _ _ h;obtain ⟨rfl,rfl,_⟩:=hf _ _ _ h';exact ⟨rfl,rfl⟩
 ·injection h with h;subst h;exact ⟨h0,.inr ⟨H,h1⟩⟩
 ·simp only [MSt.init] at h;split at h
  ·rename_i e;injection h with h;subst h;exact ⟨p,H,by rw [e.1,e.2]; exact h0,by rw [e.1,e.2]; exact h1,hat,Tie.no hni⟩
  ·cases h
 ·obtain ⟨rfl,rfl,rfl⟩:=ho _ _ _ h;refine ⟨fun b hb=>⟨.inr hb,O.lt hat hb,fun t' n' h=>?_,fun _ _ h=>(by cases h),fun t' n' H' h _=>?_⟩,.inl (by simp [MSt.init])⟩
  ·obtain ⟨rfl,rfl,_⟩:=hf _ _ _ h; exact ⟨rfl,rfl⟩
  ·obtain ⟨rfl,rfl,_⟩:=ho _ _ _ h; exact ⟨rfl,rfl⟩
theorem init_row {vs:List Value} {args cs:List AV} {av:Av} {np p:Nat} {cur:Array Value} {ty:TypeId} (h:RepA (Ix.row p cur.size) av (fun b _=>b=p) w args vs) (hav:∀ b o,av b o->b<w.heap.size) (hap:∀ o,av p o) (hheap:w.heap[p]?=some (.cells cur ty (0,0))) (hcs:cs.length<=cur.size) (hrep:RepL av w cs (cur.toList.take cs.length)) (hl:args.length=np) (hn:np<=nt) :
  RelE P O nt w.heap.size ⟨fun b=>b=p,some p,fun b=>b=p,cur.size,fun _=>undef⟩ av w (fun _=>False) (MSt.initR args cs) { tmps:=vs.toArray++Array.replicate (nt - vs.toArray.size) undef,defers:=[] } w:=by
 have hf:∀ t n b,(Ix.row p cur.size) t n=some b->t=0/\n=0/\b=p:=fun t n b h=>by
  have h':(if t=0/\n=0 then some p else none)=some b:=h;split at h'
  ·rename_i e; injection h' with h'; exact ⟨e.1,e.2,h'.symm⟩
  ·cases h'
 have hB0:∀ b o,avB (Ix.row p cur.size) (fun _=>none) b o->b=p:=fun b o h=>by
  rcases h with (⟨t,n,h⟩ | ⟨t,n,H1,h,hb⟩) | ⟨k,ow,h,_⟩
  ·exact (hf _ _ _ h).2.2
  ·cases h
  ·cases h
 have hA:Held av (avA av (Ix.row p cur.size) (fun _=>none)) w w:=Held.less fun b o h=>h.elim id fun h=>hB0 b o h ▸ hap o
 refine ⟨Ix.row p cur.size,fun _=>none,rfl,init_size h hl hn,fun t=>?_,fun t=>trivial,fun t n r h=>?_,fun t n b h=>?_,fun t n t' n' b h h'=>?_,fun _ _ h=>(by cases h),fun _ _ _ _ h=>(by cases h),fun _ _ _ _ h=>(by cases h),hav,fun q h=>?_,Keep.refl _ _,rfl,fun t n S1 h=>(by cases h),fun t n H1 h=>(by cases h),fun _=>trivial,fun _=>trivial⟩
 ·exact init_env (S0:=none) h (Ix.Le.refl _) hA (Held.less fun b o h=>hB0 b o h) t
 ·simp only [MSt.initR] at h;split at h
  ·rename_i e;injection h with h;subst h;refine ⟨rfl,p,cur,ty,by rw [e.1,e.2]; rfl,hheap,row_ofz (RepL.held hA _ _ hrep) fun j u hu=>?_,.inr rfl,rfl⟩;have hj:j<cs.length:=by
    have:=(ye.1 hu).1;rw [yD] at this;omega
   rw [List.getElem?_take_of_lt hj] at hu;simpa using hu
  ·cases h
 ·obtain ⟨rfl,rfl,rfl⟩:=hf _ _ _ h;exact ⟨.inr rfl,q0b hheap,.inl (by simp [MSt.initR])⟩
 ·obtain ⟨rfl,rfl,_⟩:=hf _ _ _ h;obtain ⟨rfl,rfl,_⟩:=hf _ _ _ h';exact ⟨rfl,rfl⟩
 ·injection h with h;subst h;exact ⟨rfl,.inl ⟨rfl,rfl⟩⟩
theorem Rel.drop0 {D:Nat->Prop} {ι:Ix} {Θ:Fam} (R:Rel P O nt B F0 av0 w0 D s a w ι Θ):Rel P O nt B F0 av0 w0 D s.drop0 a w ι Θ :=
 ⟨R.defers,R.size,R.env,R.ann,fun t n r h=>by
  simp only [MSt.drop0] at h;split at h
  ·cases h
  ·exact R.rows t n r h,R.mine,R.inj,R.tok,R.tinj,R.apart,R.out,R.pin,R.kept,R.base,R.objs,R.obs,R.gen,R.gann⟩
theorem row_sound (hm:P.follows .mixedOrders=true) {call:q1z} {lp:LH} {N:Nat} (hcall:∀ f args S r,call f args S=some r->q1Y P O f args S r) (hlp:LpOk P O N lp.l) (hhp:HpOk P O lp.h) {f:FuncId} {fn:Func} {c:FnC} (henter:∀ xs w,(callFunc f xs).run P w=.ok (.enter f xs) w) (hfn:P.funcs[f]?=some fn) (hcF:compF P c.mu fn=some c) {rest cs:List AV} {r:RV} (hlen:rest.length=c.np)
  (h:c.code.run call lp (MSt.initR rest cs) (finR c cs.length)=some r):CallRow P f rest (some (.agg cs)) r:=by
 unfold compF at hcF;split at hcF
 ·cases hcF
 ·rename_i code hbody;split at hcF
  ·rename_i cc rr hcc hrr;split at hcF
   ·rename_i hcond;injection hcF with hcF;obtain ⟨mu,hmu⟩:∃ mu,mu=c.mu:=⟨_,rfl⟩;rw [<- hmu] at hcF hcc;clear hmu;subst hcF;have hnp:fn.params.size + fn.nfree<=fn.ntmps:=hcond;refine ⟨henter,?_⟩;obtain ⟨r1,r2⟩:=r
    match r2,h with
    | some (.agg cs'),h =>
     intro av w vs p cur ty hav hap hheap hle hrep hargs;refine calls_of_wp hfn hbody ?_;refine q2Z hm hcall hlp hhp code cc _ _ _ _ w _ hcc h (init_row hargs hav hap hheap hle hrep hlen hnp) fun e s' a' w' R' he=>?_
     have hfin:e=.nrm\/e=.ret:=by
      cases e with
      | nrm=>exact .inl rfl
      | ret=>exact .inr rfl
      | exit id=>cases he
     have he':∃ xs,resC s' rr=some xs/\q6B cs.length s' (xs.map (AV.frz s'.drop0))=some (r1,some (.agg cs')):=by
      rcases hfin with rfl | rfl <;> exact y9.1 he
     obtain ⟨xs,hxs,hfv⟩:=he';obtain ⟨ι,Θ,R'⟩:=R';obtain ⟨us,hus,hT'⟩:=res_run R' hrr hxs;have hres:(results fn a'.tmps).run P w'=.ok (packV us) w':=by
      have he:results fn a'.tmps=(do let vs <- fn.results.mapM (q9m a'.tmps); pure (if h:vs.size=1 then vs[0] else .tuple vs)):=rfl;rw [he,Array.mapM_eq_mapM_toList];simp only [Sem.run_bind,Sem.run_map,hus,Result.andThen_ok,Sem.run_pure];rfl
     have hs:=hT'.frz R'.drop0;unfold q6B at hfv;split at hfv
     ·rename_i hall;obtain ⟨row,hrow0,hfv⟩:=y9.1 hfv;split at hfv
      ·rename_i hcond;injection hfv with hfv;injection hfv with hfv1 hfv2;injection hfv2 with hfv2;injection hfv2 with hfv2;subst hfv1;subst hfv2;obtain ⟨hno,b,cur',ty',hb,hheap',hrow,_,hz⟩:=R'.rows 0 0 row hrow0;obtain ⟨hpp,hpz⟩:=R'.pin p rfl;rw [hpp] at hb;injection hb with hb;subst hb;have hz':ι.z p=cur.size:=by
        rcases hpz with ⟨_,h⟩ | ⟨H,h⟩
        ·exact h
        ·rw [h] at hno; cases hno
       have hsub:∀ b o,av b o->avF s'.drop0 (avA av ι Θ) ι b o:=fun b o h=>⟨.inl h,fun ⟨t,n,r,hm,hb⟩=>by
        simp only [MSt.drop0] at hm;split at hm
        ·cases hm
        ·rename_i hn;obtain ⟨_,b',_,_,hb',_,_,hBb,_⟩:=R'.rows t n r hm;rw [hb] at hb';injection hb' with hb';subst hb';rcases hBb with hBb | hBb
         ·have:=hav _ _ h; omega
         ·have:b=p:=hBb;subst this;exact hn (R'.inj _ _ _ _ _ hb hpp)⟩
       have post:a'.defers=[]/\∃ v,(results fn a'.tmps).run P w'=.ok v w'/\∃ v' cur'' ty'',Ending.returned v=.returned v'/\Rep av w' (pack (xs.map (AV.frz s'.drop0))) v'/\w'.heap[p]?=some (.cells cur'' ty'' (0,0))/\cur''.size=cur.size/\RepL av w' (row.map fun x=>AV.frz0 s'.drop0 x.v) (cur''.toList.take (row.map fun x=>AV.frz0 s'.drop0 x.v).length)/\Keep (fun b=>b=p) w w':=by
        refine ⟨R'.defers,_,hres,_,cur',ty',rfl,pack_rep (hs.toT hsub fun v hv=>y6.1 hall v hv),hheap',hz.trans hz',?_,R'.kept⟩;have h1:=hrow.rep.frz R'.drop0;rw [y4] at h1;have h2:=q40 h1 fun x hx=>y6.1 hcond.1 x hx
        rw [yx];exact RepL.held (Held.less hsub) _ _ h2
       rcases hfin with rfl | rfl <;> exact post
      ·cases hfv
     ·cases hfv
    | none,h=>trivial
    | some (.int ..),h=>trivial
    | some (.bool _),h=>trivial
    | some (.str _),h=>trivial
    | some .nilP,h=>trivial
    | some (.ptr ..),h=>trivial
    | some (.ip _),h=>trivial
    | some (.bp _),h=>trivial
    | some (.sl ..),h=>trivial
    | some (.bl _),h=>trivial
    | some (.ref ..),h=>trivial
    | some (.mp ..),h=>trivial
    | some (.fn ..),h=>trivial
    | some (.tup _),h=>trivial
    | some .undef,h=>trivial
   ·cases hcF
  ·cases hcF
theorem resS_run {D:Nat->Prop} {ι:Ix} {Θ:Fam} (R:Rel P O nt B F0 av0 w0 D s a w ι Θ):∀ {rs:List ResultVar} {cs:List ResC} {vs:List Slot},q70 P rs=some cs->resS s cs=some vs →
  ∃ us,(rs.mapM (q9m a.tmps)).run P w=Result.ok us w/\q5Y ι Θ (avA av0 ι Θ) (avB ι Θ) w vs us
 | [],cs,vs,h,hr=>by
  injection h with h;subst h;injection hr with hr;subst hr;exact ⟨[],by simp,rfl⟩
 | .tmp t :: rs,cs,vs,h,hr=>by
  unfold q70 at h;obtain ⟨l,hl,rfl⟩:=yh.1 h;simp only [resS] at hr;obtain ⟨vs',hv,rfl⟩:=yh.1 hr;obtain ⟨us,hu,hT⟩:=resS_run R hl hv;refine ⟨a.tmps.getD t undef :: us,by rw [List.mapM_cons]; simp only [q9m,Sem.run_bind,Sem.run_pure,Result.andThen_ok,hu],_,us,rfl,R.env t,R.ann t,hT⟩
 | .cell b t :: rs,cs,vs,h,hr=>by
  unfold q70 at h;split at h
  ·rename_i ag z l hA hz hl;injection h with h;subst h;simp only [resS] at hr;split at hr
   ·rename_i t' n off hb;cases hm:s.mem t' n with
    | none=>rw [hm] at hr; cases hr
    | some row =>
     rw [hm,y0] at hr;obtain ⟨x,hx,hr⟩:=y9.1 hr;obtain ⟨vs',hv,rfl⟩:=yh.1 hr;obtain ⟨us,hu,hT⟩:=resS_run R hl hv;have hv:=R.env b;rw [hb,q38] at hv;obtain ⟨bb,hbb,hv⟩:=hv;obtain ⟨hnob,b',cur,ty,hb',hheap,hrow,_⟩:=R.rows t' n row hm;rw [hbb] at hb';injection hb' with hb';subst hb';have hcell:∀ (j:Nat) (u:Value),((cur.toList.take row.length).drop off)[j]?=some u->w.cell? ⟨bb,off + j,none⟩=some u:=fun j u hu=>by
      rw [cell_of_row w bb (off + j) cur ty (0,0) hheap];rw [yU,yT] at hu;split at hu
      ·simpa using hu
      ·cases hu
     have hrep:=q2X off hrow.rep;have hi:q58 ag z ((row.map (·.v)).drop off)=some x.v:=by
      cases ag with
      | true =>
       simp only [q17,if_true] at hx;split at hx
       ·rename_i hle;injection hx with hx;subst hx;simp only [q58,if_true,List.length_drop,yx];rw [if_pos (by omega)];simp [List.map_take,List.map_drop]
       ·cases hx
      | false =>
       simp only [q17,yr,if_false] at hx;simp [q58,yU,hx]
     obtain ⟨u,hrun,hS,_⟩:=q97 (P:=P) (avb:=avB ι Θ) hA hz hrep hcell hi;refine ⟨u :: us,by rw [List.mapM_cons]; simp only [q9m,Sem.run_bind,hv,asAddr,Sem.run_pure,Result.andThen_ok,hrun,hu],u,us,rfl,hS,trivial,hT⟩
   ·cases hr
  ·cases h
theorem q7v {ι:Ix} {Θ:Fam} {av avb:Av}:∀ {xs:List Slot} {us:List Value},q5Y ι Θ av avb w xs us->us.length=xs.length
 | [],_,h=>by simp only [q5Y] at h; subst h; rfl
 | x :: r,_,h=>by
  simp only [q5Y] at h;obtain ⟨u,us',rfl,_,_,h⟩:=h;simp [q7v h]
theorem RepSs_get {ι:Ix} {Θ:Fam} {av avb:Av}:∀ {xs:List Slot} {us:List Value} (_:q5Y ι Θ av avb w xs us) (t:Nat),RepS ι av avb w (xs.getD t ⟨.undef,.no⟩).v (us.getD t undef)/\AnOk Θ (xs.getD t ⟨.undef,.no⟩).a (us.getD t undef)
 | [],_,_,_=>by simp [RepS,AnOk]
 | x :: r,_,h,t=>by
  simp only [q5Y] at h;obtain ⟨u,us',rfl,h0,h1,h⟩:=h;cases t with
  | zero=>simpa using ⟨h0,h1⟩
  | succ t=>simpa using RepSs_get h t
theorem RepU_ofS {ι:Ix} {av avb:Av} {x:AV} {v:Value} (h:RepS ι av avb w x v) (hx:x.tupOk=true):RepU ι av w x v:=by
 cases x <;> first
  | exact h
  | (cases hx; done)
theorem RepCT_ofSs {ι:Ix} {Θ:Fam} {av avb:Av}:∀ {xs:List Slot} {us:List Value},q5Y ι Θ av avb w xs us->xs.all (fun x=>x.v.tupOk)=true->q5i ι av w (xs.map (·.v)) us
 | [],_,h,_=>h
 | x :: r,_,h,hf=>by
  simp only [q5Y] at h;obtain ⟨u,us',rfl,h0,_,h⟩:=h;simp only [List.all_cons,yb] at hf;exact ⟨u,us',rfl,RepU_ofS h0 hf.1,RepCT_ofSs h hf.2⟩
theorem packS_rep {ι:Ix} {Θ:Fam} {av avb:Av}:∀ {xs:List Slot} {us:List Value} {y:Slot},q5Y ι Θ av avb w xs us->packS xs=some y->RepS ι av avb w y.v (packV us)/\AnOk Θ y.a (packV us)
 | [],us,y,h,hp=>by
  simp only [q5Y] at h;subst h;injection hp with hp;subst hp;exact ⟨⟨#[],rfl,rfl⟩,trivial⟩
 | [x],us,y,h,hp=>by
  simp only [q5Y] at h;obtain ⟨u,us',rfl,h0,h1,rfl⟩:=h;injection hp with hp;subst hp;exact ⟨h0,h1⟩
 | x :: z :: r,us,y,h,hp=>by
  have hl:=q7v h;have:¬ us.toArray.size=1:=by simp; simp at hl; omega
  unfold packV;rw [dif_neg this];unfold packS at hp;split at hp
  ·rename_i e; cases e
  ·split at hp
   ·rename_i hall;injection hp with hp;subst hp;exact ⟨⟨_,rfl,RepCT_ofSs h hall⟩,trivial⟩
   ·cases hp
theorem initH_rel {B:Nat} {F0:Own} {av0:Av} {w0 w:World} {ι:Ix} {Θ:Fam} {xs:List Slot} {us:List Value} (R:RelG P O B F0 av0 w0 s w ι Θ) (h:q5Y ι Θ (avA av0 ι Θ) (avB ι Θ) w xs us) {np:Nat} (hl:xs.length=np) (hn:np<=nt) :
  Rel P O nt B F0 av0 w0 (fun _=>False) (s.initH xs) { tmps:=us.toArray++Array.replicate (nt - us.toArray.size) undef,defers:=[] } w ι Θ:=by
 have hg:∀ t,(us.toArray++Array.replicate (nt - us.toArray.size) undef).getD t undef=us.getD t undef:=fun t=>by
  simp only [yY,List.getD_eq_getElem?_getD,Array.getElem?_append,yS,List.getElem?_toArray];split
  ·rfl
  ·rename_i hge;rw [List.getElem?_eq_none (by omega)];simp only [Array.getElem?_replicate];split <;> rfl
 have hsz:(us.toArray++Array.replicate (nt - us.toArray.size) undef).size=nt:=by
  have:=q7v h;simp;omega
 exact ⟨rfl,hsz,fun t=>by simp only [MSt.initH]; rw [hg]; exact (RepSs_get h t).1,fun t=>by simp only [MSt.initH]; rw [hg]; exact (RepSs_get h t).2,R.rows,R.mine,R.inj,R.tok,R.tinj,R.apart,R.out,R.pin,R.kept,R.base,R.objs,R.obs,R.gen,R.gann⟩
theorem Rel.bare {D:Nat->Prop} {ι:Ix} {Θ:Fam} (R:Rel P O nt B F0 av0 w0 (fun _=>False) s a w ι Θ):RelG P O B F0 av0 w0 s w ι Θ :=
 ⟨rfl,rfl,fun _=>trivial,fun _=>trivial,R.rows,R.mine,R.inj,R.tok,R.tinj,R.apart,R.out,R.pin,R.kept,R.base,R.objs,R.obs,R.gen,R.gann⟩
theorem heap_sound (hm:P.follows .mixedOrders=true) {call:q1z} {lp:LH} {N:Nat} (hcall:∀ f args S r,call f args S=some r->q1Y P O f args S r) (hlp:LpOk P O N lp.l) (hhp:HpOk P O lp.h) {f:FuncId} {fn:Func} {c:FnC} (henter:∀ xs w,(callFunc f xs).run P w=.ok (.enter f xs) w) (hfn:P.funcs[f]?=some fn) (hcF:compF P c.mu fn=some c) {xs:List Slot} {k:Slot->MSt->Option RV} {r:RV} (hlen:xs.length=c.np)
  (h:c.code.run call lp (s.initH xs) (finH c k)=some r):(∀ vs w,(callFunc f vs).run P w=.ok (.enter f vs) w) ∧
 ∀ (B:Nat) (F0:Own) (av0:Av) (w0 w:World) (ι:Ix) (Θ:Fam) (us:List Value) (E:Ending->World->Prop),RelG P O B F0 av0 w0 s w ι Θ->q5Y ι Θ (avA av0 ι Θ) (avB ι Θ) w xs us →
  (∀ y s' w' ι' Θ' v,RelG P O B F0 av0 w0 s' w' ι' Θ'->RepS ι' (avA av0 ι' Θ') (avB ι' Θ') w' y.v v->AnOk Θ' y.a v->k y s'=some r->E (.returned v) w')->Calls P f us.toArray w E:=by
 unfold compF at hcF;split at hcF
 ·cases hcF
 ·rename_i code hbody;split at hcF
  ·rename_i cc rr hcc hrr;split at hcF
   ·rename_i hcond;injection hcF with hcF;obtain ⟨mu,hmu⟩:∃ mu,mu=c.mu:=⟨_,rfl⟩;rw [<- hmu] at hcF hcc;clear hmu;subst hcF;have hnp:fn.params.size + fn.nfree<=fn.ntmps:=hcond;refine ⟨henter,fun B F0 av0 w0 w ι Θ us E R hxs hE=>?_⟩;refine calls_of_wp hfn hbody ?_;refine q2Z hm hcall hlp hhp code cc _ _ _ _ w _ hcc h ⟨ι,Θ,initH_rel R hxs hlen hnp⟩ fun e s' a' w' R' he=>?_
    have hfin:e=.nrm\/e=.ret:=by
     cases e with
     | nrm=>exact .inl rfl
     | ret=>exact .inr rfl
     | exit id=>cases he
    have he':∃ y,(resS s' rr).bind packS=some y/\k y s'=some r:=by
     rcases hfin with rfl | rfl <;> exact y9.1 he
    obtain ⟨y,hy,hk⟩:=he';obtain ⟨l,hl,hp⟩:=y9.1 hy;obtain ⟨ι',Θ',R'⟩:=R';obtain ⟨vs,hvs,hT'⟩:=resS_run R' hrr hl;have hres:(results fn a'.tmps).run P w'=.ok (packV vs) w':=by
     have he:results fn a'.tmps=(do let vs <- fn.results.mapM (q9m a'.tmps); pure (if h:vs.size=1 then vs[0] else .tuple vs)):=rfl;rw [he,Array.mapM_eq_mapM_toList];simp only [Sem.run_bind,Sem.run_map,hvs,Result.andThen_ok,Sem.run_pure];rfl
    obtain ⟨hr1,hr2⟩:=packS_rep hT' hp;have post:a'.defers=[]/\∃ v,(results fn a'.tmps).run P w'=.ok v w'/\E (.returned v) w':=⟨R'.defers,_,hres,hE y s' w' ι' Θ' _ (Rel.bare (D:=fun _=>False) R') hr1 hr2 hk⟩;rcases hfin with rfl | rfl <;> exact post
   ·cases hcF
  ·cases hcF
theorem markR_some {args rest:List AV} (h:markR args=some rest):args=.undef :: .undef :: rest:=by
 unfold markR at h;split at h
 ·injection h with h; subst h; rfl
 ·cases h
theorem call_sound (hm:P.follows .mixedOrders=true) {T:Nat->Option FnC} {ext:q1z} (hT:∀ f c,T f=some c->FnOk P f c) (hext:∀ f args S r,ext f args S=some r->q1Y P O f args S r) :
  ∀ N,(∀ f args S r,q3s T ext N f args S=some r->q1Y P O f args S r)/\LpOk P O N (lpN T ext N)/\HpOk P O (hpN T ext N)
 | 0=>by
  refine ⟨fun f args S r h=>?_,fun _ _ _ _ _ _ _ _ _ _ _ _ _ _ _ h _ _=>(by cases h),fun _ _ _ _ _ h=>(by cases h)⟩;unfold q3s at h;split at h
  ·exact hext f args S r h
  ·cases h
 | N + 1=>by
  obtain ⟨ih1,ih2,ih3⟩:=call_sound hm hT hext N;refine ⟨fun f args S0 r h=>?_,fun boxes nt B F0 av0 w0 code b s k r a w Q hc h R hk=>?_,fun f xs s k r h=>?_⟩
  ·unfold q3s at h;split at h
   ·exact hext f args S0 r h
   ·rename_i c hTc;obtain ⟨henter,fn,hfn,hcF⟩:=hT f c hTc;cases hmk:markR args with
    | some rest =>
     rw [hmk] at h
     match S0,h with
     | some (.agg cs),h =>
      simp only at h;split at h
      ·rename_i hl;rw [markR_some hmk];exact row_sound (lp:=⟨lpN T ext N,hpN T ext N⟩) hm ih1 ih2 ih3 henter hfn hcF hl.1 h
      ·cases h
     | none,h=>cases h
     | some (.int ..),h=>cases h
     | some (.bool _),h=>cases h
     | some (.str _),h=>cases h
     | some .nilP,h=>cases h
     | some (.ptr ..),h=>cases h
     | some (.ip _),h=>cases h
     | some (.bp _),h=>cases h
     | some (.sl ..),h=>cases h
     | some (.bl _),h=>cases h
     | some (.ref ..),h=>cases h
     | some (.mp ..),h=>cases h
     | some (.fn ..),h=>cases h
     | some (.tup _),h=>cases h
     | some .undef,h=>cases h
    | none =>
    rw [hmk] at h;simp only at h;split at h
    ·rename_i hlm;obtain ⟨hlen,hmark,hnoit⟩:=hlm;unfold compF at hcF;split at hcF
     ·cases hcF
     ·rename_i code hbody;split at hcF
      ·rename_i cc rr hcc hrr;split at hcF
       ·rename_i hcond;injection hcF with hcF;obtain ⟨mu,hmu⟩:∃ mu,mu=c.mu:=⟨_,rfl⟩;rw [<- hmu] at hcF hcc;clear hmu;subst hcF;have hnp:fn.params.size + fn.nfree<=fn.ntmps:=hcond;have ending:∀ {F0:Own} {av:Av} {w:World} {vs:List Value} {E:Ending->World->Prop},
          RelE P O fn.ntmps w.heap.size F0 av w (fun _=>False) (MSt.init args S0) { tmps:=vs.toArray++Array.replicate (fn.ntmps - vs.toArray.size) undef,defers:=[] } w →
          (∀ (s':MSt) (a':Act) (w':World) (ι:Ix) (Θ:Fam) (us:List Value) (xs:List AV),Rel P O fn.ntmps w.heap.size F0 av w (fun _=>False) s' a' w' ι Θ->q9v ι (avF s' (avA av ι Θ) ι) (avB ι Θ) w' xs us->finV S0 s' xs=some r->E (.returned (packV us)) w')->Calls P f vs.toArray w E:=fun {F0 av w vs E} R hE=>by
         refine calls_of_wp hfn hbody ?_;refine q2Z (lp:=⟨lpN T ext N,hpN T ext N⟩) hm ih1 ih2 ih3 code cc _ _ r _ w _ hcc h R fun e s' a' w' R' he=>?_
         have hfin:e=.nrm\/e=.ret:=by
          cases e with
          | nrm=>exact .inl rfl
          | ret=>exact .inr rfl
          | exit id=>cases he
         have he':∃ xs,resC s' rr=some xs/\finV S0 s' (xs.map (AV.frz s'))=some r:=by
          rcases hfin with rfl | rfl <;> exact y9.1 he
         obtain ⟨xs,hxs,hfv⟩:=he';obtain ⟨ι,Θ,R'⟩:=R';obtain ⟨us,hus,hT'⟩:=res_run R' hrr hxs;have hres:(results fn a'.tmps).run P w'=.ok (packV us) w':=by
          have he:results fn a'.tmps=(do let vs <- fn.results.mapM (q9m a'.tmps); pure (if h:vs.size=1 then vs[0] else .tuple vs)):=rfl;rw [he,Array.mapM_eq_mapM_toList];simp only [Sem.run_bind,Sem.run_map,hus,Result.andThen_ok,Sem.run_pure];rfl
         have post:a'.defers=[]/\∃ v,(results fn a'.tmps).run P w'=.ok v w'/\E (.returned v) w':=⟨R'.defers,_,hres,hE s' a' w' ι Θ us _ R' (hT'.frz R') hfv⟩;rcases hfin with rfl | rfl <;> exact post
        refine (q1Y.of hmark).2 ⟨henter,?_⟩;obtain ⟨r1,r2⟩:=r;cases S0 with
        | none =>
         cases r2 with
         | none =>
          intro av w vs hav hargs;refine ending (init_none hargs hav hlen hnp) fun s' a' w' ι Θ us xs R' hs hfv=>?_
          refine ⟨_,rfl,?_,R'.kept.below⟩;simp only [finV] at hfv;split at hfv
          ·rename_i hall;injection hfv with hfv;injection hfv with hfv;subst hfv;exact pack_rep (hs.toT (fun b o h=>⟨.inl h,fun ⟨t,n,r,hm,hb⟩=>by
            obtain ⟨_,b',cur,ty,hb',_,_,hBb,_⟩:=R'.rows t n r hm;rw [hb] at hb';injection hb' with hb';subst hb';have:=hav _ _ h;have:=hBb.elim id False.elim;omega⟩) fun v hv=>y6.1 hall v hv)
          ·split at hfv
           ·split at hfv
            ·split at hfv <;> cases hfv
            ·cases hfv
           ·cases hfv
         | some S' =>
          intro av w vs hav hargs;refine ending (init_none hargs hav hlen hnp) fun s' a' w' ι Θ us xs R' hs hfv=>?_
          simp only [finV] at hfv;split at hfv
          ·cases hfv
          ·split at hfv
           ·rename_i t n _;split at hfv
            ·rename_i S hS;split at hfv
             ·rename_i hall;injection hfv with hfv;injection hfv with hfv1 hfv2;injection hfv2 with hfv2;subst hfv1;subst hfv2;obtain ⟨p,H,hp,hob,hat,_⟩:=R'.objs t n S hS;refine ⟨_,p,H,rfl,?_,hat,fun b hb=>(((R'.obs t n H hob).1 b hb).1).elim id False.elim,R'.kept.below⟩;have hall':∀ v∈xs,((q6k t n v).free||(q6k t n v).isObj)=true:=fun v hv=>y6.1 hall _ (List.mem_map_of_mem hv)
              refine pack_repN (hs.toO hp (fun b o h=>?_) hall') fun v hv=>y6.1 hall v hv
              refine ⟨?_,fun ⟨t',n',r,hm,hb⟩=>?_⟩
              ·rcases h with h | h
               ·exact .inl h
               ·exact .inr (.inl (.inr ⟨t,n,H,hob,h⟩))
              ·obtain ⟨hno,b',cur,ty,hb',_,_,hBb,_⟩:=R'.rows t' n' r hm;rw [hb] at hb';injection hb' with hb';subst hb';rcases h with h | h
               ·have:=hav _ _ h;have:=hBb.elim id False.elim;omega
               ·have e:=((R'.obs t n H hob).1 b h).2.2.1 t' n' hb;rw [e.1,e.2,hob] at hno;cases hno
             ·cases hfv
            ·cases hfv
           ·cases hfv
        | some S =>
         cases r2 with
         | none =>
          trivial
         | some S' =>
          intro av w vs p H hav hH hat hargs;have hni:noIt S=true:=hnoit;refine ending (init_some hargs hav hH hat hni hlen hnp) fun s' a' w' ι Θ us xs R' hs hfv=>?_
          simp only [finV] at hfv;split at hfv
          ·rename_i hall;obtain ⟨S1,hS1,hfv⟩:=yh.1 hfv;injection hfv with hfv1 hfv2;injection hfv2 with hfv2;subst hfv1;subst hfv2;obtain ⟨p',H',hp,hob,hat',_⟩:=R'.objs 0 0 S1 hS1;have hpp:=(R'.pin p rfl).1;rw [hpp] at hp;injection hp with hp;subst hp;refine ⟨_,H',rfl,pack_rep (hs.toT (fun b o h=>?_) fun v hv=>y6.1 hall v hv),hat',fun b hb=>(((R'.obs 0 0 H' hob).1 b hb).1).symm,R'.kept⟩;refine ⟨?_,fun ⟨t',n',r,hm,hb⟩=>?_⟩
           ·rcases h with h | h
            ·exact .inl h
            ·exact .inr (.inl (.inr ⟨0,0,H',hob,h⟩))
           ·obtain ⟨hno,b',cur,ty,hb',_,_,hBb,_⟩:=R'.rows t' n' r hm;rw [hb] at hb';injection hb' with hb';subst hb';rcases h with h | h
            ·have:=hav _ _ h;have:=hBb.elim id False.elim;omega
            ·have e:=((R'.obs 0 0 H' hob).1 b h).2.2.1 t' n' hb;rw [e.1,e.2,hob] at hno;cases hno
          ·cases hfv
       ·cases hcF
      ·cases hcF
    ·cases h
  ·unfold lpN at h;rw [rounds_succ];refine q2Z (lp:=⟨lpN T ext N,hpN T ext N⟩) hm ih1 ih2 ih3 code b s _ r a w _ hc h R fun e s' a' w' R' he=>?_
   cases e with
   | nrm=>exact ih2 boxes nt B F0 av0 w0 code b s' k r a' w' Q hc he R' hk
   | exit id=>exact hk _ _ _ _ R' he
   | ret=>exact hk _ _ _ _ R' he
  ·unfold hpN at h;split at h
   ·cases h
   ·rename_i c hTc;obtain ⟨henter,fn,hfn,hcF⟩:=hT f c hTc;split at h
    ·rename_i hlen;exact heap_sound (lp:=⟨lpN T ext N,hpN T ext N⟩) hm ih1 ih2 ih3 henter hfn hcF hlen h
    ·cases h
end
end
section
section
variable {α:Type}
def Late (p:Nat->Prop):Prop:=∃ n,∀ m,n<=m->p m
theorem Late.and {p q:Nat->Prop} (h:Late p) (h':Late q):Late fun m=>p m/\q m:=by
 obtain ⟨n,h⟩:=h;obtain ⟨n',h'⟩:=h';exact ⟨max n n',fun m hm=>⟨h m (by omega),h' m (by omega)⟩⟩
theorem Late.imp {p q:Nat->Prop} (h:Late p) (hi:∀ m,p m->q m):Late q:=by
 obtain ⟨n,h⟩:=h;exact ⟨n,fun m hm=>hi m (h m hm)⟩
theorem Late.now {p:Prop} (h:p):Late fun _=>p:=⟨0,fun _ _=>h⟩
theorem Late.succ {p:Nat->Prop} (h:Late p):Late fun m=>p (m + 1):=by
 obtain ⟨n,h⟩:=h;exact ⟨n,fun m hm=>h (m + 1) (by omega)⟩
theorem Late.pred {p:Nat->Prop} (h:Late fun m=>p (m + 1)):Late p:=by
 obtain ⟨n,h⟩:=h;exact ⟨n + 1,fun m hm=>by have:=h (m - 1) (by omega); simp only at this; rwa [show m - 1 + 1=m from by omega] at this⟩
theorem Late.some {p:Nat->Prop} (h:Late p):∃ m,p m:=by
 obtain ⟨n,h⟩:=h;exact ⟨n,h n (ym _)⟩
theorem run_late {s:MSt} {callA:q1z} {callB:Nat->q1z} (hc:∀ f args S r,callA f args S=some r->Late fun m=>callB m f args S=some r) (k:K) {xe:Slot × Eff} (h:k.run callA s=some xe):Late fun m=>k.run (callB m) s=some xe:=by
 cases k with
 | call cl f xs =>
  simp only [K.run] at h ⊢;cases hl:q2M s cl xs with
  | none=>rw [hl] at h; cases h
  | some vs =>
   rw [hl] at h;simp only [y0] at h ⊢;split at h
   ·obtain ⟨r,hr,h⟩:=y9.1 h;exact (hc f vs _ r hr).imp fun m hm=>by rw [hm]; exact h
   ·obtain ⟨r,hr,h⟩:=y9.1 h;exact (hc f vs _ r hr).imp fun m hm=>by rw [hm]; exact h
   ·cases h
 | callf cl f z xs =>
  simp only [K.run] at h ⊢;cases hl:q2M s cl xs with
  | none=>rw [hl] at h; cases h
  | some vs =>
   rw [hl] at h;simp only [y0] at h ⊢;split at h
   ·obtain ⟨r,hr,h⟩:=y9.1 h;exact (hc f (.undef :: vs) _ r hr).imp fun m hm=>by rw [hm]; exact h
   ·cases h
 | callv cl x xs =>
  simp only [K.run] at h ⊢;split at h
  ·rename_i f cs hx
   try simp only [hx]
   split at h
   ·rename_i vs ws hl hw ho
    try simp only [hl,hw,ho]
    obtain ⟨r,hr,h⟩:=y9.1 h;exact (hc f (vs++ws) _ r hr).imp fun m hm=>by rw [hm]; exact h
   ·cases h
  ·cases h
 | callr cl f xs =>
  simp only [K.run] at h ⊢;split at h
  ·rename_i t n hp
   try simp only [hp]
   split at h
   ·rename_i hok;simp only [if_pos hok];split at h
    ·rename_i r vs hr hv
     try simp only [hr,hv]
     split at h
     ·rename_i hall;simp only [if_pos hall];obtain ⟨q,hq,h⟩:=y9.1 h;exact (hc f _ _ q hq).imp fun m hm=>by rw [hm]; exact h
     ·cases h
    ·cases h
   ·cases h
  ·cases h
 | _=>exact Late.now h
theorem step_late {s s1:MSt} {callA:q1z} {callB:Nat->q1z} (hc:∀ f args S r,callA f args S=some r->Late fun m=>callB m f args S=some r) (o:OpC) (h1:o.step callA s=some s1):Late fun m=>o.step (callB m) s=some s1:=by
 unfold OpC.step at h1 ⊢;cases hg:o.guard with
 | none =>
  rw [hg] at h1;simp only at h1 ⊢;obtain ⟨xe,hx,he⟩:=y9.1 h1;exact (run_late hc o.op hx).imp fun m hm=>by rw [hm]; exact he
 | some p =>
  obtain ⟨t,want⟩:=p;rw [hg] at h1;simp only at h1 ⊢;cases hv:(s.env t).v with
  | bool b =>
   rw [hv] at h1;simp only at h1 ⊢;by_cases hb:b=want
   ·rw [if_pos hb] at h1;simp only [if_pos hb];obtain ⟨xe,hx,he⟩:=y9.1 h1;exact (run_late hc o.op hx).imp fun m hm=>by rw [hm]; exact he
   ·rw [if_neg hb] at h1;simp only [if_neg hb];exact Late.now h1
  | tup l=>rw [hv] at h1; cases l with
   | nil=>exact Late.now h1
   | cons=>cases h1
  | _=>rw [hv] at h1; cases h1
def HLate (hA:HpT) (hB:Nat->HpT):Prop:=∀ f xs s k r (km:Nat->Slot->MSt->Option RV),(∀ y s' r',k y s'=some r'->Late fun m=>km m y s'=some r')->hA f xs s k=some r->Late fun m=>hB m f xs s (km m)=some r
theorem hstep_late {s:MSt} {lhA:LH} {lhB:Nat->LH} (hh:HLate lhA.h fun m=>(lhB m).h) (d:Option Nat) (nt:Nat) (x:Opd) (xs:List Opd) {k:MSt->Option RV} {r:RV} {km:Nat->MSt->Option RV} (hk:∀ s' r',k s'=some r'->Late fun m=>km m s'=some r') (h:qay lhA d nt x xs s k=some r):Late fun m=>qay (lhB m) d nt x xs s (km m)=some r:=by
 unfold qay at h ⊢;split at h
 ·rename_i f cs hx
  try simp only [hx]
  exact hh _ _ _ _ _ (fun m y s'=>km m ((s'.leave nt).put d y)) (fun y s' r' h'=>hk _ _ h') h
 ·cases h
theorem Late.all {l:List Nat} {Q:Nat->Nat->Prop} (h:∀ i∈l,Late fun m=>Q i m):Late fun m=>∀ i∈l,Q i m:=by
 induction l with
 | nil=>exact ⟨0,fun m _ i hi=>by cases hi⟩
 | cons a r ih =>
  refine ((h a yl).and (ih fun i hi=>h i (yp _ hi))).imp fun m hm i hi=>?_
  rcases yj.1 hi with rfl | hi
  ·exact hm.1
  ·exact hm.2 i hi
theorem nstep_late {s:MSt} (d:Option Nat) (x:Opd) {k:MSt->Option RV} {r:RV} {km:Nat->MSt->Option RV} (hk:∀ s' r',k s'=some r'->Late fun m=>km m s'=some r') (h:nstep d x s k=some r):Late fun m=>nstep d x s (km m)=some r:=by
 unfold nstep at h ⊢;split at h
 ·rename_i t n hx
  try simp only [hx]
  split at h
  ·rename_i tm nm N seen hi
   try simp only [hi]
   split at h
   ·rename_i L hL
    try simp only [hL]
    split at h
    ·rename_i hN
     try simp only [hN,if_true]
     obtain ⟨h1,h2⟩:=qan _ h;have h2':=Late.all (Q:=fun i m=>(match L[i]? with | some [y,v]=>if y.flat&&v.flat then km m ((s.setObj t n (itAV tm nm N (seen++[i]))).put d ⟨.tup [.bool true,y,v],.no⟩) else none | _=>none)=some r) fun i hi'=>by
      have:=h2 i hi';split at this
      ·rename_i y v hy;split at this
       ·rename_i hf;simp only [hy,hf,if_true];exact hk _ _ this
       ·cases this
      ·cases this
     by_cases he:(List.range N).filter (fun i=>!seen.contains i)=[]
     ·refine (hk _ _ (h1 he)).imp fun m hm=>pickAll_of _ (fun _=>hm) fun i hi'=>?_
      rw [he] at hi';cases hi'
     ·exact h2'.imp fun m hm=>pickAll_of _ (fun e=>absurd e he) hm
    ·cases h
   ·cases h
  ·cases h
 ·cases h
theorem stepK_late {s:MSt} {callA:q1z} {callB:Nat->q1z} {lhA:LH} {lhB:Nat->LH} (hc:∀ f args S r,callA f args S=some r->Late fun m=>callB m f args S=some r) (hh:HLate lhA.h fun m=>(lhB m).h) (o:OpC) {k:MSt->Option RV} {r:RV} {km:Nat->MSt->Option RV} (hk:∀ s' r',k s'=some r'->Late fun m=>km m s'=some r') (h:o.stepK callA lhA s k=some r):Late fun m=>o.stepK (callB m) (lhB m) s (km m)=some r:=by
 obtain ⟨d,op,g⟩:=o;by_cases hop:isH op=true
 ·cases op with
  | callh nt x xs =>
   simp only [OpC.stepK,q6C] at h ⊢;cases g with
   | none=>exact hstep_late hh d nt x xs hk h
   | some p =>
    obtain ⟨t,want⟩:=p;simp only at h ⊢;cases hv:(s.env t).v with
    | bool b =>
     rw [hv] at h;simp only at h ⊢;by_cases hb:b=want
     ·rw [if_pos hb] at h;simp only [if_pos hb];exact hstep_late hh d nt x xs hk h
     ·rw [if_neg hb] at h;simp only [if_neg hb];exact hk _ _ h
    | tup l=>rw [hv] at h; cases l with
     | nil=>exact hk _ _ h
     | cons=>cases h
    | _=>rw [hv] at h; cases h
  | nxt x =>
   simp only [OpC.stepK,q6C] at h ⊢;cases g with
   | none=>exact nstep_late d x hk h
   | some p =>
    obtain ⟨t,want⟩:=p;simp only at h ⊢;cases hv:(s.env t).v with
    | bool b =>
     rw [hv] at h;simp only at h ⊢;by_cases hb:b=want
     ·rw [if_pos hb] at h;simp only [if_pos hb];exact nstep_late d x hk h
     ·rw [if_neg hb] at h;simp only [if_neg hb];exact hk _ _ h
    | tup l=>rw [hv] at h; cases l with
     | nil=>exact hk _ _ h
     | cons=>cases h
    | _=>rw [hv] at h; cases h
  | _=>cases hop
 ·have hop:isH op=false:=by simpa using hop
  rw [q4A hop] at h;obtain ⟨s1,h1,h2⟩:=y9.1 h;exact ((step_late hc ⟨d,op,g⟩ h1).and (hk _ _ h2)).imp fun m hm=>by rw [q4A hop,hm.1]; exact hm.2
theorem ops_late {callA:q1z} {callB:Nat->q1z} {lhA:LH} {lhB:Nat->LH} (hc:∀ f args S r,callA f args S=some r->Late fun m=>callB m f args S=some r) (hh:HLate lhA.h fun m=>(lhB m).h):∀ (ops:List OpC) {s:MSt} {k:MSt->Option RV} {r:RV} {km:Nat->MSt->Option RV},(∀ s' r',k s'=some r'->Late fun m=>km m s'=some r')->q4u callA lhA ops s k=some r->Late fun m=>q4u (callB m) (lhB m) ops s (km m)=some r
 | [],s,k,r,km,hk,h=>hk _ _ h
 | o :: l,s,k,r,km,hk,h=>stepK_late hc hh o (km:=fun m s=>q4u (callB m) (lhB m) l s (km m)) (fun s' r' h'=>ops_late hc hh l hk h') h
theorem q29 {callA:q1z} {lpA:LH} {callB:Nat->q1z} {lpB:Nat->LH} (hc:∀ f args S r,callA f args S=some r->Late fun m=>callB m f args S=some r) (hh:HLate lpA.h fun m=>(lpB m).h)
  (hl:∀ b s k r (km:Nat->Ex->MSt->Option RV),(∀ e s' r',k e s'=some r'->Late fun m=>km m e s'=some r')->lpA b s k=some r->Late fun m=>lpB m b s (km m)=some r) :
  ∀ (c:C) (s:MSt) (k:Ex->MSt->Option RV) (r:RV) (km:Nat->Ex->MSt->Option RV),(∀ e s' r',k e s'=some r'->Late fun m=>km m e s'=some r')->c.run callA lpA s k=some r->Late fun m=>c.run (callB m) (lpB m) s (km m)=some r
 | .skip,s,k,r,km,hk,h=>hk _ _ _ h
 | .exit id,s,k,r,km,hk,h=>hk _ _ _ h
 | .ret,s,k,r,km,hk,h=>hk _ _ _ h
 | .seq a b,s,k,r,km,hk,h=>by
  refine q29 hc hh hl a s _ r (fun m e s'=>match e with | .nrm=>b.run (callB m) (lpB m) s' (km m) | e=>km m e s') (fun e s' r' h'=>?_) h;cases e with
  | nrm=>exact q29 hc hh hl b s' k r' km hk h'
  | exit id=>exact hk _ _ _ h'
  | ret=>exact hk _ _ _ h'
 | .reg ops,s,k,r,km,hk,h=>by
  simp only [C.run] at h ⊢;exact ops_late hc hh ops (km:=fun m s=>km m .nrm { s with next:=s.next + 1 }) (fun s' r' h'=>hk _ _ _ h') h
 | .cond x t e,s,k,r,km,hk,h=>by
  simp only [C.run] at h ⊢;cases hv:x.get s with
  | bool b =>
   rw [hv] at h;cases b with
   | true=>exact q29 hc hh hl t s k r km hk (by simpa using h)
   | false=>exact q29 hc hh hl e s k r km hk (by simpa using h)
  | _=>rw [hv] at h; cases h
 | .block id b,s,k,r,km,hk,h=>by
  refine q29 hc hh hl b s _ r (fun m e s'=>match e with | .exit j=>if j=id then km m .nrm s' else km m (.exit j) s' | e=>km m e s') (fun e s' r' h'=>?_) h;cases e with
  | nrm=>exact hk _ _ _ h'
  | ret=>exact hk _ _ _ h'
  | exit j =>
   simp only at h' ⊢;by_cases e:j=id
   ·rw [if_pos e] at h'; simp only [if_pos e]; exact hk _ _ _ h'
   ·rw [if_neg e] at h'; simp only [if_neg e]; exact hk _ _ _ h'
 | .loop b,s,k,r,km,hk,h=>hl b s k r km hk h
variable {T:Nat->Option FnC} {ext:q1z}
theorem N_mono {ext':q1z} (hx:∀ f args S r,ext f args S=some r->ext' f args S=some r):∀ N,(∀ f args S r,q3s T ext N f args S=some r->Late fun m=>q3s T ext' m f args S=some r) ∧
  (∀ b s k r (km:Nat->Ex->MSt->Option RV),(∀ e s' r',k e s'=some r'->Late fun m=>km m e s'=some r')->lpN T ext N b s k=some r->Late fun m=>lpN T ext' m b s (km m)=some r) ∧
  HLate (hpN T ext N) (hpN T ext')
 | 0=>by
  refine ⟨fun f args S r h=>⟨0,fun m _=>?_⟩,fun b s k r km _ h=>(by cases h),fun f xs s k r km _ h=>(by cases h)⟩;unfold q3s at h;cases hT:T f with
  | none=>rw [hT] at h; cases m <;> (unfold q3s; rw [hT]; exact hx _ _ _ _ h)
  | some c=>rw [hT] at h; cases h
 | N + 1=>by
  obtain ⟨ih1,ih2,ih3⟩:=N_mono hx N;refine ⟨?_,?_,?_⟩
  ·intro f args S0 r h;unfold q3s at h;cases hT:T f with
   | none=>rw [hT] at h; exact ⟨0,fun m _=>by cases m <;> (unfold q3s; rw [hT]; exact hx _ _ _ _ h)⟩
   | some c =>
    rw [hT] at h;cases hm:markR args with
    | some rest =>
     cases S0 with
     | none=>rw [hm] at h; cases h
     | some S =>
      cases S with
      | agg cs =>
       rw [hm] at h;simp only at h;split at h
       ·rename_i hl;refine Late.pred ((q29 (lpA:=⟨lpN T ext N,hpN T ext N⟩) (lpB:=fun m=>⟨lpN T ext' m,hpN T ext' m⟩) ih1 ih3 ih2 c.code _ _ r (fun _=>finR c cs.length) (fun e s' r' h'=>Late.now h') h).imp fun m hm'=>?_);unfold q3s;rw [hT];simp only [hm];rw [if_pos hl];exact hm'
       ·cases h
      | _=>rw [hm] at h; cases h
    | none =>
     rw [hm] at h;simp only at h;split at h
     ·rename_i hl;refine Late.pred ((q29 (lpA:=⟨lpN T ext N,hpN T ext N⟩) (lpB:=fun m=>⟨lpN T ext' m,hpN T ext' m⟩) ih1 ih3 ih2 c.code _ _ r (fun _=>fin c S0) (fun e s' r' h'=>Late.now h') h).imp fun m hm'=>?_);unfold q3s;rw [hT];simp only [hm];rw [if_pos hl];exact hm'
     ·cases h
  ·intro b s k r km hk h;unfold lpN at h;refine Late.pred ((q29 (lpA:=⟨lpN T ext N,hpN T ext N⟩) (lpB:=fun m=>⟨lpN T ext' m,hpN T ext' m⟩) ih1 ih3 ih2 b s _ r (fun m=>q8r (lpN T ext' m) b (km (m + 1))) (fun e s' r' h'=>?_) h).imp fun m hm=>?_)
   ·cases e with
    | nrm=>exact ih2 b s' k r' (fun m=>km (m + 1)) (fun e s'' r'' h''=>(hk e s'' r'' h'').succ) h'
    | exit id=>exact (hk _ _ _ h').succ
    | ret=>exact (hk _ _ _ h').succ
   ·unfold lpN;exact hm
  ·intro f xs s k r km hk h;unfold hpN at h;cases hT:T f with
   | none=>rw [hT] at h; cases h
   | some c =>
    rw [hT] at h;simp only at h;split at h
    ·rename_i hl;refine Late.pred ((q29 (lpA:=⟨lpN T ext N,hpN T ext N⟩) (lpB:=fun m=>⟨lpN T ext' m,hpN T ext' m⟩) ih1 ih3 ih2 c.code _ _ r (fun m=>finH c (km (m + 1))) (fun e s' r' h'=>?_) h).imp fun m hm=>?_)
     ·cases e with
      | exit id=>cases h'
      | nrm =>
       simp only [finH] at h' ⊢;obtain ⟨y,hy,h'⟩:=y9.1 h';simp only [hy,y0];exact (hk _ _ _ h').succ
      | ret =>
       simp only [finH] at h' ⊢;obtain ⟨y,hy,h'⟩:=y9.1 h';simp only [hy,y0];exact (hk _ _ _ h').succ
     ·unfold hpN;rw [hT];simp only;rw [if_pos hl];exact hm
    ·cases h
theorem q7u:∀ N,(∀ f args S r,q3s T ext N f args S=some r->Late fun m=>q3s T ext m f args S=some r) ∧
  (∀ b s k r (km:Nat->Ex->MSt->Option RV),(∀ e s' r',k e s'=some r'->Late fun m=>km m e s'=some r')->lpN T ext N b s k=some r->Late fun m=>lpN T ext m b s (km m)=some r)/\HLate (hpN T ext N) (hpN T ext):=N_mono fun _ _ _ _ h=>h
open Classical in
noncomputable def evC (T:Nat->Option FnC) (ext:q1z) (f:Nat) (args:List AV) (S0:Option AV):Option RV:=if h:∃ r n,q3s T ext n f args S0=some r then some h.choose else none
open Classical in
noncomputable def evL (T:Nat->Option FnC) (ext:q1z):LpT:=fun b s k=>if h:∃ r n,lpN T ext n b s k=some r then some h.choose else none
open Classical in
noncomputable def evH (T:Nat->Option FnC) (ext:q1z):HpT:=fun f xs s k=>if h:∃ r n,hpN T ext n f xs s k=some r then some h.choose else none
noncomputable def evK (T:Nat->Option FnC) (ext:q1z):LH:=⟨evL T ext,evH T ext⟩
theorem q84 {f:Nat} {args:List AV} {S0:Option AV} {r:RV}:evC T ext f args S0=some r ↔ ∃ n,q3s T ext n f args S0=some r:=by
 unfold evC;constructor
 ·intro h;split at h
  ·rename_i hh; injection h with h; exact h ▸ hh.choose_spec
  ·cases h
 ·rintro ⟨n,hn⟩;have hh:∃ r n,q3s T ext n f args S0=some r:=⟨r,n,hn⟩;rw [dif_pos hh];obtain ⟨n',hn'⟩:=hh.choose_spec;obtain ⟨m,h1,h2⟩:=(((q7u n).1 f args S0 r hn).and ((q7u n').1 f args S0 _ hn')).some;rw [h1] at h2;exact h2.symm
theorem evL_some {b:C} {s:MSt} {k:Ex->MSt->Option RV} {r:RV}:evL T ext b s k=some r ↔ ∃ n,lpN T ext n b s k=some r:=by
 unfold evL;constructor
 ·intro h;split at h
  ·rename_i hh; injection h with h; exact h ▸ hh.choose_spec
  ·cases h
 ·rintro ⟨n,hn⟩;have hh:∃ r n,lpN T ext n b s k=some r:=⟨r,n,hn⟩;rw [dif_pos hh];obtain ⟨n',hn'⟩:=hh.choose_spec;obtain ⟨m,h1,h2⟩:=(((q7u n).2.1 b s k r (fun _=>k) (fun e s' r' h=>Late.now h) hn).and ((q7u n').2.1 b s k _ (fun _=>k) (fun e s' r' h=>Late.now h) hn')).some;rw [h1] at h2;exact h2.symm
theorem evH_some {f:Nat} {xs:List Slot} {s:MSt} {k:Slot->MSt->Option RV} {r:RV}:evH T ext f xs s k=some r ↔ ∃ n,hpN T ext n f xs s k=some r:=by
 unfold evH;constructor
 ·intro h;split at h
  ·rename_i hh; injection h with h; exact h ▸ hh.choose_spec
  ·cases h
 ·rintro ⟨n,hn⟩;have hh:∃ r n,hpN T ext n f xs s k=some r:=⟨r,n,hn⟩;rw [dif_pos hh];obtain ⟨n',hn'⟩:=hh.choose_spec;obtain ⟨m,h1,h2⟩:=(((q7u n).2.2 f xs s k r (fun _=>k) (fun e s' r' h=>Late.now h) hn).and ((q7u n').2.2 f xs s k _ (fun _=>k) (fun e s' r' h=>Late.now h) hn')).some;rw [h1] at h2;exact h2.symm
theorem ev_late1 (f:Nat) (args:List AV) (S0:Option AV) (r:RV) (h:evC T ext f args S0=some r):Late fun m=>q3s T ext m f args S0=some r:=by
 obtain ⟨n,hn⟩:=q84.1 h;exact (q7u n).1 f args S0 r hn
theorem ev_late2 (b:C) (s:MSt) (k:Ex->MSt->Option RV) (r:RV) (km:Nat->Ex->MSt->Option RV) (hk:∀ e s' r',k e s'=some r'->Late fun m=>km m e s'=some r') (h:evL T ext b s k=some r):Late fun m=>lpN T ext m b s (km m)=some r:=by
 obtain ⟨n,hn⟩:=evL_some.1 h;exact (q7u n).2.1 b s k r km hk hn
theorem ev_late3:HLate (evH T ext) (hpN T ext):=fun f xs s k r km hk h=>by
 obtain ⟨n,hn⟩:=evH_some.1 h;exact (q7u n).2.2 f xs s k r km hk hn
theorem ev_code (c:C) (s:MSt) (k:Ex->MSt->Option RV) (r:RV) (km:Nat->Ex->MSt->Option RV) (hk:∀ e s' r',k e s'=some r'->Late fun m=>km m e s'=some r') (h:c.run (evC T ext) (evK T ext) s k=some r):Late fun m=>c.run (q3s T ext m) ⟨lpN T ext m,hpN T ext m⟩ s (km m)=some r :=
 q29 (lpA:=evK T ext) (lpB:=fun m=>⟨lpN T ext m,hpN T ext m⟩) ev_late1 ev_late3 ev_late2 c s k r km hk h
theorem evC_intro {f:Nat} {args:List AV} {S0:Option AV} {r:RV} (c:FnC) (hT:T f=some c) (hl:args.length=c.np) (h:c.code.run (evC T ext) (evK T ext) (MSt.init args S0) (fin c S0)=some r) (hm:q6H args=false:=by rfl) (hS:noItO S0=true:=by rfl):evC T ext f args S0=some r:=by
 obtain ⟨m,hm'⟩:=(ev_code c.code _ _ r (fun _=>fin c S0) (fun e s' r' h'=>Late.now h') h).some;refine q84.2 ⟨m + 1,?_⟩;have hR:markR args=none:=by
  unfold markR;split
  ·cases hm
  ·rfl
 unfold q3s;rw [hT];simp only [hR];rw [if_pos ⟨hl,hm,hS⟩];exact hm'
theorem q9z {f:Nat} {args cs:List AV} {r:RV} (c:FnC) (hT:T f=some c) (hl:args.length=c.np) (h:c.code.run (evC T ext) (evK T ext) (MSt.initR args cs) (finR c cs.length)=some r) (hm:q6H args=false:=by rfl):evC T ext f (.undef :: .undef :: args) (some (.agg cs))=some r:=by
 obtain ⟨m,hm'⟩:=(ev_code c.code _ _ r (fun _=>finR c cs.length) (fun e s' r' h'=>Late.now h') h).some;refine q84.2 ⟨m + 1,?_⟩;unfold q3s;rw [hT];simp only [markR];rw [if_pos ⟨hl,hm⟩];exact hm'
theorem evH_intro {f:Nat} {xs:List Slot} {s:MSt} {k:Slot->MSt->Option RV} {r:RV} (c:FnC) (hT:T f=some c) (hl:xs.length=c.np) (h:c.code.run (evC T ext) (evK T ext) (s.initH xs) (finH c k)=some r):evH T ext f xs s k=some r:=by
 obtain ⟨m,hm'⟩:=(ev_code c.code _ _ r (fun _=>finH c k) (fun e s' r' h'=>Late.now h') h).some;refine evH_some.2 ⟨m + 1,?_⟩;unfold hpN;rw [hT];simp only;rw [if_pos hl];exact hm'
theorem q04 {b:C} {s:MSt} {k:Ex->MSt->Option RV} {r:RV} (h:b.run (evC T ext) (evK T ext) s (q8r (evL T ext) b k)=some r):evL T ext b s k=some r:=by
 have:=ev_code b s _ r (fun m=>q8r (lpN T ext m) b k) (fun e s' r' h'=>by
  cases e with
  | nrm=>exact ev_late2 b s' k r' (fun _=>k) (fun e s'' r'' h''=>Late.now h'') h'
  | exit id=>exact Late.now h'
  | ret=>exact Late.now h') h
 obtain ⟨m,hm⟩:=this.some;refine evL_some.2 ⟨m + 1,?_⟩;unfold lpN;exact hm
theorem ev_sound {P:Program} {O:Objs} (hm:P.follows .mixedOrders=true) (hT:∀ f c,T f=some c->FnOk P f c) (hext:∀ f args S r,ext f args S=some r->q1Y P O f args S r) {f:Nat} {args:List AV} {S0:Option AV} {r:RV} (h:evC T ext f args S0=some r):q1Y P O f args S0 r:=by
 obtain ⟨n,hn⟩:=q84.1 h;exact (call_sound hm hT hext n).1 f args S0 r hn
end
end
section
open Go Go.RowKit Go.ChangeShapes Go.WideShapes Go.Deep
section
variable {H:Type} {enc:TypeId × Value->H} {P:Program} {w:World} {base:Nat} {spare:Nat->Bool} {held:Bool}
theorem Rows_of {av:Av} {b sz:Nat}:∀ {els:List (List AV)} {off:Nat},(∀ av1∈els,av1.length=sz)->(∀ (i:Nat) (av1:List AV),els[i]?=some av1->q3y av w av1 b (off + i * sz))->Rows av w els b off
 | [],_,_,_=>by simp [Rows]
 | av1 :: r,off,hl,h=>by
  simp only [Rows];have h0:=h 0 av1 rfl;rw [Nat.zero_mul,Nat.add_zero] at h0;refine ⟨h0,Rows_of (fun x hx=>hl x (yp _ hx)) fun i x hx=>?_⟩;have:=h (i + 1) x (by simpa using hx);rw [hl av1 yl,show off + sz + i * sz=off + (i + 1) * sz from by rw [yB]; omega];exact this
abbrev Av0:Av:=fun _ _=>False
end
end
section
open Go Go.RowKit Go.ChangeShapes Go.WideShapes Go.Deep
def q7W (P:Program) (t:TypeId):Bool:=match P.underlying t with
 | some (.struct _) | some (.array ..)=>true
 | _=>false
section
variable {H:Type} {enc:TypeId × Value->H} {P:Program} {w:World} {base:Nat} {spare:Nat->Bool} {held:Bool}
theorem args_back (hl:laidOutB P=true) {W W':World} (hb:Below W.heap.size W W'):∀ {ts:List TypeId} {vs:List Value} {ds:List (DataW H)} {p:List MemPlace},DataW.TrodAll enc P W 0 (fun _=>true) true ts vs ds p->ts.all (fun t=>P.readableRec t&&decide (t<P.types.size))=true →
  DataW.TrodAll enc P W' 0 (fun b=>decide (b<W.heap.size)) true ts vs ds p
 | [],vs,ds,p,h,_=>by
  cases vs with
  | nil=>cases ds with
   | nil=>exact h
   | cons=>exact h.elim
  | cons=>cases ds <;> exact h.elim
 | t :: ts,vs,ds,p,h,hs=>by
  have hlt:=DataW.TrodAll.lt h;obtain ⟨v,vs',d,ds',p',q',rfl,rfl,rfl,h0,h⟩:=trodAll_cons h;simp only [List.all_cons,yb,decide_eq_true_eq] at hs;exact trodAll_cons_mk (Below.trod hl hs.1.1 hs.1.2 h0 hb fun x hx=>hlt x (List.mem_append_left _ hx)) (args_back hl hb h hs.2)
end
end
section
open Go Go.RowKit Go.ChangeShapes Go.WideShapes Go.Deep
def qa4 (P:Program) (r:TypeId->List AV->Prop):List Field->List AV->Prop
 | [],av1=>av1=[]
 | f :: fs,av1=>∃ a b,av1=a++b/\a.length=P.cellsOf f.type/\r f.type a/\qa4 P r fs b
def ArrT (P:Program) (r:TypeId->List AV->Prop) (e:TypeId):Nat->List AV->Prop
 | 0,av1=>av1=[]
 | n + 1,av1=>∃ a b,av1=a++b/\a.length=P.cellsOf e/\r e a/\ArrT P r e n b
def TyT (P:Program):Nat->TypeId->List AV->Prop
 | 0,_,_=>False
 | n + 1,t,av1=>match P.underlying t with
  | some .bool=>∃ b,av1=[.bool b]
  | some (.int k)=>∃ i,av1=[.int k i]/\(Lit.int k i).wf=true
  | some .string=>∃ s,av1=[.str s]/\s.size<=maxLen
  | some (.slice e)=>∃ nl els,av1=[.sl nl els]/\els.length<=maxLen/\els.length * P.bytesOf e<=reachBytes/\(nl=true->els=[])/\∀ x∈els,x.length=P.cellsOf e/\TyT P n e x
  | some (.struct fs)=>qa4 P (TyT P n) fs.toList av1
  | some (.array k e)=>ArrT P (TyT P n) e k av1
  | _=>False
def goodFs (P:Program) (ts:List TypeId):Nat->Nat->List Field->Bool
 | off,total,[]=>decide (off=total)
 | off,total,f :: fs=>decide (f.offset=off)&&ts.contains f.type&&goodFs P ts (off + P.cellsOf f.type) total fs
def qag (P:Program) (ts:List TypeId) (t:TypeId):Bool:=match P.underlying t with
 | some .bool | some (.int _) | some .string=>decide (P.cellsOf t=1)
 | some (.slice e)=>ts.contains e&&decide (0<P.cellsOf e)&&decide (P.cellsOf t=1)
 | some (.struct fs)=>goodFs P ts 0 (P.cellsOf t) fs.toList
 | some (.array k e)=>ts.contains e&&decide (0<P.cellsOf e)&&decide (k * P.cellsOf e=P.cellsOf t)
 | _=>false
section
variable {H:Type} {enc:TypeId × Value->H} {P:Program} {w:World} {base:Nat} {spare:Nat->Bool} {held:Bool}
theorem open_sliceN {t e:TypeId} {fuel:Nat} {cs:List Value} {x:DataW H × List MemPlace} (ht:P.underlying t=some (.slice e)) (h:DataW.trod enc P w base spare held fuel t cs=some x) :
  (∃ n,fuel=n + 1)/\((cs=[.slice none 0 0]) ∨
  ∃ (a:Addr) (len cap n:Nat) (y:Nat->DataW H × List MemPlace) (D sp:List (DataW H)),cs=[.slice (some a) len cap]/\fuel=n + 1/\len<=cap/\cap<=maxLen/\x.1=.slice D sp/\D.length=len/\(∀ i,i<len->(y i).1∈D) ∧
   ∀ i,i<len->∃ cs',w.cells? base (a.add (i * P.cellsOf e)) (P.cellsOf e)=some cs'/\DataW.trod enc P w base spare held n e cs'=some (y i)):=by
 refine ⟨?_,?_⟩
 ·cases fuel with
  | zero=>simp [DataW.trod] at h
  | succ n=>exact ⟨n,rfl⟩
 rcases DataW.trod_slice ht h with h0 | ⟨a,len,cap,elems,rest,n,hfu,rfl,rfl,hb,hl,hm,hlen,hel,hsp,hns⟩
 ·exact Or.inl h0.1
 right;refine ⟨a,len,cap,n,fun i=>elems.getD i (.nil,[]),elems.map (·.1),rest.map (·.1),rfl,hfu,hl,hm,rfl,by simpa using hlen,fun i hi=>?_,fun i hi=>?_⟩
 ·have e:elems.getD i (.nil,[])=elems[i]'(by omega):=by simp [List.getD,y7 (show i<elems.length by omega)]
  show (elems.getD i (.nil,[])).1∈_;rw [e];exact List.mem_map_of_mem (y8 _)
 have key:=hel i hi;rw [y7 (by omega)] at key;obtain ⟨cs',h1,h2⟩:=y9.1 key;refine ⟨cs',h1,?_⟩;rw [h2];simp [List.getD,y7 (show i<elems.length by omega)]
theorem q8P {e:TypeId}:∀ {D:List (DataW H)} {d:DataW H},d∈D->∀ m∈d.weights P e,m∈DataW.weightsAll P e D
 | d0 :: r,d,h,m,hm=>by
  simp only [DataW.weightsAll,yA];rcases yj.1 h with rfl | h
  ·exact .inl hm
  ·exact .inr (q8P h m hm)
def q7L (P:Program) (t:TypeId) (d:DataW H):Prop:=∀ m∈d.weights P t,m<=reachBytes
theorem light_elem {t e:TypeId} {D sp:List (DataW H)} (ht:P.underlying t=some (.slice e)) (h:q7L P t (.slice D sp)) {d:DataW H} (hd:d∈D):q7L P e d:=fun m hm=>h m (by
 simp only [DataW.weights,ht,yj,yA];exact .inr (.inl (q8P hd m hm)))
theorem light_len {t e:TypeId} {D sp:List (DataW H)} (ht:P.underlying t=some (.slice e)) (h:q7L P t (.slice D sp)):D.length * P.bytesOf e<=reachBytes:=by
 have:=h ((D.length + sp.length) * P.bytesOf e) (by simp [DataW.weights,ht]);exact yH (yW _ (by omega)) this
theorem light_arr {t e:TypeId} {k:Nat} {D:List (DataW H)} (ht:P.underlying t=some (.array k e)) (h:q7L P t (.agg D)) {d:DataW H} (hd:d∈D):q7L P e d:=fun m hm=>h m (by
 simp only [DataW.weights,ht];exact q8P hd m hm)
theorem light_field {t:TypeId} {fs:Array Field} {D:List (DataW H)} (ht:P.underlying t=some (.struct fs)) (h:q7L P t (.agg D)) {i:Nat} {f:Field} {d:DataW H} (hf:fs.toList[i]?=some f) (hd:D[i]?=some d):q7L P f.type d:=fun m hm=>h m (by
 simp only [DataW.weights,ht];exact DataW.weights_mem_each (j:=i) (by rw [yf,hf]; rfl) hd m hm)
theorem fields_T {ts:List TypeId} {n:Nat} {cs:List Value}
  (ih:∀ (t:TypeId) (cs:List Value) (x:DataW H × List MemPlace),ts.contains t=true->q7L P t x.1->DataW.trod enc P w base spare held n t cs=some x->∃ av1,RepL Av0 w av1 cs/\TyT P n t av1/\av1.length=P.cellsOf t) :
  ∀ (fs:List Field) (off:Nat),goodFs P ts off cs.length fs=true->(∀ f∈fs,∃ x,q7L P f.type x.1/\DataW.trod enc P w base spare held n f.type ((cs.drop f.offset).take (P.cellsOf f.type))=some x)->∃ av1,RepL Av0 w av1 (cs.drop off)/\qa4 P (TyT P n) fs av1
 | [],off,h,_=>by
  simp only [goodFs,decide_eq_true_eq] at h;refine ⟨[],?_,rfl⟩;rw [yg (by omega)];rfl
 | f :: fs,off,h,hx=>by
  simp only [goodFs,yb,decide_eq_true_eq] at h;obtain ⟨⟨ho,ht⟩,h⟩:=h;obtain ⟨x,hlt,hx0⟩:=hx f yl;obtain ⟨av1,h1,h2,h2'⟩:=ih _ _ _ ht hlt hx0;obtain ⟨bs,h3,h4⟩:=fields_T ih fs (off + P.cellsOf f.type) h fun g hg=>hx g (yp _ hg)
  refine ⟨av1++bs,?_,av1,bs,rfl,h2',h2,h4⟩;have:cs.drop off=(cs.drop off).take (P.cellsOf f.type)++cs.drop (off + P.cellsOf f.type):=by rw [<- List.drop_drop,List.take_append_drop]
  rw [this];rw [ho] at h1;exact q4v h1 h3
theorem array_T {e:TypeId} {n:Nat} {cs:List Value} (f:∀ i:Nat,i * P.cellsOf e<cs.length->∃ av1,RepL Av0 w av1 ((cs.drop (i * P.cellsOf e)).take (P.cellsOf e))/\TyT P n e av1/\av1.length=P.cellsOf e) (hp:0<P.cellsOf e) :
  ∀ (m i:Nat),(i + m) * P.cellsOf e=cs.length->∃ av1,RepL Av0 w av1 (cs.drop (i * P.cellsOf e))/\ArrT P (TyT P n) e m av1
 | 0,i,h=>by
  refine ⟨[],?_,rfl⟩;rw [yg (by simp at h; omega)];rfl
 | m + 1,i,h=>by
  have h1:(i + 1 + m) * P.cellsOf e=cs.length:=by rw [<- h]; congr 1; omega
  have hs:(i + 1) * P.cellsOf e=i * P.cellsOf e + P.cellsOf e:=yB i _;have hlt:i * P.cellsOf e<cs.length:=by
   have:(i + 1) * P.cellsOf e<=(i + (m + 1)) * P.cellsOf e:=yW _ (by omega);omega
  obtain ⟨av1,g1,g2,g2'⟩:=f i hlt;obtain ⟨av2,g3,g4⟩:=array_T f hp m (i + 1) h1;refine ⟨av1++av2,?_,av1,av2,rfl,g2',g2,g4⟩;have:cs.drop (i * P.cellsOf e)=(cs.drop (i * P.cellsOf e)).take (P.cellsOf e)++cs.drop ((i + 1) * P.cellsOf e):=by rw [hs,<- List.drop_drop,List.take_append_drop]
  rw [this];exact q4v g1 g3
theorem q6S {av:Av}:∀ {l:List AV} {us:List Value},RepL av w l us->l.length=us.length
 | [],us,h=>by simp only [RepL] at h; subst h; rfl
 | a :: r,us,h=>by
  simp only [RepL] at h;obtain ⟨u,us',rfl,_,_,h⟩:=h;simp [q6S h]
theorem trod_T {ts:List TypeId} (hg:ts.all (qag P ts)=true):∀ (n:Nat) (t:TypeId) (cs:List Value) (x:DataW H × List MemPlace),ts.contains t=true->q7L P t x.1->DataW.trod enc P w base spare held n t cs=some x->∃ av1,RepL Av0 w av1 cs/\TyT P n t av1/\av1.length=P.cellsOf t
 | 0,t,cs,x,_,_,hx=>by simp [DataW.trod] at hx
 | n + 1,t,cs,x,hmem,hlw,hx=>by
  have h:qag P ts t=true:=y6.1 hg t (by simpa using hmem);unfold qag at h;split at h
  ·rename_i ht;simp only [decide_eq_true_eq] at h;obtain ⟨b,rfl,_⟩:=DataW.trod_bool ht hx;exact ⟨[.bool b],⟨_,_,rfl,rfl,rfl,rfl⟩,by simp only [TyT,ht]; exact ⟨b,rfl⟩,by simp [h]⟩
  ·rename_i kk ht;simp only [decide_eq_true_eq] at h;obtain ⟨b,rfl,_,hw⟩:=DataW.trod_int ht hx;exact ⟨[.int kk b],⟨_,_,rfl,rfl,rfl,rfl⟩,by simp only [TyT,ht]; exact ⟨b,rfl,hw⟩,by simp [h]⟩
  ·rename_i ht;simp only [decide_eq_true_eq] at h;obtain ⟨b,rfl,_,hw⟩:=DataW.trod_string ht hx;exact ⟨[.str b],⟨_,_,rfl,rfl,rfl,rfl⟩,by simp only [TyT,ht]; exact ⟨b,rfl,hw⟩,by simp [h]⟩
  ·rename_i e ht;simp only [yb,decide_eq_true_eq] at h;obtain ⟨⟨he,hpos⟩,hc1⟩:=h;rcases (open_sliceN ht hx).2 with rfl | ⟨a,len,cap,n',y,D,sp,rfl,hn,hle,hcm,hxe,hDl,hyD,hi⟩
   ·exact ⟨[.sl true []],⟨_,_,rfl,⟨none,0,rfl,ym _,(fun _ h=>by cases h),fun _=>⟨rfl,rfl,rfl⟩,fun h=>by cases h⟩,rfl,rfl⟩,by simp only [TyT,ht]; exact ⟨true,[],rfl,Nat.zero_le _,by simp,fun _=>rfl,(fun _ h=>by cases h)⟩,by simp [hc1]⟩
   ·have hn':n'=n:=by omega
    subst hn';rw [hxe] at hlw;have hbl:=light_len ht hlw;rw [hDl] at hbl;have hrow:∀ i:Nat,∃ av1:List AV,i<len->((av1.length=P.cellsOf e/\TyT P n' e av1)/\∃ us,RepL Av0 w av1 us/\us.length=P.cellsOf e/\∀ j,j<P.cellsOf e->w.cell? ((a.add (i * P.cellsOf e)).add j)=us[j]?):=fun i=>by
     by_cases hlt:i<len
     ·obtain ⟨us,hc1,hc2⟩:=hi i (by omega);obtain ⟨av1,h1,h2,h2'⟩:=trod_T hg n' e us _ he (light_elem ht hlw (hyD i hlt)) hc2;obtain ⟨_,g1,g2⟩:=World.cells?_some hc1;exact ⟨av1,fun _=>⟨⟨h2',h2⟩,us,h1,g1,g2⟩⟩
     ·exact ⟨[],fun h=>absurd h hlt⟩
    have hrow':=Classical.axiomOfChoice hrow;obtain ⟨f,hf⟩:=hrow';have hels:∀ av1∈(List.range len).map f,av1.length=P.cellsOf e/\TyT P n' e av1:=fun av1 ha=>by
     obtain ⟨i,hi',rfl⟩:=yz.1 ha;exact (hf i (List.mem_range.1 hi')).1
    refine ⟨[.sl false ((List.range len).map f)],⟨_,_,rfl,⟨some a,cap,by simp,by simpa using hle,fun x hx y hy=>((hels x hx).1).trans ((hels y hy).1).symm,(fun h=>by cases h),fun _=>⟨fun h=>(by cases h),fun h0=>?_⟩⟩,rfl,rfl⟩,by simp only [TyT,ht]; exact ⟨false,_,rfl,by simp; omega,by simpa using hbl,(fun h=>by cases h),hels⟩,by simp [hc1]⟩;have h0':0<len:=by simpa using h0
    have hspot:∃ b off,a=⟨b,off,none⟩:=by
     obtain ⟨_,us,_,g1,g2⟩:=hf 0 h0';have g3:=g2 0 hpos;simp only [Nat.zero_mul,Addr.add,if_true] at g3;rw [y7 (by omega)] at g3;obtain ⟨b,off,sp⟩:=a;cases sp with
     | none=>exact ⟨b,off,rfl⟩
     | some q =>
      simp only [World.cell?] at g3;split at g3
      ·simp at g3
      ·cases g3
    obtain ⟨b,off,rfl⟩:=hspot;refine ⟨b,off,rfl,Rows_of (fun x hx=>(hels x hx).1) fun i av1 hget=>?_⟩;rw [yf] at hget;obtain ⟨i',hi',rfl⟩:=yh.1 hget;rw [ye] at hi';obtain ⟨hlt,he'⟩:=hi';simp at hlt he';subst he';obtain ⟨_,us,g0,g1,g2⟩:=hf i hlt;refine q63 g0 fun j u hu=>⟨?_,fun h=>h⟩
    have hj:j<P.cellsOf e:=by rw [<- g1]; exact (ye.1 hu).1
    have:=g2 j hj;rw [Addr.add_lit,Addr.add_lit,hu] at this;exact this
  ·rename_i fs ht;obtain ⟨xs,n',hn,rfl,hlen,hxl,hf⟩:=DataW.trod_struct ht hx;have hn':n'=n:=by omega
   subst hn';rw [<- hlen] at h;obtain ⟨av1,h1,h2⟩:=fields_T (cs:=cs) (n:=n') (fun t cs x=>trod_T hg n' t cs x) fs.toList 0 h fun g hg=>by
    obtain ⟨i,hi,he⟩:=yC hg;have hi':i<fs.size:=by simpa using hi
    have h1:=hf i g (by rw [<- he]; simp [hi']);refine ⟨xs[i]'(by omega),light_field ht hlw (i:=i) (f:=g) (by rw [<- he]; simp [hi']) ?_,by rw [h1]; exact y7 (by omega)⟩;rw [yf,y7 (by omega)];rfl
   rw [List.drop_zero] at h1;exact ⟨av1,h1,by simp only [TyT,ht]; exact h2,(q6S h1).trans hlen⟩
  ·rename_i k e ht;simp only [yb,decide_eq_true_eq] at h;obtain ⟨⟨he,hpos⟩,hc1⟩:=h;obtain ⟨xs,m,hm,rfl,hlen,hxl,hf⟩:=DataW.trod_array ht hx;have hm':m=n:=by omega
   subst hm';obtain ⟨av1,h1,h2⟩:=array_T (cs:=cs) (n:=m) (e:=e) (fun i hi=>by
    have hik:i<k:=by
     rw [hlen,<- hc1] at hi;exact Nat.lt_of_mul_lt_mul_right hi
    have h1:=hf i hik;rw [y7 (by omega)] at h1;exact trod_T hg m e _ _ he (light_arr ht hlw (List.mem_map_of_mem (y8 _))) h1) hpos k 0 (by rw [yy,hlen,hc1])
   rw [Nat.zero_mul,List.drop_zero] at h1;exact ⟨av1,h1,by simp only [TyT,ht]; exact h2,(q6S h1).trans hlen⟩
  ·cases h
def ParT (P:Program) (t:TypeId) (a:AV):Prop:=∃ n,(q7W P t=true/\∃ cs,a=.agg cs/\TyT P n t cs)\/(q7W P t=false/\TyT P n t [a])
def ArgsT (P:Program):List TypeId->List AV->Prop
 | [],xs=>xs=[]
 | t :: ts,xs=>∃ a r,xs=a :: r/\ParT P t a/\ArgsT P ts r
theorem par_T {ts:List TypeId} (hg:ts.all (qag P ts)=true) {t:TypeId} {r:Reach} {b0:Nat} {v:Value} {d:DataW H} {p:List MemPlace} (hs:ts.contains t=true) (hv:Value.okWide P w r b0 t v) (hlw:q7L P t d) (h:DataW.Trod enc P w base spare held t v d p) :
  ∃ a,RepS Ix.none Av0 Av0 w a v/\ParT P t a:=by
 obtain ⟨fuel,hf⟩:=h;obtain ⟨xs,h1,h2,_⟩:=trod_T hg fuel t _ _ hs hlw hf;have one:∀ (u:Value),v=u->v.cells.toList=[u]->q7W P t=false->(∀ a,TyT P fuel t [a]->a.leaf=true)->∃ a,RepS Ix.none Av0 Av0 w a v/\ParT P t a:=fun u hu hc hw hleaf=>by
  rw [hc] at h1;have hl:=q6S h1
  match xs,hl with
  | [a],_ =>
   simp only [RepL] at h1;obtain ⟨u',_,e,h0,_,_⟩:=h1;injection e with e;subst e;exact ⟨a,by rw [hu]; exact RepS_of_rep h0 (hleaf a h2),fuel,.inr ⟨hw,h2⟩⟩
 cases fuel with
 | zero=>exact h2.elim
 | succ k =>
  have hgt:qag P ts t=true:=y6.1 hg t (by simpa using hs);unfold qag at hgt;split at hgt
  ·rename_i ht;obtain ⟨b,rfl⟩:=okWide_bool ht hv;refine one _ rfl rfl (by simp [q7W,ht]) fun a ha=>?_
   simp only [TyT,ht] at ha;obtain ⟨b',e⟩:=ha;injection e with e;subst e;rfl
  ·rename_i kk ht;obtain ⟨b,rfl⟩:=okWide_int ht hv;refine one _ rfl rfl (by simp [q7W,ht]) fun a ha=>?_
   simp only [TyT,ht] at ha;obtain ⟨b',e,_⟩:=ha;injection e with e;subst e;rfl
  ·rename_i ht;obtain ⟨b,rfl⟩:=okWide_string ht hv;refine one _ rfl rfl (by simp [q7W,ht]) fun a ha=>?_
   simp only [TyT,ht] at ha;obtain ⟨b',e,_⟩:=ha;injection e with e;subst e;rfl
  ·rename_i e' ht;obtain ⟨A,n,c,rfl⟩:=okWide_slice ht hv;refine one _ rfl rfl (by simp [q7W,ht]) fun a ha=>?_
   simp only [TyT,ht] at ha;obtain ⟨nl,els,e,_⟩:=ha;injection e with e;subst e;rfl
  ·rename_i fs ht;have:∃ cs,v=.agg cs:=by
    simp only [Value.okWide,ht] at hv;obtain ⟨cs,hv,_⟩:=hv;exact ⟨cs,hv⟩
   obtain ⟨cs,rfl⟩:=this;exact ⟨.agg xs,⟨cs,rfl,q1U h1⟩,k + 1,.inl ⟨by simp [q7W,ht],xs,rfl,h2⟩⟩
  ·rename_i n' e' ht;have:∃ cs,v=.agg cs:=by
    simp only [Value.okWide,ht] at hv;obtain ⟨cs,hv,_⟩:=hv;exact ⟨cs,hv⟩
   obtain ⟨cs,rfl⟩:=this;exact ⟨.agg xs,⟨cs,rfl,q1U h1⟩,k + 1,.inl ⟨by simp [q7W,ht],xs,rfl,h2⟩⟩
  ·cases hgt
theorem args_T {T:List TypeId} (hg:T.all (qag P T)=true) {r:Reach} {b0:Nat}:∀ {ts:List TypeId} {vs:List Value} {ds:List (DataW H)} {p:List MemPlace},DataW.TrodAll enc P w base spare held ts vs ds p->(∀ (j:Nat) t v,ts[j]?=some t->vs[j]?=some v->Value.okWide P w r b0 t v)->(∀ m∈DataW.weightsEach P ts ds,m<=reachBytes)->ts.all (fun t=>T.contains t)=true →
  ∃ xs,RepA Ix.none Av0 Av0 w xs vs/\ArgsT P ts xs
 | [],vs,ds,p,h,_,_,_=>by
  cases vs with
  | nil=>exact ⟨[],rfl,rfl⟩
  | cons=>cases ds <;> exact h.elim
 | t :: ts,vs,ds,p,h,hv,hw,hs=>by
  obtain ⟨v,vs',d,ds',p',q',rfl,rfl,rfl,h0,h⟩:=trodAll_cons h;simp only [DataW.weightsEach,yA] at hw;simp only [List.all_cons,yb] at hs;obtain ⟨a,h1,h2⟩:=par_T hg hs.1 (hv 0 t v rfl rfl) (fun m hm=>hw m (.inl hm)) h0;obtain ⟨xs,h3,h4⟩:=args_T hg h (fun j t' v' e e'=>hv (j + 1) t' v' (by simpa using e) (by simpa using e')) (fun m hm=>hw m (.inr hm)) hs.2;exact ⟨a :: xs,⟨v,vs',rfl,h1,h3⟩,a,xs,rfl,h2,h4⟩
end
end
section
open Go Go.RowKit
theorem uBp:Tryz.prog.underlying 285=some (.pointer 287):=by kernel_rfl
theorem uBs:Tryz.prog.underlying 28=some (.slice 5):=by kernel_rfl
theorem uBu:Tryz.prog.underlying 299=some (.pointer 5):=by kernel_rfl
theorem uBstr:Tryz.prog.underlying 9=some .string:=by kernel_rfl
theorem uBint:Tryz.prog.underlying 3=some (.int .i64):=by kernel_rfl
theorem q8a:Tryz.prog.underlying 301=some .unsafePointer:=by kernel_rfl
theorem iB8:(Tryz.prog.info? 5).map (fun i=>(i.zero,i.size,i.bytes))=some (some (.int .u8 0),1,1):=by kernel_rfl
theorem iBb:(Tryz.prog.info? 287).map (fun i=>i.size)=some 2:=by kernel_rfl
theorem liesB:liesAt Tryz.prog Tryz.prog.depth 287 (2 / Tryz.prog.cellsOf 287) 0 287 1=true:=by kernel_rfl
theorem cB8:Tryz.prog.cellsOf 5=1:=by kernel_rfl
section
variable {P:Program}
theorem append_str_at (w:World) (t u ty e:TypeId) (i:TypeInfo) (ht:P.underlying t=some (.slice e)) (hu:P.underlying u=some .string) (hi:P.info? e=some i) (hz:i.zero=some (.int .u8 0)) (hsize:i.size=1) (hby:i.bytes=1)
  (v:Value) (n:Nat) (xs:List Value) (hown:w.ownsRowF 0 e 1 v n xs) (s:ByteArray) (h63:n + s.size<=maxLen) (hbytes:n + s.size<=140737488355328) :
  ∃ v' w',(Builtin.append_ #[t,u] ty #[v,.string s]).run P w=.ok v' w'/\w'.ownsRowF 0 e 1 v' (n + s.size) (xs++Go.Lib.strCells s)/\w.grownBy w' v.ownBlock/\∀ k,v'.ownBlock=some k->v.ownBlock=some k\/w.heap.size<=k:=by
 rcases hown.2 with ⟨rfl,hn⟩ | ⟨g,cap,cur,fz,rfl,hbg,hg,hfz,hnc,hcm,hcs,htake⟩
 ·obtain ⟨v',w',h1,h2,h3,_⟩:=Go.Lib.run_append_own_stringF (P:=P) w w.heap.size t u ty e i ht hu hi hz hsize hby _ n xs ⟨hown.1,.inl ⟨rfl,hn⟩⟩ s h63 hbytes (ym _);refine ⟨v',w',h1,⟨h2.1,?_⟩,h3,fun k hk=>.inr ?_⟩
  ·rcases h2.2 with hn | ⟨g,cap,cur,fz,hv,hb,rest⟩
   ·exact .inl hn
   ·exact .inr ⟨g,cap,cur,fz,hv,Nat.zero_le _,rest⟩
  ·rcases h2.2 with ⟨hv,_⟩ | ⟨g,cap,cur,fz,hv,hb,rest⟩
   ·rw [hv] at hk; cases hk
   ·rw [hv] at hk; injection hk with hk; have hk:g=k:=hk; omega
 ·obtain ⟨v',w',h1,h2,h3,_⟩:=Go.Lib.run_append_own_stringF (P:=P) w 0 t u ty e i ht hu hi hz hsize hby _ n xs hown s h63 hbytes (Nat.zero_le _);refine ⟨v',w',h1,h2,h3,fun k hk=>?_⟩;have hxl:xs.length=n:=by simpa using hown.1
  by_cases hroom:n + s.size<=cap
  ·have hcs':cur.size=cap:=by simpa using hcs
   have hr:=Go.Lib.run_append_room_stringF (P:=P) w t u ty e i ht hu hi hsize g n cap cur fz hg (by simpa using hfz) s hroom (by omega);rw [h1] at hr;injection hr with hv _;rw [hv] at hk;exact .inl hk
  ·have holds:∀ j u,xs[j]?=some u->w.cell? ((⟨g,0,none⟩:Addr).add j)=some u:=hown.cells (g:=g) rfl;have hr:=Go.Lib.run_append_grow_string (P:=P) w t u ty e i (.int .u8 0) ht hu hi hz ⟨g,0,none⟩ n cap xs (by rw [hsize]; simpa using hxl) holds s (by unfold maxLen at h63; omega) (by unfold maxLen at h63; omega) (by rw [hby]; exact growslice_fits (by omega) (by omega));rw [h1] at hr;injection hr with hv _;rw [hv] at hk;injection hk with hk;have hk:w.heap.size=k:=hk;exact .inr (by omega)
end
theorem wpList_strapp {P:Program} (w:World) {ops:Array Oper} {rest:List Oper} {o:Oper} {a:Act} {Q:Exit->Act->World->Prop} (hgd:o.guard=none) (s x:Operand) (t t':TypeId)
  (ho:o.op=.call { callee:=.builtin .append,args:=#[s,x],argTypes:=#[t,t'] }) (v u:Value) (hs:a.eval s=v) (hx:a.eval x=u) {v':Value} {w':World}
  (hr:(Builtin.append_ #[t,t'] o.type #[v,u]).run P w=.ok v' w') (h:wpList P ops Q rest (a.put o.dst v') w'):wpList P ops Q (o :: rest) a w:=by
 refine wpList_plain hgd fun K hK=>?_
 unfold Oper.wp execOp;simp only [ho,resolve,invoke,builtin,Sem.run_bind,Sem.run_pure,Result.andThen_ok,List.map_toArray,yk,yn,hs,hx,hr];exact hK _ _ h
set_option maxHeartbeats 1000000
theorem bcheck_used (b:Nat) (w:World) (h0:w.cell? ⟨b,0,none⟩=some (.pointer (some ⟨b,0,none⟩))) :
  Calls Tryz.prog 280 #[.pointer (some ⟨b,0,none⟩)] w fun e w'=>e=.returned (.tuple #[])/\w'=w:=by
 obtain ⟨j,hj,_⟩:=yh.1 iBb;have u1:=run_underlying uBp; have u2:=run_underlying uBs; have u3:=run_underlying uBu; have u4:=run_underlying uBstr; have u5:=run_underlying uBint; have u6:=run_underlying q8a
 go_enter Tryz.func280,Tryz.ntmps280
 go_wp2
 rw [Go.Lib.run_neq_ptr_same w _ uBp hj]
 go_wp2
 go_end0
 exact ⟨rfl,rfl⟩
theorem bcheck_fresh (b:Nat) (w:World) (h0:w.cell? ⟨b,0,none⟩=some (.pointer none)) (hsh:w.shape? b=some (287,2)) (hfz:w.frozen? ⟨b,0,none⟩=false) :
  Calls Tryz.prog 280 #[.pointer (some ⟨b,0,none⟩)] w fun e w'=>e=.returned (.tuple #[])/\w'=w.setCell ⟨b,0,none⟩ (.pointer (some ⟨b,0,none⟩)):=by
 obtain ⟨j,hj,hjs⟩:=yh.1 iBb;have u1:=run_underlying uBp; have u2:=run_underlying uBs; have u3:=run_underlying uBu; have u4:=run_underlying uBstr; have u5:=run_underlying uBint; have u6:=run_underlying q8a
 go_enter Tryz.func280,Tryz.ntmps280
 go_wp2
 rw [Go.Lib.run_to_unsafe w ⟨b,0,none⟩ uBp q8a hj (by rw [hjs]; decide) hsh (Nat.zero_lt_succ 1)];simp only [Result.andThen];rw [Oper.upon_value]
 go_wp2
 rw [run_callFunc_extern Tryz.func282 (by kernel_rfl) (by kernel_rfl) (by kernel_rfl) (e:=Extern.AbiNoEscape.same) (by kernel_rfl)];rw [Go.Lib.run_noEscape];simp only [Result.andThen];rw [Oper.upon_value]
 go_wp2
 rw [Go.Lib.run_from_unsafe w ⟨b,0,none⟩ q8a uBp hj hsh liesB];simp only [Result.andThen];rw [Oper.upon_value]
 go_wp2
 go_end0
 exact ⟨rfl,rfl⟩
theorem bcheck (b:Nat) (q v:Value) (w:World) (hbk:w.heap[b]?=some (.cells #[q,v] 287 (0,0))) (hq:q=.pointer none\/q=.pointer (some ⟨b,0,none⟩)) :
  Calls Tryz.prog 280 #[.pointer (some ⟨b,0,none⟩)] w fun e w'=>e=.returned (.tuple #[])/\w'.heap[b]?=some (.cells #[.pointer (some ⟨b,0,none⟩),v] 287 (0,0))/\Keep (fun k=>k=b) w w':=by
 have hlt:=q0b hbk;rcases hq with rfl | rfl
 ·refine (bcheck_fresh b w (by rw [Go.Lib.cell_of_heap hbk]; rfl) (by simp [World.shape?,hbk]) (by simp [World.frozen?,hbk])).mono ?_;rintro e w' ⟨rfl,rfl⟩;refine ⟨rfl,by simp [World.setCell,Array.getElem?_modify,hbk],⟨rfl,rfl,rfl,by simp [World.setCell],fun k _ hk=>Below.heap_setCell _ _ _ _ (fun e=>hk (by simp [e]))⟩⟩
 ·refine (bcheck_used b w (by rw [Go.Lib.cell_of_heap hbk]; rfl)).mono ?_;rintro e w' ⟨rfl,rfl⟩;exact ⟨rfl,hbk,Keep.refl _ _⟩
theorem bwrite (b:Nat) (q v:Value) (bs:List Value) (s:ByteArray) (w:World) (hbk:w.heap[b]?=some (.cells #[q,v] 287 (0,0))) (hq:q=.pointer none\/q=.pointer (some ⟨b,0,none⟩)) (hown:w.ownsRowF 0 5 1 v bs.length bs) (hne:v.ownBlock≠some b) (hlen:bs.length + s.size<=140737488355328) :
  Calls Tryz.prog 275 #[.pointer (some ⟨b,0,none⟩),.string s] w fun e w'=>e=.returned (.tuple #[.int .i64 s.size,.nilIface])/\∃ v',w'.heap[b]?=some (.cells #[.pointer (some ⟨b,0,none⟩),v'] 287 (0,0))/\w'.ownsRowF 0 5 1 v' (bs.length + s.size) (bs++Go.Lib.strCells s)/\Keep (fun k=>k=b\/v.ownBlock=some k) w w'/\(∀ k,v'.ownBlock=some k->v.ownBlock=some k\/w.heap.size<=k):=by
 obtain ⟨i0,hi,hz0,hz1,hz2⟩:=info_parts iB8;have u1:=run_underlying uBp; have u2:=run_underlying uBs; have u3:=run_underlying uBu; have u4:=run_underlying uBstr; have u5:=run_underlying uBint; have u6:=run_underlying q8a;have hlt:=q0b hbk
 go_enter Tryz.func275,Tryz.ntmps275
 go_wp2_with fail
 refine (bcheck b q v _ hbk hq).mono ?_;rintro e w1 ⟨rfl,h1,hk1⟩;have hown1:w1.ownsRowF 0 5 1 v bs.length bs:=by
  refine ⟨hown.1,?_⟩;rcases hown.2 with hn | ⟨g,cap,cur,fz,rfl,hb,hgg,rest⟩
  ·exact .inl hn
  ·exact .inr ⟨g,cap,cur,fz,rfl,hb,(hk1.block g (q0b hgg) (fun e=>hne (by rw [<- e]; rfl))).trans hgg,rest⟩
 have c0:w1.cell? ⟨b,0,none⟩=some (.pointer (some ⟨b,0,none⟩)):=by rw [Go.Lib.cell_of_heap h1]; rfl
 have c1:w1.cell? ⟨b,1,none⟩=some v:=by rw [Go.Lib.cell_of_heap h1]; rfl
 obtain ⟨v',w2,hrun,hown',hgrow,hblk⟩:=append_str_at (P:=Tryz.prog) w1 28 9 28 5 i0 uBs uBstr hi hz0 hz1 hz2 v _ bs hown1 s (by unfold maxLen; omega) hlen;have hlt1:=q0b h1;have hb2:w2.heap[b]?=some (.cells #[.pointer (some ⟨b,0,none⟩),v] 287 (0,0)):=by
  rw [hgrow.block b hlt1 (fun e=>hne e.symm)];exact h1
 have d0:w2.cell? ⟨b,0,none⟩=some (.pointer (some ⟨b,0,none⟩)):=by rw [Go.Lib.cell_of_heap hb2]; rfl
 have d1:w2.cell? ⟨b,1,none⟩=some v:=by rw [Go.Lib.cell_of_heap hb2]; rfl
 have f1:w2.frozen? ⟨b,1,none⟩=false:=Go.Lib.frozen_of_heap hb2 1;obtain ⟨ao,n',cap,rfl⟩:∃ ao n' cap,v'=.slice ao n' cap:=by
  rcases hown'.2 with ⟨hv,_⟩ | ⟨g,cap,cur,fz,hv,_⟩
  ·exact ⟨_,_,_,hv⟩
  ·exact ⟨_,_,_,hv⟩
 go_wp2_with (at_builtin; refine wpList_strapp _ rfl _ _ 28 9 rfl v (.string s) rfl rfl hrun ?_)
 go_ret2
 have hgb:∀ g,(Value.slice ao n' cap).ownBlock=some g->g≠b:=fun g hg e=>by
  subst e;rcases hown'.2 with ⟨hv,_⟩ | ⟨g',cap',cur,fz,hv,_,hgg,_⟩
  ·rw [hv] at hg; cases hg
  ·rw [hv] at hg;injection hg with hg;have hg:g'=g:=hg;rw [hg,hb2] at hgg;injection hgg with hgg;injection hgg with _ hgg;exact absurd hgg (by decide)
 refine ⟨rfl,.slice ao n' cap,by simp [World.setCell,Array.getElem?_modify,hb2],⟨hown'.1,?_⟩,?_,fun k hk=>(hblk k hk).imp id (fun h=>yH hk1.size h)⟩
 ·rcases hown'.2 with hn | ⟨g,cap',cur,fz,hv,hb,hgg,rest⟩
  ·exact .inl hn
  ·exact .inr ⟨g,cap',cur,fz,hv,hb,(Below.heap_setCell _ _ _ _ (fun e=>hgb g (by rw [hv]; rfl) (by simpa using e))).trans hgg,rest⟩
 ·refine ⟨hgrow.os.trans hk1.os,hgrow.tape.trans hk1.tape,hgrow.output.trans hk1.output,?_,fun k hk hf=>?_⟩
  ·have:=hk1.size; have:=hgrow.size; simp [World.setCell]; omega
  ·rw [Below.heap_setCell _ _ _ _ (fun e=>hf (.inl (by simpa using e)))];rw [hgrow.block k (yX hk hk1.size) (fun e=>hf (.inr e.symm))];exact hk1.block k hk (fun e=>hf (.inl e))
theorem bstring_run (b:Nat) (q:Value) (sl:Value) (A:Option Addr) (n c:Nat) (hsl:sl=.slice A n c) (p:Value) (s:ByteArray) (w w1 w2:World) (hbk:w.heap[b]?=some (.cells #[q,sl] 287 (0,0)))
  (hSD:(Builtin.unsafeSliceData_ #[28] 299 #[.slice A n c]).run Tryz.prog w.drew=.ok p w1) (h1:w1.heap[b]?=w.heap[b]?) (hUS:(Builtin.unsafeString_ #[299,3] 9 #[p,.int .i64 n]).run Tryz.prog w1=.ok (.string s) w2) :
  Calls Tryz.prog 276 #[.pointer (some ⟨b,0,none⟩)] w fun e w'=>e=.returned (.string s)/\w'=w2:=by
 subst hsl;have hd:w.drew.heap[b]?=some (.cells #[q,.slice A n c] 287 (0,0)):=hbk;have c1:w.drew.cell? ⟨b,1,none⟩=some (.slice A n c):=by rw [Go.Lib.cell_of_heap hd]; rfl
 have c2:w1.cell? ⟨b,1,none⟩=some (.slice A n c):=by rw [Go.Lib.cell_of_heap (h1.trans hbk)]; rfl
 have u1:=run_underlying uBp; have u2:=run_underlying uBs; have u3:=run_underlying uBu; have u4:=run_underlying uBstr; have u5:=run_underlying uBint; have u6:=run_underlying q8a;have mixed:Tryz.prog.follows .mixedOrders=true:=by kernel_rfl
 go_enter Tryz.func276,Tryz.ntmps276
 go_wp2
 go_region_o
 all_goals (go_wp2; go_ret; exact ⟨rfl,rfl⟩)
end
section
open Go Go.RowKit
variable {O:Objs}
theorem keep_freeze {w:World} (g o n:Nat):Keep (fun k=>k=g) w (w.freeze ⟨g,o,none⟩ n):=by
 unfold World.freeze;split
 ·exact Keep.refl _ _
 ·exact ⟨rfl,rfl,rfl,by simp,fun k _ hk=>by
   simp only [Array.getElem?_modify];rw [if_neg (fun e=>hk e.symm)]⟩
theorem strCells_append (a s:ByteArray):Go.Lib.strCells (a++s)=Go.Lib.strCells a++Go.Lib.strCells s:=by
 simp [Go.Lib.strCells,ByteArray.data_append]
theorem bld_write (a s:ByteArray) (hlen:a.size + s.size<=140737488355328) :
  q1Y Tryz.prog O 275 [.ptr 0 0 0,.str s] (some (bldAV 287 5 a)) (.tup [.int .i64 s.size,.undef],some (bldAV 287 5 (a++s))):=by
 refine (q1Y.of rfl).2 ⟨enters_of Tryz.func275 (by kernel_rfl) rfl,?_⟩;intro av w vs p H hav hH hat hargs;rw [O.blds] at hat;obtain ⟨v,q,h1,h2,h3,h4,h5⟩:=hat;simp only [RepA] at hargs;obtain ⟨u,us,rfl,hu,u2,us2,rfl,hu2,rfl⟩:=hargs;rw [q38] at hu;obtain ⟨b,hb,rfl⟩:=hu;have hbp:p=b:=by
  have:(if (0:Nat)=0/\(0:Nat)=0 then some p else none)=some b:=hb;simpa using this
 subst hbp;rw [q3Q] at hu2;subst hu2;have hl:(Go.Lib.strCells a).length=a.size:=Go.Lib.strCells_length a;refine (bwrite p q v (Go.Lib.strCells a) s w h1 h2 (by rw [hl]; exact h3) h4 (by rw [hl]; exact hlen)).mono ?_;rintro e w' ⟨rfl,v',g1,g2,g3,g4⟩;have hne':v'.ownBlock≠some p:=fun e=>by
  rcases g2.2 with ⟨hv,_⟩ | ⟨g',cap',cur,fz,hv,_,hgg,_⟩
  ·rw [hv] at e; cases e
  ·rw [hv] at e;injection e with e;have e:g'=p:=e;rw [e,g1] at hgg;injection hgg with hgg;injection hgg with _ hgg;exact absurd hgg (by decide)
 refine ⟨_,fun k=>k=p\/v'.ownBlock=some k,rfl,?_,?_,?_,?_⟩
 ·refine ⟨_,rfl,_,_,rfl,by simp [Rep],_,_,rfl,trivial,rfl⟩
 ·rw [O.blds];refine ⟨v',_,g1,.inr rfl,?_,hne',fun b=>Iff.rfl⟩;rw [strCells_append,show (a++s).size=a.size + s.size from by simp [ByteArray.size_append]];rw [hl] at g2;exact g2
 ·rintro k (rfl | hk)
  ·exact .inl ((h5 _).2 (.inl rfl))
  ·exact (g4 k hk).imp (fun h=>(h5 k).2 (.inr h)) id
 ·exact g3.mono fun k _ hk=>(h5 k).2 hk
theorem own_frz {w:World} {e:TypeId} {g n c:Nat} {xs:List Value} (h:w.ownsRowF 0 e 1 (.slice (some ⟨g,0,none⟩) n c) n xs):(w.freeze ⟨g,0,none⟩ n).ownsRowF 0 e 1 (.slice (some ⟨g,0,none⟩) n c) n xs:=by
 refine ⟨h.1,?_⟩;rcases h.2 with ⟨hv,_⟩ | ⟨g',cap,cur,⟨lo,hi⟩,hv,hb,hg,hf,rest⟩
 ·cases hv
 ·injection hv with h1 h2 h3;injection h1 with h1;injection h1 with h1;subst h1;subst h3;unfold World.freeze;split
  ·exact .inr ⟨_,_,cur,⟨lo,hi⟩,rfl,hb,hg,hf,rest⟩
  ·refine .inr ⟨g,c,cur,if lo == hi then (0,n) else (min lo 0,max hi n),rfl,hb,?_,?_,rest⟩
   ·simp only [Array.getElem?_modify,if_true,hg,yt,yy]
   ·simp only at hf;split
    ·simp
    ·simp only; omega
theorem bld_string (a:ByteArray) :
  q1Y Tryz.prog O 276 [.ptr 0 0 0] (some (bldAV 287 5 a)) (.str a,some (bldAV 287 5 a)):=by
 refine (q1Y.of rfl).2 ⟨enters_of Tryz.func276 (by kernel_rfl) rfl,?_⟩;intro av w vs p H hav hH hat hargs;rw [O.blds] at hat;have hat0:=hat;obtain ⟨v,q,h1,h2,h3,h4,h5⟩:=hat;simp only [RepA] at hargs;obtain ⟨u,us,rfl,hu,rfl⟩:=hargs;rw [q38] at hu;obtain ⟨b,hb,rfl⟩:=hu;have hbp:p=b:=by
  have:(if (0:Nat)=0/\(0:Nat)=0 then some p else none)=some b:=hb;simpa using this
 subst hbp;have hlt:=q0b h1;have hl:(Go.Lib.strCells a).length=a.size:=Go.Lib.strCells_length a;have fin:∀ (A:Option Addr) (n c:Nat) (pp:Value) (w1 w2:World),v=.slice A n c->(Builtin.unsafeSliceData_ #[28] 299 #[.slice A n c]).run Tryz.prog w.drew=.ok pp w1->w1.heap[p]?=w.heap[p]?->(Builtin.unsafeString_ #[299,3] 9 #[pp,.int .i64 n]).run Tryz.prog w1=.ok (.string a) w2->Keep (fun k=>v.ownBlock=some k) w w2->w2.ownsRowF 0 5 1 v a.size (Go.Lib.strCells a) →
   Calls Tryz.prog 276 #[.pointer (some ⟨p,0,none⟩)] w fun e w'=>∃ v H',e=.returned v/\Rep (fun b o=>av b o\/H' b) w' (.str a) v/\O.at_ (bldAV 287 5 a) H' p w'/\(∀ b,H' b->H b\/w.heap.size<=b)/\Keep H w w':=fun A n c pp w1 w2 hv hSD hw1 hUS hk ho=>by
  refine (bstring_run p q v A n c hv pp a w w1 w2 h1 hSD hw1 hUS).mono ?_;rintro e w' ⟨rfl,rfl⟩;refine ⟨_,H,rfl,rfl,?_,fun b h=>.inl h,hk.mono fun k _ h=>(h5 k).2 (.inr h)⟩;rw [O.blds];exact ⟨v,q,(hk.block p hlt h4).trans h1,h2,ho,h4,h5⟩
 have hmax:a.size<=9223372036854775807\/True:=.inr trivial;have hempty:a.size=0->a=ByteArray.empty:=fun h=>by
  obtain ⟨d⟩:=a;have h:d.size=0:=h;have:d=#[]:=Array.eq_empty_of_size_eq_zero h;subst this;rfl
 rcases h3.2 with ⟨hv,hn⟩ | ⟨g,cap,cur,fz,hv,hbg,hg,hfz,hnc,hcm,hcs,htake⟩
 ·refine fin none 0 0 (.pointer none) w.drew w.drew hv rfl rfl ?_ (Keep.refl _ w).drew h3;rw [hempty hn];exact Go.Lib.run_unsafeString_none _ _ _ _ _
 ·have hkd:w.drew.heap[g]?=some (.cells cur 5 fz):=hg;by_cases h0:a.size=0
  ·by_cases hc0:cap=0
   ·subst hc0;have hSD:=Go.Lib.run_unsafeSliceData_zero (P:=Tryz.prog) w.drew #[28] 299 5 uBu ⟨g,0,none⟩ a.size (5,cur.size) (by simp [World.shape?,hkd]);refine fin _ _ _ _ _ (w.drew.alloc (.view ⟨g,0,none⟩ 5)) hv hSD (heap_alloc_old w.drew _ hlt) ?_ ((Keep.refl _ w).drew.alloc _) ?_
    ·rw [h0,hempty h0];exact Go.Lib.run_unsafeString_none _ _ _ _ _
    ·refine ⟨h3.1,.inr ⟨g,0,cur,fz,hv,hbg,(heap_alloc_old w.drew _ (q0b hg)).trans hg,hfz,hnc,hcm,hcs,htake⟩⟩
   ·refine fin _ _ _ _ _ w.drew hv (Go.Lib.run_unsafeSliceData_row _ _ _ _ _ _ hc0) rfl ?_ (Keep.refl _ w).drew h3;rw [h0,hempty h0];exact Go.Lib.run_unsafeString_none _ _ _ _ _
  ·have hc0:cap≠0:=by omega
   have hal:a.data.toList.length=a.size:=by simp
   have hUS:(Builtin.unsafeString_ #[299,3] 9 #[.pointer (some ⟨g,0,none⟩),.int .i64 a.data.toList.length]).run Tryz.prog w.drew=.ok (.string ⟨a.data.toList.toArray⟩) (w.drew.freeze ⟨g,0,none⟩ a.data.toList.length):=by
    refine Go.Lib.run_unsafeString_row w.drew 299 3 9 5 uBu cB8 g cur.size (by simp [World.shape?,hkd]) a.data.toList (fun e=>h0 (by rw [<- hal,e]; rfl)) (by rw [hal]; omega) (by rw [hal]; unfold maxLen at hcm; omega) ?_;intro j x hx;have:=h3.cells (g:=g) (by rw [hv]; rfl) j (.int .u8 x.toNat) (by simp only [Go.Lib.strCells,yf,hx,yt]);exact this
   rw [hal] at hUS;refine fin _ _ _ _ _ (w.drew.freeze ⟨g,0,none⟩ a.size) hv (Go.Lib.run_unsafeSliceData_row _ _ _ _ _ _ hc0) rfl hUS ?_ ?_
   ·exact ((Keep.refl _ w).drew).trans (keep_freeze g 0 a.size) (fun k _ hk=>by rw [hv,hk]; rfl)
   ·have h3':w.drew.ownsRowF 0 5 1 v a.size (Go.Lib.strCells a):=h3;rw [hv] at h3' ⊢;exact own_frz h3'
end
abbrev oM (d n:Nat):OpC:=⟨some d,.mv (.t n),none⟩
abbrev oF (d a n:Nat):OpC:=⟨some d,.faddr a (.t n),none⟩
abbrev oL (d n:Nat):OpC:=⟨some d,.load .any false 1 (.t n),none⟩
abbrev oA (d z n:Nat):OpC:=⟨some d,.load .any true z (.t n),none⟩
abbrev oB (d:Nat)(o:BinOp)(a b:Nat):OpC:=⟨some d,.bin o false (.t a) (.t b),none⟩
abbrev oC (d:Nat)(o:BinOp)(a:Nat)(n:Int):OpC:=⟨some d,.bin o false (.t a) (.c (.int .i64 n)),none⟩
abbrev oX (d n i:Nat):OpC:=⟨some d,.ext (.t n) i,none⟩
abbrev oV (z a b:Nat):OpC:=⟨none,.store .any true z (.t a) (.t b),none⟩
abbrev oW (a b:Nat):OpC:=⟨none,.store .any false 1 (.t a) (.t b),none⟩
abbrev oI (d z a b:Nat):OpC:=⟨some d,.iaddr z (.t a) (.t b),none⟩
abbrev oJ (d:Nat)(n:Int):OpC:=⟨some d,.mv (.c (.int .i64 n)),none⟩
abbrev oH (d n:Nat):OpC:=⟨some d,.len false (.t n),none⟩
abbrev oU (d n:Nat):OpC:=⟨some d,.un .not (.t n),none⟩
abbrev oZ (d:Nat)(b:Bool):OpC:=⟨some d,.mv (.c (.bool b)),none⟩
abbrev oK (d n:Nat):OpC:=⟨some d,.nilchk (.t n),none⟩
abbrev oY (d:Nat)(l:List AV):OpC:=⟨some d,.alloc l,none⟩
abbrev oQ (d z n:Nat):OpC:=⟨some d,.box z (.t n),none⟩
abbrev oS (d:Nat)(k:K):OpC:=⟨some d,k,none⟩
abbrev oN (k:K):OpC:=⟨none,k,none⟩
abbrev oG (d:Nat)(k:K)(g:Nat)(b:Bool):OpC:=⟨some d,k,some (g,b)⟩
abbrev oP (d n g:Nat)(b:Bool):OpC:=⟨some d,.load .any false 1 (.t n),some (g,b)⟩
abbrev oR (l:List OpC)(c:C):C:=.seq (.reg l) c
abbrev zza:List AV:=[(.int .i64 0),(.bool false),(.int .i64 0),(.str (ByteArray.mk #[])),(.int .i64 0),(.sl true []),(.sl true []),(.sl true [])]
abbrev zzb:List AV:=[(.int .i64 0),(.bool false),(.int .i64 0),(.str (ByteArray.mk #[])),(.int .i64 0),(.sl true []),(.sl true []),(.sl true []),(.sl true []),(.bool false)]
abbrev zzc:List AV:=[(.int .i64 0),(.str (ByteArray.mk #[]))]
abbrev zzd:List AV:=[(.int .u8 0),(.int .u8 0),(.int .u8 0),(.int .u8 0),(.sl true [])]
abbrev zze:List AV:=[(.int .i64 0),(.str (ByteArray.mk #[])),(.int .i64 0),(.int .i64 0),(.int .i64 0),(.sl true []),(.sl true []),(.int .i64 0),(.int .i64 0),(.bool false)]
abbrev zzf:List AV:=[(.int .u8 0),(.int .u8 0),(.int .u8 0),(.int .u8 0)]
abbrev zzg:List AV:=[(.int .u8 0),(.int .u8 0),(.int .u8 0)]
abbrev zzh:List AV:=[(.int .i64 0),(.str (ByteArray.mk #[])),(.int .i64 0),(.bool false),(.bool false),(.int .i64 0),(.bool false),(.int .i64 0),(.str (ByteArray.mk #[])),(.int .i64 0),(.sl true []),(.sl true []),(.sl true [])]
abbrev zzi:List AV:=[(.sl true []),(.sl true []),(.sl true []),(.sl true [])]
noncomputable def cF (l:List Nat) (f:Func):FnC:=(compF Tryz.prog l f).getD ⟨.skip,[],0,[]⟩
def q1j:FnC:=⟨(oR [oQ 3 4 0,oZ 6 false] (.seq (.reg [oA 19 4 3,oS 20 (.call .any 18 [(.t 19)]),oM 18 20,oX 21 18 0,oX 22 18 1,oX 23 18 2,oS 7 (.alloc [(.sl true []),(.int .i64 0)]),oS 8 (.alloc [(.sl true []),(.int .i64 0)]),oV 2 7 21,oV 2 8 22,oM 9 23]) (.seq (.seq (.reg [oS 24 (.call .any 19 []),oU 25 24,oM 26 25,oG 27 (.mv (.t 9)) 26 false,oG 28 (.un .not (.t 27)) 26 false,oS 29 (.pick (.t 26) (.c (.bool true)) (.t 28))]) (.cond (.t 29) (.seq (.reg [oS 30 (.call .any 19 []),oM 6 30]) .ret) .skip)) (.seq (.reg [oF 32 0 7,oA 33 1 32,oM 34 1,oF 35 0 8,oA 36 1 35,oM 37 2,oS 38 (.call .any 24 [(.t 33),(.t 34),(.t 36),(.t 37)]),oM 31 38,oX 39 31 0,oX 40 31 1,oM 10 39,oM 11 40]) (.seq (.reg [oF 42 0 7,oA 43 1 42,oM 44 1,oF 45 0 8,oA 46 1 45,oM 47 2,oS 48 (.call .any 25 [(.t 43),(.t 44),(.t 46),(.t 47)]),oM 41 48,oX 49 41 0,oX 50 41 1,oM 12 49,oM 13 50]) (.seq (.reg [oF 52 0 7,oA 53 1 52,oM 54 1,oF 55 0 8,oA 56 1 55,oM 57 2,oS 58 (.call .any 26 [(.t 53),(.t 54),(.t 56),(.t 57)]),oM 51 58,oX 59 51 0,oX 60 51 1,oM 14 59,oM 15 60]) (.seq (.reg [oF 62 0 7,oA 63 1 62,oM 64 1,oF 65 0 8,oA 66 1 65,oM 67 2,oS 68 (.call .any 27 [(.t 63),(.t 64),(.t 66),(.t 67)]),oM 61 68,oX 69 61 0,oX 70 61 1,oM 16 69,oM 17 70]) (.seq (.reg [oM 71 10,oM 72 12,oB 73 .eql 71 72,oM 74 73,oG 75 (.mv (.t 11)) 74 true,oG 76 (.mv (.t 13)) 74 true,oG 77 (.bin .eql false (.t 75) (.t 76)) 74 true,oS 78 (.pick (.t 74) (.t 77) (.c (.bool false))),oM 79 78,oG 80 (.mv (.t 14)) 79 true,oG 81 (.mv (.t 16)) 79 true,oG 82 (.call .any 28 [(.t 80),(.t 81)]) 79 true,oS 83 (.pick (.t 79) (.t 82) (.c (.bool false))),oM 84 83,oG 85 (.mv (.t 15)) 84 true,oG 86 (.mv (.t 17)) 84 true,oG 87 (.bin .eql false (.t 85) (.t 86)) 84 true,oS 88 (.pick (.t 84) (.t 87) (.c (.bool false))),oM 6 88]) .ret)))))))),[(.tmp 6)],3,[]⟩
theorem q7m:FnOk Tryz.prog 4 q1j:=⟨fun xs w=>by kernel_rfl,_,Tryz.func4,by kernel_rfl⟩
def q2B:FnC:=⟨(.seq (.reg [oQ 1 4 0,oS 2 (.alloc [(.sl true []),(.int .i64 0)]),oS 3 (.alloc [(.sl true []),(.int .i64 0)]),oZ 4 false]) (.seq (.reg [oF 11 0 1,oA 12 1 11,oS 13 (.call .any 34 [(.t 12)]),oM 10 13,oX 14 10 0,oX 15 10 1,oS 5 (.alloc [(.sl true [])]),oV 1 5 14,oM 6 15]) (.seq (.reg [oF 17 0 1,oA 18 1 17,oF 19 1 1,oL 20 19,oS 21 (.call .any 69 [(.t 18),(.t 20)]),oS 22 (.call .any 34 [(.t 21)]),oM 16 22,oX 23 16 0,oX 24 16 1,oS 7 (.alloc [(.sl true [])]),oV 1 7 23,oM 8 24]) (.seq (.seq (.reg [oM 25 6,oU 26 25,oM 27 26,oG 28 (.mv (.t 8)) 27 false,oG 29 (.un .not (.t 28)) 27 false,oS 30 (.pick (.t 27) (.c (.bool true)) (.t 29)),oM 31 30,oG 32 (.faddr 1 (.t 1)) 31 false,oP 33 32 31 false,oG 34 (.len false (.t 33)) 31 false,oG 35 (.bin .gtr false (.t 34) (.c (.int .i64 5))) 31 false,oS 36 (.pick (.t 31) (.c (.bool true)) (.t 35))]) (.cond (.t 36) (.seq (.reg [oS 37 (.build [(.sl true []),(.int .i64 0)] []),oS 38 (.build [(.sl true []),(.int .i64 0)] []),oV 2 2 37,oV 2 3 38,oZ 4 false]) .ret) .skip)) (.seq (.reg [oS 39 (.load (.root 5) true 1 (.t 5)),oF 40 2 1,oS 41 (.load (.root 1) false 1 (.t 40)),oS 42 (.conv (.some .i64) (.t 41)),oF 43 0 5,oS 44 (.load (.root 5) false 1 (.t 43)),oH 45 44,oB 46 .rem 42 45,oS 47 (.build [(.sl true []),(.int .i64 0)] [(0,(1,(.t 39))),(1,(1,(.t 46)))]),oS 9 (.alloc [(.sl true []),(.int .i64 0)]),oN (.store (.root 9) true 2 (.t 9) (.t 47))]) (.seq (.reg [oS 48 (.load (.root 9) true 2 (.t 9)),oS 49 (.load (.root 7) true 1 (.t 7)),oF 50 1 9,oS 51 (.load (.root 9) false 1 (.t 50)),oF 52 3 1,oS 53 (.load (.root 1) false 1 (.t 52)),oS 54 (.conv (.some .i64) (.t 53)),oB 55 .add 51 54,oF 56 0 7,oS 57 (.load (.root 7) false 1 (.t 56)),oH 58 57,oB 59 .rem 55 58,oS 60 (.build [(.sl true []),(.int .i64 0)] [(0,(1,(.t 49))),(1,(1,(.t 59)))]),oN (.store (.root 2) true 2 (.t 2) (.t 48)),oN (.store (.root 3) true 2 (.t 3) (.t 60)),oZ 4 true]) .ret)))))),[(.cell 2 true 2),(.cell 3 true 2),(.tmp 4)],1,[]⟩
theorem ok_ref20_Of:FnOk Tryz.prog 18 q2B:=⟨fun xs w=>by kernel_rfl,_,Tryz.func18,by kernel_rfl⟩
noncomputable def q8V:FnC:=cF [] Tryz.f19
theorem ok_law20_awake:FnOk Tryz.prog 19 q8V:=⟨fun xs w=>by kernel_rfl,_,Tryz.func19,by kernel_rfl⟩
def q4T:FnC:=⟨(oR [oQ 2 2 0,oQ 3 2 1,oZ 4 false,oJ 5 0] (.seq (.reg [oA 10 2 2,oA 11 2 3,oS 12 (.call .any 32 [(.t 10),(.t 11)]),oM 9 12,oX 13 9 0,oX 14 9 1,oX 15 9 2,oM 6 13,oM 7 14,oM 8 15]) (.seq (oR [oM 16 8] (.block 0 (oR [oC 18 .eql 16 15,oM 17 18] (.cond (.t 17) (oR [oZ 4 true,oJ 5 0] .ret) (oR [oC 20 .eql 16 0,oM 19 20] (.cond (.t 19) (oR [oZ 4 false,oJ 5 0] .ret) .skip)))))) (oR [oM 21 8,oZ 4 false,oM 5 21] .ret)))),[(.tmp 4),(.tmp 5)],2,[]⟩
theorem q7p:FnOk Tryz.prog 21 q4T:=⟨fun xs w=>by kernel_rfl,_,Tryz.func21,by kernel_rfl⟩
def q3d:FnC:=⟨(oR [oQ 5 1 0,oQ 7 8 2,oQ 8 1 3,oY 10 zza,oJ 11 0] (.seq (.seq (.reg [oA 14 1 5,oM 15 1,oA 16 8 7,oA 17 1 8,oM 18 4,oS 19 (.call .any 74 [(.t 14),(.t 15),(.t 16),(.t 17),(.t 18)]),oM 12 19]) (oR [oM 20 12,oC 21 .neq 20 0] (.cond (.t 21) (.seq (.reg [oS 22 (.build zza []),oM 23 12,oV 8 10 22,oM 11 23]) .ret) .skip))) (.seq (.reg [oA 24 1 5,oM 25 1,oA 26 8 7,oA 27 1 8,oM 28 4,oS 29 (.call .any 75 [(.t 24),(.t 25),(.t 26),(.t 27),(.t 28),(.c (.sl true []))]),oY 13 zzb,oV 10 13 29]) (.seq (oR [oF 30 9 13,oL 31 30,oU 32 31] (.cond (.t 32) (.seq (.reg [oS 33 (.build zza []),oV 8 10 33,oJ 11 12]) .ret) .skip)) (oR [oF 34 0 13,oA 35 8 34,oV 8 10 35,oJ 11 0] .ret))))),[(.cell 10 true 8),(.tmp 11)],5,[]⟩
theorem qaP:FnOk Tryz.prog 23 q3d:=⟨fun xs w=>by kernel_rfl,_,Tryz.func23,by kernel_rfl⟩
def q2U:FnC:=⟨(oR [oQ 4 1 0,oQ 6 1 2,oJ 8 0,oJ 9 0] (.seq (.seq (.reg [oA 11 1 4,oM 12 1,oS 13 (.build [(.sl true []),(.int .i64 0)] [(0,(1,(.t 11))),(1,(1,(.t 12)))]),oA 14 1 6,oM 15 3,oS 16 (.build [(.sl true []),(.int .i64 0)] [(0,(1,(.t 14))),(1,(1,(.t 15)))]),oS 17 (.call .any 76 [(.t 13),(.t 16)]),oM 10 17]) (oR [oM 18 10,oC 19 .neq 18 0] (.cond (.t 19) (oR [oM 20 10,oJ 8 0,oM 9 20] .ret) .skip))) (.seq (.reg [oA 21 1 4,oM 22 1,oA 23 1 6,oM 24 3,oS 25 (.call .any 77 [(.t 21),(.t 22),(.t 23),(.t 24)]),oM 8 25,oJ 9 0]) .ret))),[(.tmp 8),(.tmp 9)],4,[]⟩
theorem q9V:FnOk Tryz.prog 24 q2U:=⟨fun xs w=>by kernel_rfl,_,Tryz.func24,by kernel_rfl⟩
def q4j:FnC:=⟨(oR [oQ 4 1 0,oQ 6 1 2,oJ 8 0,oJ 9 0] (.seq (.seq (.reg [oA 11 1 4,oM 12 1,oS 13 (.build [(.sl true []),(.int .i64 0)] [(0,(1,(.t 11))),(1,(1,(.t 12)))]),oA 14 1 6,oM 15 3,oS 16 (.build [(.sl true []),(.int .i64 0)] [(0,(1,(.t 14))),(1,(1,(.t 15)))]),oS 17 (.call .any 43 [(.t 13),(.t 16)]),oM 10 17]) (oR [oM 18 10,oC 19 .neq 18 0] (.cond (.t 19) (oR [oM 20 10,oJ 8 0,oM 9 20] .ret) .skip))) (.seq (.reg [oA 21 1 4,oM 22 1,oA 23 1 6,oM 24 3,oS 25 (.call .any 78 [(.t 21),(.t 22),(.t 23),(.t 24)]),oM 8 25,oJ 9 0]) .ret))),[(.tmp 8),(.tmp 9)],4,[]⟩
theorem ok_ref20_Local:FnOk Tryz.prog 25 q4j:=⟨fun xs w=>by kernel_rfl,_,Tryz.func25,by kernel_rfl⟩
def q1I:FnC:=⟨(.seq (.reg [oQ 4 1 0,oQ 6 1 2,oS 8 (.mv (.c (.sl true []))),oJ 9 0]) (.seq (.seq (.reg [oA 11 1 4,oM 12 1,oS 13 (.build [(.sl true []),(.int .i64 0)] [(0,(1,(.t 11))),(1,(1,(.t 12)))]),oA 14 1 6,oM 15 3,oS 16 (.build [(.sl true []),(.int .i64 0)] [(0,(1,(.t 14))),(1,(1,(.t 15)))]),oS 17 (.call .any 76 [(.t 13),(.t 16)]),oM 10 17]) (oR [oM 18 10,oC 19 .neq 18 0] (.cond (.t 19) (.seq (.reg [oM 20 10,oS 8 (.mv (.c (.sl true []))),oM 9 20]) .ret) .skip))) (.seq (.reg [oA 21 1 4,oM 22 1,oA 23 1 6,oM 24 3,oS 25 (.call .any 79 [(.t 21),(.t 22),(.t 23),(.t 24)]),oM 8 25,oJ 9 0]) .ret))),[(.tmp 8),(.tmp 9)],4,[]⟩
theorem q7q:FnOk Tryz.prog 26 q1I:=⟨fun xs w=>by kernel_rfl,_,Tryz.func26,by kernel_rfl⟩
def q2i:FnC:=⟨(.seq (.reg [oQ 4 1 0,oQ 6 1 2,oS 8 (.mv (.c (.sl true []))),oJ 9 0]) (.seq (.seq (.reg [oA 11 1 4,oM 12 1,oS 13 (.build [(.sl true []),(.int .i64 0)] [(0,(1,(.t 11))),(1,(1,(.t 12)))]),oA 14 1 6,oM 15 3,oS 16 (.build [(.sl true []),(.int .i64 0)] [(0,(1,(.t 14))),(1,(1,(.t 15)))]),oS 17 (.call .any 43 [(.t 13),(.t 16)]),oM 10 17]) (oR [oM 18 10,oC 19 .neq 18 0] (.cond (.t 19) (.seq (.reg [oM 20 10,oS 8 (.mv (.c (.sl true []))),oM 9 20]) .ret) .skip))) (.seq (.reg [oA 21 1 4,oM 22 1,oA 23 1 6,oM 24 3,oS 25 (.call .any 41 [(.t 21),(.t 22),(.t 23),(.t 24)]),oM 8 25,oJ 9 0]) .ret))),[(.tmp 8),(.tmp 9)],4,[]⟩
theorem q8C:FnOk Tryz.prog 27 q2i:=⟨fun xs w=>by kernel_rfl,_,Tryz.func27,by kernel_rfl⟩
def q55:C:=.seq (oR [oM 11 5,oM 12 0,oH 13 12,oB 14 .lss 11 13] (.cond (.t 14) .skip (.exit 0))) (.seq (.block 1 (.seq (.reg [oM 17 0,oM 18 5,oI 19 2 17 18,oA 20 2 19,oM 21 1,oM 22 5,oI 23 2 21 22,oA 24 2 23,oS 25 (.eqa true [0,0] (.t 20) (.t 24))]) (.cond (.t 25) (oR [oZ 4 false] .ret) .skip))) (.reg [oM 15 5,oC 16 .add 15 1,oM 5 16]))
def q5r:FnC:=⟨(oR [oZ 4 false] (.seq (oR [oM 6 0,oH 7 6,oM 8 1,oH 9 8,oB 10 .neq 7 9] (.cond (.t 10) (oR [oZ 4 false] .ret) .skip)) (.seq (oR [oJ 5 0] (.block 0 (.loop q55))) (oR [oZ 4 true] .ret)))),[(.tmp 4)],2,[]⟩
theorem ok_ref20_Pairs:FnOk Tryz.prog 28 q5r:=⟨fun xs w=>by kernel_rfl,_,Tryz.func28,by kernel_rfl⟩
def q6a:FnC:=⟨(oR [oQ 2 2 0,oQ 3 2 1,oZ 4 false,oJ 5 0] (.seq (.seq (.reg [oA 7 2 2,oA 8 2 3,oS 9 (.call .any 43 [(.t 7),(.t 8)]),oM 6 9]) (oR [oM 10 6,oC 11 .neq 10 0] (.cond (.t 11) (oR [oM 12 6,oZ 4 false,oM 5 12] .ret) .skip))) (.seq (.reg [oF 13 0 2,oA 14 1 13,oF 15 1 2,oL 16 15,oF 17 0 3,oA 18 1 17,oF 19 1 3,oL 20 19,oS 21 (.call .any 80 [(.t 14),(.t 16),(.t 18),(.t 20)]),oM 4 21,oJ 5 0]) .ret))),[(.tmp 4),(.tmp 5)],2,[]⟩
theorem q8B:FnOk Tryz.prog 29 q6a:=⟨fun xs w=>by kernel_rfl,_,Tryz.func29,by kernel_rfl⟩
def q8s:C:=.seq (oR [oM 44 10,oC 45 .geq 44 0] (.cond (.t 45) .skip (.exit 2))) (.seq (.block 3 (.reg [oM 50 13,oM 51 8,oM 52 10,oI 53 2 51 52,oA 54 2 53,oS 55 (.bsl [(.int .i64 0),(.int .i64 0)] 1 [(0,(.t 54))]),oS 56 (.appm .any 63 2 16 (.t 50) (.t 55)),oM 13 56])) (.reg [oM 46 9,oM 47 10,oI 48 1 46 47,oL 49 48,oM 10 49]))
def q8t:C:=oR [oB 29 .lss 28 27] (.seq (.cond (.t 29) .skip (.exit 0)) (.seq (.block 1 (.seq (.reg [oM 30 28,oI 31 2 26 28,oA 32 2 31,oY 11 [(.int .i64 0),(.int .i64 0)],oM 10 30,oV 2 11 32]) (.seq (.reg [oF 33 0 2,oA 34 1 33,oS 35 (.aaddr 2 1 (.t 11) (.c (.int .i64 0))),oL 36 35,oF 37 0 3,oA 38 1 37,oS 39 (.aaddr 2 1 (.t 11) (.c (.int .i64 1))),oL 40 39,oS 41 (.call .any 77 [(.t 34),(.t 36),(.t 38),(.t 40)]),oM 12 41]) (.seq (oR [oM 42 12,oC 43 .eql 42 0] (.cond (.t 43) (.exit 1) .skip)) (.seq (.reg [oS 13 (.mv (.c (.sl true [])))]) (.seq (.block 2 (.loop q8s)) (.seq (.reg [oM 57 13,oS 58 (.callh 62 (.c (.fn 86 [])) [(.t 57)])]) (oR [oM 59 13,oM 60 12,oM 4 59,oM 5 60,oJ 6 0] .ret)))))))) (.reg [oC 61 .add 28 1,oM 28 61])))
def q7j:FnC:=⟨(.seq (.reg [oQ 2 2 0,oQ 3 2 1,oS 4 (.mv (.c (.sl true []))),oJ 5 0,oJ 6 0]) (.seq (.seq (.reg [oA 14 2 2,oA 15 2 3,oS 16 (.call .any 76 [(.t 14),(.t 15)]),oM 7 16]) (oR [oM 17 7,oC 18 .neq 17 0] (.cond (.t 18) (.seq (.reg [oM 19 7,oS 4 (.mv (.c (.sl true []))),oJ 5 0,oM 6 19]) .ret) .skip))) (.seq (.reg [oA 21 2 2,oA 22 2 3,oS 23 (.call .any 81 [(.t 21),(.t 22)]),oM 20 23,oX 24 20 0,oX 25 20 1,oM 8 24,oM 9 25]) (.seq (oR [oM 26 8,oH 27 26,oJ 28 0] (.block 0 (.loop q8t))) (.seq (.reg [oS 4 (.mv (.c (.sl true []))),oJ 5 0,oJ 6 15]) .ret))))),[(.tmp 4),(.tmp 5),(.tmp 6)],2,[113,1000000 + 86]⟩
theorem q9U:FnOk Tryz.prog 32 q7j:=⟨fun xs w=>by kernel_rfl,_,Tryz.func32,by kernel_rfl⟩
def qav:C:=.seq (oR [oM 69 14,oM 70 13,oH 71 70,oB 72 .lss 69 71] (.cond (.t 72) .skip (.exit 2))) (.seq (.block 3 (.seq (.reg [oM 75 9,oM 76 13,oM 77 14,oI 78 2 76 77,oA 79 2 78,oS 80 (.call .any 35 [(.t 75),(.t 79)]),oU 81 80]) (.cond (.t 81) (.seq (.reg [oM 82 9,oM 83 13,oM 84 14,oI 85 2 83 84,oA 86 2 85,oS 87 (.bsl [(.int .i64 0),(.int .i64 0)] 1 [(0,(.t 86))]),oS 88 (.app .any 63 2 16 (.t 82) (.t 87)),oM 9 88]) (.reg [oM 89 8,oS 90 (.bsl [(.int .i64 0),(.int .i64 0)] 0 []),oM 91 8,oM 92 10,oI 93 1 91 92,oL 94 93,oS 95 (.app .any 63 2 16 (.t 90) (.t 94)),oM 96 13,oM 97 14,oI 98 2 96 97,oA 99 2 98,oS 100 (.bsl [(.int .i64 0),(.int .i64 0)] 1 [(0,(.t 99))]),oS 101 (.app .any 63 2 16 (.t 95) (.t 100)),oS 102 (.bsl [(.sl true [])] 1 [(0,(.t 101))]),oS 103 (.app .any 51 1 24 (.t 89) (.t 102)),oM 8 103])) .skip))) (.reg [oM 73 14,oC 74 .add 73 1,oM 14 74]))
def qaw:C:=.seq (oR [oM 34 10,oM 35 8,oH 36 35,oB 37 .lss 34 36] (.cond (.t 37) .skip (.exit 0))) (.seq (.block 1 (.seq (.reg [oM 40 9,oM 41 10,oI 42 2 40 41,oA 43 2 42,oY 11 [(.int .i64 0),(.int .i64 0)],oV 2 11 43]) (.seq (.seq (.reg [oF 44 0 2,oA 45 1 44,oS 46 (.aaddr 2 1 (.t 11) (.c (.int .i64 0))),oL 47 46,oF 48 0 3,oA 49 1 48,oS 50 (.aaddr 2 1 (.t 11) (.c (.int .i64 1))),oL 51 50,oS 52 (.call .any 78 [(.t 45),(.t 47),(.t 49),(.t 51)]),oM 12 52]) (oR [oM 53 12,oC 54 .neq 53 0] (.cond (.t 54) (oR [oM 55 8,oM 56 10,oI 57 1 55 56,oL 58 57,oM 59 12,oM 4 58,oM 5 59,oJ 6 0] .ret) .skip))) (.seq (.reg [oF 60 0 2,oA 61 1 60,oS 62 (.aaddr 2 1 (.t 11) (.c (.int .i64 0))),oL 63 62,oF 64 0 3,oA 65 1 64,oS 66 (.aaddr 2 1 (.t 11) (.c (.int .i64 1))),oL 67 66,oS 68 (.call .any 41 [(.t 61),(.t 63),(.t 65),(.t 67)]),oM 13 68]) (oR [oJ 14 0] (.block 2 (.loop qav))))))) (.reg [oM 38 10,oC 39 .add 38 1,oM 10 39]))
def q8Z:FnC:=⟨(.seq (.reg [oQ 2 2 0,oQ 3 2 1,oS 4 (.mv (.c (.sl true []))),oJ 5 0,oJ 6 0]) (.seq (.seq (.reg [oA 15 2 2,oA 16 2 3,oS 17 (.call .any 43 [(.t 15),(.t 16)]),oM 7 17]) (oR [oM 18 7,oC 19 .neq 18 0] (.cond (.t 19) (.seq (.reg [oM 20 7,oS 4 (.mv (.c (.sl true []))),oJ 5 0,oM 6 20]) .ret) .skip))) (.seq (.reg [oF 21 1 2,oL 22 21,oF 23 1 3,oL 24 23,oS 25 (.build [(.int .i64 0),(.int .i64 0)] [(0,(1,(.t 22))),(1,(1,(.t 24)))]),oS 26 (.bsl [(.int .i64 0),(.int .i64 0)] 1 [(0,(.t 25))]),oS 27 (.bsl [(.sl true [])] 1 [(0,(.t 26))]),oM 8 27]) (.seq (.reg [oF 28 1 2,oL 29 28,oF 30 1 3,oL 31 30,oS 32 (.build [(.int .i64 0),(.int .i64 0)] [(0,(1,(.t 29))),(1,(1,(.t 31)))]),oS 33 (.bsl [(.int .i64 0),(.int .i64 0)] 1 [(0,(.t 32))]),oM 9 33]) (.seq (oR [oJ 10 0] (.block 0 (.loop qaw))) (.seq (.reg [oS 4 (.mv (.c (.sl true []))),oJ 5 0,oJ 6 15]) .ret)))))),[(.tmp 4),(.tmp 5),(.tmp 6)],2,[]⟩
theorem ok_ref20_Blame:FnOk Tryz.prog 33 q8Z:=⟨fun xs w=>by kernel_rfl,_,Tryz.func33,by kernel_rfl⟩
def q3o:C:=.seq (oR [oM 69 10,oM 70 9,oH 71 70,oB 72 .lss 69 71] (.cond (.t 72) .skip (.exit 3))) (.seq (.block 4 (.reg [oF 75 5 8,oS 76 (.load (.root 8) false 1 (.t 75)),oM 77 9,oM 78 10,oI 79 1 77 78,oL 80 79,oM 81 9,oM 82 10,oI 83 1 81 82,oL 84 83,oS 85 (.bin .add false (.c (.int .i64 97)) (.t 84)),oS 86 (.conv (.some .i32) (.t 85)),oS 87 (.rstr (.t 86)),oS 88 (.bin .add false (.c (.str (ByteArray.mk #[115]))) (.t 87)),oS 89 (.build zzc [(0,(1,(.t 80))),(1,(1,(.t 88)))]),oS 90 (.bsl zzc 1 [(0,(.t 89))]),oS 91 (.app .any 137 2 24 (.t 76) (.t 90)),oF 92 5 8,oN (.store (.root 8) false 1 (.t 92) (.t 91))])) (.reg [oM 73 10,oC 74 .add 73 1,oM 10 74]))
def q8W:C:=.seq (oR [oM 21 6,oM 22 4,oB 23 .lss 21 22] (.cond (.t 23) .skip (.exit 0))) (.seq (.block 1 (oR [oF 26 0 1,oL 27 26,oM 28 6,oI 29 5 27 28,oA 30 5 29,oY 7 zzd,oV 5 7 30] (.seq (.reg [oA 31 1 1,oM 32 6,oS 33 (.call .any 87 [(.t 31),(.t 32)]),oS 34 (.build zze [(0,(1,(.t 33)))]),oY 8 zze,oV 10 8 34]) (.seq (.seq (.reg [oF 35 0 8,oL 36 35,oS 37 (.call .any 88 [(.t 36)])]) (.cond (.t 37) (.reg [oM 38 6,oS 39 (.bin .add false (.c (.int .i64 65)) (.t 38)),oS 40 (.conv (.some .i32) (.t 39)),oS 41 (.rstr (.t 40)),oF 42 1 8,oW 42 41]) .skip)) (.seq (oR [oF 43 0 8,oL 44 43] (.block 2 (oR [oC 46 .eql 44 2,oM 45 46] (.cond (.t 45) (.reg [oS 47 (.load (.root 7) true 5 (.t 7)),oS 48 (.call .any 89 [(.t 47)]),oS 49 (.load (.root 7) true 5 (.t 7)),oS 50 (.call .any 90 [(.t 49)]),oF 51 2 8,oN (.store (.root 8) false 1 (.t 51) (.t 48)),oF 52 3 8,oN (.store (.root 8) false 1 (.t 52) (.t 50))]) (oR [oC 54 .eql 44 3,oM 53 54] (.cond (.t 53) (.reg [oF 55 1 7,oL 56 55,oS 57 (.bin .rem false (.t 56) (.c (.int .u8 4))),oS 58 (.conv (.some .i64) (.t 57)),oF 59 4 8,oW 59 58]) (oR [oC 61 .eql 44 4,oM 60 61] (.cond (.t 60) (.seq (.reg [oF 62 2 7,oL 63 62,oS 64 (.bin .rem false (.t 63) (.c (.int .u8 2))),oS 65 (.bin .eql false (.t 64) (.c (.int .u8 1))),oF 66 9 8,oW 66 65]) (.seq (.reg [oA 67 5 7,oS 68 (.call .any 91 [(.t 67)]),oM 9 68]) (oR [oJ 10 0] (.block 3 (.loop q3o))))) (oR [oC 94 .eql 44 5,oM 93 94] (.cond (.t 93) (.reg [oA 95 1 1,oM 96 6,oS 97 (.callh 171 (.c (.fn 92 [])) [(.t 95),(.t 96),(.c (.bool true))]),oF 98 6 8,oW 98 97]) (oR [oC 100 .eql 44 6,oM 99 100] (.cond (.t 99) (.seq (.reg [oF 101 2 7,oL 102 101,oS 103 (.bin .rem false (.t 102) (.c (.int .u8 2))),oS 104 (.bin .eql false (.t 103) (.c (.int .u8 1))),oF 105 9 8,oW 105 104]) (.seq (.reg [oA 106 1 1,oM 107 6,oS 108 (.callh 171 (.c (.fn 92 [])) [(.t 106),(.t 107),(.c (.bool false))]),oF 109 6 8,oW 109 108]) (oR [oF 110 6 8,oL 111 110,oH 112 111,oC 113 .eql 112 0] (.cond (.t 113) (.reg [oF 114 1 8,oL 115 114,oS 116 (.build zze [(0,(1,(.c (.int .i64 5)))),(1,(1,(.t 115)))]),oV 10 8 116]) .skip)))) (oR [oC 118 .eql 44 7,oM 117 118] (.cond (.t 117) (.reg [oF 119 1 7,oS 120 (.load (.root 7) false 1 (.t 119)),oS 121 (.bin .rem false (.t 120) (.c (.int .u8 4))),oS 122 (.conv (.some .i64) (.t 121)),oF 123 3 7,oS 124 (.load (.root 7) false 1 (.t 123)),oS 125 (.conv (.some .i64) (.t 124)),oM 126 4,oB 127 .rem 125 126,oF 128 4 8,oN (.store (.root 8) false 1 (.t 128) (.t 122)),oF 129 8 8,oN (.store (.root 8) false 1 (.t 129) (.t 127))]) (oR [oC 131 .eql 44 8,oM 130 131] (.cond (.t 130) (.seq (.reg [oF 132 1 7,oS 133 (.load (.root 7) false 1 (.t 132)),oS 134 (.bin .rem false (.t 133) (.c (.int .u8 4))),oS 135 (.conv (.some .i64) (.t 134)),oS 136 (.load (.root 1) true 1 (.t 1)),oF 137 2 7,oS 138 (.load (.root 7) false 1 (.t 137)),oS 139 (.call .any 93 [(.t 136),(.t 138)]),oF 140 3 7,oS 141 (.load (.root 7) false 1 (.t 140)),oS 142 (.conv (.some .i64) (.t 141)),oM 143 4,oB 144 .rem 142 143,oF 145 4 8,oN (.store (.root 8) false 1 (.t 145) (.t 135)),oF 146 7 8,oN (.store (.root 8) false 1 (.t 146) (.t 139)),oF 147 8 8,oN (.store (.root 8) false 1 (.t 147) (.t 144))]) (oR [oF 148 7 8,oL 149 148,oC 150 .lss 149 0] (.cond (.t 150) (.reg [oF 151 4 8,oL 152 151,oF 153 8 8,oL 154 153,oS 155 (.build zze [(0,(1,(.c (.int .i64 7)))),(4,(1,(.t 152))),(8,(1,(.t 154)))]),oV 10 8 155]) .skip))) (oR [oC 157 .eql 44 9,oM 156 157] (.cond (.t 156) (.reg [oF 158 3 7,oL 159 158,oS 160 (.conv (.some .i64) (.t 159)),oM 161 4,oB 162 .rem 160 161,oF 163 8 8,oW 163 162]) .skip)))))))))))))))))) (.reg [oF 164 0 5,oL 165 164,oA 166 10 8,oS 167 (.bslr 10 zze 1 [(0,(.t 166))]),oS 168 (.appn .any 132 10 120 (.t 165) (.t 167)),oF 169 0 5,oW 169 168])))))) (.reg [oM 24 6,oC 25 .add 24 1,oM 6 25]))
def q2Y:FnC:=⟨(.seq (.reg [oQ 1 1 0,oS 2 (.alloc [(.sl true [])]),oZ 3 false]) (oR [oF 11 0 1,oL 12 11,oH 13 12,oM 4 13] (.seq (.seq (.reg [oM 14 4,oC 15 .lss 14 1,oM 16 15,oG 17 (.mv (.t 4)) 16 false,oG 18 (.bin .gtr false (.t 17) (.c (.int .i64 5))) 16 false,oS 19 (.pick (.t 16) (.c (.bool true)) (.t 18))]) (.cond (.t 19) (.seq (.reg [oS 20 (.build [(.sl true [])] []),oV 1 2 20,oZ 3 false]) .ret) .skip)) (.seq (.reg [oS 5 (.alloc [(.sl true [])])]) (.seq (oR [oJ 6 0] (.block 0 (.loop q8W))) (oR [oA 170 1 5,oV 1 2 170,oZ 3 true] .ret)))))),[(.cell 2 true 1),(.tmp 3)],1,[5000000,337,334,1000000 + 92]⟩
theorem ok_ref07_Of:FnOk Tryz.prog 34 q2Y:=⟨fun xs w=>by kernel_rfl,_,Tryz.func34,by kernel_rfl⟩
def q4i:C:=.seq (oR [oM 6 5,oM 7 0,oH 8 7,oB 9 .lss 6 8] (.cond (.t 9) .skip (.exit 0))) (.seq (.block 1 (.seq (.reg [oM 12 0,oM 13 5,oI 14 2 12 13,oA 15 2 14,oA 16 2 3,oS 17 (.eqa false [0,0] (.t 15) (.t 16))]) (.cond (.t 17) (oR [oZ 4 true] .ret) .skip))) (.reg [oM 10 5,oC 11 .add 10 1,oM 5 11]))
def q81:FnC:=⟨(oR [oQ 3 2 1,oZ 4 false] (.seq (oR [oJ 5 0] (.block 0 (.loop q4i))) (oR [oZ 4 false] .ret))),[(.tmp 4)],2,[]⟩
theorem ok_ref20_In:FnOk Tryz.prog 35 q81:=⟨fun xs w=>by kernel_rfl,_,Tryz.func35,by kernel_rfl⟩
def q2A:C:=.seq (oR [oM 109 16,oM 110 11,oH 111 110,oB 112 .lss 109 111] (.cond (.t 112) .skip (.exit 2))) (.seq (.block 3 (.seq (.reg [oM 115 15,oM 116 11,oM 117 16,oI 118 2 116 117,oA 119 2 118,oS 120 (.call .any 35 [(.t 115),(.t 119)]),oU 121 120]) (.cond (.t 121) (.reg [oM 122 15,oM 123 11,oM 124 16,oI 125 2 123 124,oA 126 2 125,oS 127 (.bsl [(.int .i64 0),(.int .i64 0)] 1 [(0,(.t 126))]),oS 128 (.app .any 63 2 16 (.t 122) (.t 127)),oM 15 128]) .skip))) (.reg [oM 113 16,oC 114 .add 113 1,oM 16 114]))
def q3e:C:=.seq (oR [oM 32 12,oF 33 6 9,oL 34 33,oH 35 34,oB 36 .lss 32 35] (.cond (.t 36) .skip (.exit 0))) (.seq (.block 1 (.seq (.reg [oA 40 10 10,oF 41 6 9,oL 42 41,oM 43 12,oI 44 13 42 43,oF 45 0 44,oL 46 45,oS 47 (.call .any 99 [(.t 40),(.t 46)]),oM 39 47,oX 48 39 0,oX 49 39 1,oM 13 48,oM 14 49]) (oR [oM 50 14] (.cond (.t 50) (.reg [oM 51 11,oF 52 6 9,oL 53 52,oM 54 12,oI 55 13 53 54,oF 56 2 55,oL 57 56,oF 58 6 10,oL 59 58,oM 60 13,oI 61 13 59 60,oF 62 2 61,oL 63 62,oS 64 (.build [(.int .i64 0),(.int .i64 0)] [(0,(1,(.t 57))),(1,(1,(.t 63)))]),oS 65 (.bsl [(.int .i64 0),(.int .i64 0)] 1 [(0,(.t 64))]),oS 66 (.app .any 63 2 16 (.t 51) (.t 65)),oM 11 66]) .skip)))) (.reg [oM 37 12,oC 38 .add 37 1,oM 12 38]))
def q4S:FnC:=⟨(.seq (.reg [oQ 4 1 0,oQ 6 1 2,oS 8 (.mv (.c (.sl true [])))]) (.seq (.reg [oF 17 0 4,oS 18 (.load (.root 4) false 1 (.t 17)),oM 19 1,oI 20 10 18 19,oS 21 (.load .imm true 10 (.t 20)),oF 22 0 6,oS 23 (.load (.root 6) false 1 (.t 22)),oM 24 3,oI 25 10 23 24,oS 26 (.load .imm true 10 (.t 25)),oY 9 zze,oY 10 zze,oN (.store (.root 9) true 10 (.t 9) (.t 21)),oN (.store (.root 10) true 10 (.t 10) (.t 26))]) (.seq (oR [oF 27 0 9,oL 28 27,oF 29 0 10,oL 30 29,oB 31 .neq 28 30] (.cond (.t 31) (.seq (.reg [oS 8 (.mv (.c (.sl true [])))]) .ret) .skip)) (.seq (.reg [oS 11 (.mv (.c (.sl true [])))]) (.seq (oR [oJ 12 0] (.block 0 (.loop q3e))) (.seq (.seq (.reg [oF 67 0 9,oL 68 67,oC 69 .eql 68 8,oM 70 69,oG 71 (.faddr 4 (.t 9)) 70 true,oP 72 71 70 true,oG 73 (.bin .gtr false (.t 72) (.c (.int .i64 0))) 70 true,oS 74 (.pick (.t 70) (.t 73) (.c (.bool false)))]) (.cond (.t 74) (.reg [oM 75 11,oF 76 7 9,oL 77 76,oF 78 7 10,oL 79 78,oS 80 (.build [(.int .i64 0),(.int .i64 0)] [(0,(1,(.t 77))),(1,(1,(.t 79)))]),oS 81 (.bsl [(.int .i64 0),(.int .i64 0)] 1 [(0,(.t 80))]),oS 82 (.app .any 63 2 16 (.t 75) (.t 81)),oM 11 82]) .skip)) (.seq (.seq (.reg [oF 83 0 9,oL 84 83,oC 85 .eql 84 9,oM 86 85,oG 87 (.faddr 0 (.t 9)) 86 false,oP 88 87 86 false,oG 89 (.bin .eql false (.t 88) (.c (.int .i64 7))) 86 false,oG 90 (.mv (.t 89)) 86 false,oG 91 (.faddr 0 (.t 9)) 90 false,oP 92 91 90 false,oG 93 (.bin .eql false (.t 92) (.c (.int .i64 8))) 90 false,oG 94 (.pick (.t 90) (.c (.bool true)) (.t 93)) 86 false,oG 95 (.mv (.t 94)) 86 false,oG 96 (.faddr 4 (.t 9)) 95 true,oP 97 96 95 true,oG 98 (.bin .gtr false (.t 97) (.c (.int .i64 0))) 95 true,oG 99 (.pick (.t 95) (.t 98) (.c (.bool false))) 86 false,oS 100 (.pick (.t 86) (.c (.bool true)) (.t 99))]) (.cond (.t 100) (.reg [oM 101 11,oF 102 8 9,oL 103 102,oF 104 8 10,oL 105 104,oS 106 (.build [(.int .i64 0),(.int .i64 0)] [(0,(1,(.t 103))),(1,(1,(.t 105)))]),oS 107 (.bsl [(.int .i64 0),(.int .i64 0)] 1 [(0,(.t 106))]),oS 108 (.app .any 63 2 16 (.t 101) (.t 107)),oM 11 108]) .skip)) (.seq (.reg [oS 15 (.mv (.c (.sl true [])))]) (.seq (oR [oJ 16 0] (.block 2 (.loop q2A))) (oR [oM 129 15,oM 8 129] .ret)))))))))),[(.tmp 8)],4,[]⟩
theorem ok_ref20_Next:FnOk Tryz.prog 41 q4S:=⟨fun xs w=>by kernel_rfl,_,Tryz.func41,by kernel_rfl⟩
def q4h:FnC:=⟨(oR [oQ 2 2 0,oQ 3 2 1,oJ 4 0] (.seq (.seq (.reg [oF 6 0 2,oA 7 1 6,oF 8 1 2,oL 9 8,oS 10 (.call .any 101 [(.t 7),(.t 9)]),oM 5 10]) (oR [oM 11 5,oC 12 .neq 11 0] (.cond (.t 12) (oR [oM 13 5,oM 4 13] .ret) .skip))) (.seq (.reg [oF 14 0 3,oA 15 1 14,oF 16 1 3,oL 17 16,oS 18 (.call .any 101 [(.t 15),(.t 17)]),oM 4 18]) .ret))),[(.tmp 4)],2,[]⟩
theorem ok_ref20_Error:FnOk Tryz.prog 43 q4h:=⟨fun xs w=>by kernel_rfl,_,Tryz.func43,by kernel_rfl⟩
def q19:C:=.seq (.seq (.reg [oM 15 6,oM 16 1,oH 17 16,oB 18 .lss 15 17,oM 19 18,oG 20 (.faddr 0 (.t 5)) 19 true,oP 21 20 19 true,oG 22 (.len false (.t 21)) 19 true,oG 23 (.bin .gtr false (.t 22) (.c (.int .i64 0))) 19 true,oS 24 (.pick (.t 19) (.t 23) (.c (.bool false)))]) (.cond (.t 24) .skip (.exit 0))) (.seq (.block 1 (oR [oM 27 1,oM 28 6,oI 29 4 27 28,oA 30 4 29,oY 7 zzf,oV 4 7 30] (.seq (.reg [oF 31 0 5,oS 32 (.load (.root 5) false 1 (.t 31)),oF 33 1 7,oS 34 (.load (.root 7) false 1 (.t 33)),oS 35 (.conv (.some .i64) (.t 34)),oF 36 0 5,oS 37 (.load (.root 5) false 1 (.t 36)),oH 38 37,oB 39 .rem 35 38,oI 40 5 32 39,oM 8 40]) (.seq (.reg [oM 41 8,oS 42 (.bsl zzg 0 []),oM 43 8,oK 44 43,oF 45 4 44,oL 46 45,oS 47 (.appf .any 165 3 3 (.t 42) (.t 46)),oK 48 41,oF 49 4 48,oW 49 47]) (oR [oJ 9 0] (.seq (oR [oM 50 8,oK 51 50,oF 52 4 51,oL 53 52,oH 54 53,oC 55 .gtr 54 0] (.cond (.t 55) (.reg [oF 56 2 7,oS 57 (.load (.root 7) false 1 (.t 56)),oS 58 (.conv (.some .i64) (.t 57)),oM 59 8,oK 60 59,oF 61 4 60,oL 62 61,oH 63 62,oB 64 .rem 58 63,oM 9 64]) .skip)) (.seq (.reg [oF 65 0 7,oL 66 65,oS 67 (.bin .rem false (.t 66) (.c (.int .u8 8)))]) (.block 2 (.seq (.reg [oS 93 (.bin .eql false (.t 67) (.c (.int .u8 0))),oM 92 93]) (.cond (.t 92) (.reg [oM 94 8,oM 95 8,oK 96 95,oF 97 1 96,oL 98 97,oF 99 2 7,oS 100 (.load (.root 7) false 1 (.t 99)),oS 101 (.bin .rem false (.t 100) (.c (.int .u8 5))),oB 102 .add 98 101,oS 103 (.bin .sub false (.t 102) (.c (.int .u8 2))),oK 104 94,oF 105 1 104,oW 105 103]) (.seq (.reg [oS 107 (.bin .eql false (.t 67) (.c (.int .u8 1))),oM 106 107]) (.cond (.t 106) (.reg [oM 108 8,oM 109 8,oK 110 109,oF 111 2 110,oL 112 111,oF 113 3 7,oS 114 (.load (.root 7) false 1 (.t 113)),oS 115 (.bin .rem false (.t 114) (.c (.int .u8 5))),oB 116 .add 112 115,oS 117 (.bin .sub false (.t 116) (.c (.int .u8 2))),oK 118 108,oF 119 2 118,oW 119 117]) (.seq (.reg [oS 121 (.bin .eql false (.t 67) (.c (.int .u8 2))),oM 120 121]) (.cond (.t 120) (.reg [oM 122 8,oM 123 8,oK 124 123,oF 125 1 124,oL 126 125,oF 127 2 7,oS 128 (.load (.root 7) false 1 (.t 127)),oS 129 (.bin .rem false (.t 128) (.c (.int .u8 6))),oS 130 (.bin .shl false (.c (.int .u8 1)) (.t 129)),oB 131 .xor 126 130,oK 132 122,oF 133 1 132,oW 133 131]) (.seq (.reg [oS 135 (.bin .eql false (.t 67) (.c (.int .u8 3))),oM 134 135]) (.cond (.t 134) (.reg [oM 136 8,oM 137 8,oK 138 137,oF 139 3 138,oL 140 139,oF 141 2 7,oS 142 (.load (.root 7) false 1 (.t 141)),oB 143 .add 140 142,oK 144 136,oF 145 3 144,oW 145 143]) (.seq (.reg [oS 147 (.bin .eql false (.t 67) (.c (.int .u8 4))),oM 146 147]) (.cond (.t 146) (oR [oM 148 8,oK 149 148,oF 150 4 149,oL 151 150,oH 152 151,oC 153 .lss 152 8] (.cond (.t 153) (.reg [oM 154 8,oM 155 8,oK 156 155,oF 157 4 156,oL 158 157,oF 159 2 7,oS 160 (.load (.root 7) false 1 (.t 159)),oF 161 3 7,oS 162 (.load (.root 7) false 1 (.t 161)),oF 163 2 7,oS 164 (.load (.root 7) false 1 (.t 163)),oS 165 (.bin .quo false (.t 164) (.c (.int .u8 12))),oS 166 (.build zzg [(0,(1,(.t 160))),(1,(1,(.t 162))),(2,(1,(.t 165)))]),oS 167 (.bsl zzg 1 [(0,(.t 166))]),oS 168 (.appm .any 165 3 3 (.t 158) (.t 167)),oK 169 154,oF 170 4 169,oW 170 168]) .skip)) (.seq (.reg [oS 172 (.bin .eql false (.t 67) (.c (.int .u8 5))),oM 171 172]) (.cond (.t 171) (oR [oM 173 8,oK 174 173,oF 175 4 174,oL 176 175,oH 177 176,oC 178 .gtr 177 0] (.cond (.t 178) (.reg [oM 179 8,oM 180 8,oK 181 180,oF 182 4 181,oL 183 182,oM 184 9,oS 185 (.slc false 3 (.t 183) .none (.some (.t 184)) .none),oM 186 8,oK 187 186,oF 188 4 187,oL 189 188,oM 190 9,oC 191 .add 190 1,oS 192 (.slc false 3 (.t 189) (.some (.t 191)) .none .none),oS 193 (.appm .any 165 3 3 (.t 185) (.t 192)),oK 194 179,oF 195 4 194,oW 195 193]) .skip)) (.seq (.reg [oS 197 (.bin .eql false (.t 67) (.c (.int .u8 6))),oM 196 197]) (.cond (.t 196) (oR [oM 198 8,oK 199 198,oF 200 4 199,oL 201 200,oH 202 201,oC 203 .gtr 202 0] (.cond (.t 203) (.reg [oM 204 8,oK 205 204,oF 206 4 205,oL 207 206,oM 208 9,oF 209 3 7,oS 210 (.load (.root 7) false 1 (.t 209)),oI 211 3 207 208,oF 212 2 211,oW 212 210]) .skip)) (oR [oM 68 8,oK 69 68,oF 70 4 69,oL 71 70,oH 72 71,oC 73 .gtr 72 0] (.cond (.t 73) (.reg [oM 74 8,oK 75 74,oF 76 4 75,oL 77 76,oM 78 9,oM 79 8,oK 80 79,oF 81 4 80,oL 82 81,oM 83 9,oI 84 3 82 83,oF 85 1 84,oL 86 85,oF 87 3 7,oS 88 (.load (.root 7) false 1 (.t 87)),oB 89 .add 86 88,oI 90 3 77 78,oF 91 1 90,oW 91 89]) .skip)))))))))))))))))))))))) (.reg [oM 25 6,oC 26 .add 25 1,oM 6 26]))
def q27:FnC:=⟨(.seq (.reg [oQ 2 1 0,oS 4 (.alloc [(.sl true [])])]) (.seq (.reg [oS 10 (.bsl zzd 0 []),oF 11 0 2,oL 12 11,oS 13 (.appf .any 127 5 32 (.t 10) (.t 12)),oS 14 (.build [(.sl true [])] [(0,(1,(.t 13)))]),oS 5 (.alloc [(.sl true [])]),oV 1 5 14]) (.seq (oR [oJ 6 0] (.block 0 (.loop q19))) (oR [oA 213 1 5,oV 1 4 213] .ret)))),[(.cell 4 true 1)],2,[26,94,337,387]⟩
theorem qaI:FnOk Tryz.prog 69 q27:=⟨fun xs w=>by kernel_rfl,_,Tryz.func69,by kernel_rfl⟩
noncomputable def c_law20_rec:FnC:=cF [22] Tryz.f70
theorem ok_law20_rec:FnOk Tryz.prog 70 c_law20_rec:=⟨fun xs w=>by kernel_rfl,_,Tryz.func70,by kernel_rfl⟩
noncomputable def qa9:FnC:=cF [] Tryz.f71
theorem ok_law20_list:FnOk Tryz.prog 71 qa9:=⟨fun xs w=>by kernel_rfl,_,Tryz.func71,by kernel_rfl⟩
def q5q:FnC:=⟨(oR [oQ 5 1 0,oQ 7 8 2,oQ 8 1 3,oJ 10 0] (.seq (.seq (.reg [oA 13 1 5,oM 14 1,oS 15 (.call .any 120 [(.t 13),(.t 14)]),oM 11 15]) (oR [oM 16 11,oC 17 .neq 16 0] (.cond (.t 17) (oR [oM 18 11,oM 10 18] .ret) .skip))) (.seq (.seq (.reg [oA 19 1 8,oM 20 4,oS 21 (.call .any 120 [(.t 19),(.t 20)]),oM 12 21]) (oR [oM 22 12,oC 23 .neq 22 0] (.cond (.t 23) (oR [oM 24 12,oM 10 24] .ret) .skip))) (.seq (.seq (.reg [oA 25 1 5,oM 26 1,oA 27 8 7,oS 28 (.call .any 121 [(.t 25),(.t 26),(.t 27)]),oU 29 28]) (.cond (.t 29) (oR [oJ 10 1] .ret) .skip)) (oR [oJ 10 0] .ret))))),[(.tmp 10)],5,[]⟩
theorem ok_ref14_Error:FnOk Tryz.prog 74 q5q:=⟨fun xs w=>by kernel_rfl,_,Tryz.func74,by kernel_rfl⟩
def q5J:C:=.seq (oR [oM 164 20,oF 165 6 8,oL 166 165,oH 167 166,oB 168 .lss 164 167] (.cond (.t 168) .skip (.exit 2))) (.seq (.block 3 (.seq (.reg [oS 171 (.load (.root 6) true 1 (.t 6)),oF 172 8 13,oS 173 (.load (.root 13) false 1 (.t 172)),oF 174 6 8,oS 175 (.load (.root 8) false 1 (.t 174)),oM 176 20,oI 177 8 175 176,oS 178 (.load .imm true 8 (.t 177)),oS 179 (.load (.root 9) true 1 (.t 9)),oF 180 8 14,oS 181 (.load (.root 14) false 1 (.t 180)),oM 182 5,oM 183 20,oS 184 (.call .imm 126 [(.t 182),(.t 183)]),oS 185 (.call .imm 75 [(.t 171),(.t 173),(.t 178),(.t 179),(.t 181),(.t 184)]),oY 21 zzb,oN (.store (.root 21) true 10 (.t 21) (.t 185))]) (.seq (oR [oF 186 9 21,oL 187 186,oU 188 187] (.cond (.t 188) (oR [oA 189 10 21,oV 10 12 189] .ret) .skip)) (.reg [oF 190 6 17,oL 191 190,oF 192 0 21,oA 193 8 192,oS 194 (.bsl zza 1 [(0,(.t 193))]),oS 195 (.app .any 40 8 120 (.t 191) (.t 194)),oF 196 6 17,oW 196 195])))) (.reg [oM 169 20,oC 170 .add 169 1,oM 20 170]))
def q5K:C:=.seq (oR [oM 131 18,oF 132 5 8,oL 133 132,oH 134 133,oB 135 .lss 131 134] (.cond (.t 135) .skip (.exit 0))) (.seq (.block 1 (.seq (.reg [oS 138 (.load (.root 6) true 1 (.t 6)),oF 139 7 13,oS 140 (.load (.root 13) false 1 (.t 139)),oF 141 5 8,oS 142 (.load (.root 8) false 1 (.t 141)),oM 143 18,oI 144 8 142 143,oS 145 (.load .imm true 8 (.t 144)),oS 146 (.load (.root 9) true 1 (.t 9)),oF 147 7 14,oS 148 (.load (.root 14) false 1 (.t 147)),oM 149 5,oM 150 18,oS 151 (.call .imm 126 [(.t 149),(.t 150)]),oS 152 (.call .imm 75 [(.t 138),(.t 140),(.t 145),(.t 146),(.t 148),(.t 151)]),oY 19 zzb,oN (.store (.root 19) true 10 (.t 19) (.t 152))]) (.seq (oR [oF 153 9 19,oL 154 153,oU 155 154] (.cond (.t 155) (oR [oA 156 10 19,oV 10 12 156] .ret) .skip)) (.reg [oF 157 5 17,oL 158 157,oF 159 0 19,oA 160 8 159,oS 161 (.bsl zza 1 [(0,(.t 160))]),oS 162 (.app .any 40 8 120 (.t 158) (.t 161)),oF 163 5 17,oW 163 162])))) (.reg [oM 136 18,oC 137 .add 136 1,oM 18 137]))
def q0Z:FnC:=⟨(oR [oQ 6 1 0,oQ 8 8 2,oQ 9 1 3,oY 12 zzb] (.seq (.reg [oF 22 0 6,oS 23 (.load (.root 6) false 1 (.t 22)),oM 24 1,oI 25 10 23 24,oS 26 (.load .imm true 10 (.t 25)),oF 27 0 9,oS 28 (.load (.root 9) false 1 (.t 27)),oM 29 4,oI 30 10 28 29,oS 31 (.load .imm true 10 (.t 30)),oY 13 zze,oY 14 zze,oN (.store (.root 13) true 10 (.t 13) (.t 26)),oN (.store (.root 14) true 10 (.t 14) (.t 31))]) (.seq (oR [oF 32 0 13,oL 33 32,oF 34 0 14,oL 35 34,oB 36 .neq 33 35] (.cond (.t 36) (.seq (.reg [oM 37 5,oS 38 (.call .any 122 [(.t 37)]),oV 10 12 38]) .ret) .skip)) (.seq (.seq (.reg [oF 39 0 13,oL 40 39,oC 41 .eql 40 2,oM 42 41,oG 43 (.faddr 2 (.t 8)) 42 true,oP 44 43 42 true,oG 45 (.faddr 2 (.t 14)) 42 true,oP 46 45 42 true,oG 47 (.bin .lss false (.t 44) (.t 46)) 42 true,oG 48 (.mv (.t 47)) 42 true,oG 49 (.faddr 2 (.t 8)) 48 false,oP 50 49 48 false,oG 51 (.faddr 3 (.t 14)) 48 false,oP 52 51 48 false,oG 53 (.bin .gtr false (.t 50) (.t 52)) 48 false,oG 54 (.pick (.t 48) (.c (.bool true)) (.t 53)) 42 true,oS 55 (.pick (.t 42) (.t 54) (.c (.bool false)))]) (.cond (.t 55) (.seq (.reg [oM 56 5,oS 57 (.call .any 122 [(.t 56)]),oV 10 12 57]) .ret) .skip)) (.seq (.seq (.reg [oF 58 0 13,oL 59 58,oC 60 .eql 59 3,oM 61 60,oG 62 (.faddr 3 (.t 8)) 61 true,oP 63 62 61 true,oG 64 (.len true (.t 63)) 61 true,oG 65 (.faddr 4 (.t 14)) 61 true,oP 66 65 61 true,oG 67 (.bin .gtr false (.t 64) (.t 66)) 61 true,oS 68 (.pick (.t 61) (.t 67) (.c (.bool false)))]) (.cond (.t 68) (.seq (.reg [oM 69 5,oS 70 (.call .any 122 [(.t 69)]),oV 10 12 70]) .ret) .skip)) (.seq (oR [oF 71 0 13,oL 72 71,oC 73 .eql 72 4] (.cond (.t 73) (.seq (.reg [oA 75 10 14,oF 76 4 8,oL 77 76,oS 78 (.call .any 123 [(.t 75),(.t 77)]),oM 74 78,oX 79 74 0,oX 80 74 1,oM 15 79,oM 16 80]) (.seq (.reg [oM 81 16,oU 82 81,oM 83 82,oG 84 (.faddr 9 (.t 14)) 83 true,oP 85 84 83 true,oG 86 (.un .not (.t 85)) 83 true,oS 87 (.pick (.t 83) (.t 86) (.c (.bool false)))]) (.cond (.t 87) (.seq (.reg [oM 88 5,oS 89 (.call .any 122 [(.t 88)]),oV 10 12 89]) .ret) .skip))) .skip)) (.seq (.seq (.reg [oF 90 0 13,oL 91 90,oC 92 .eql 91 7,oM 93 92,oG 94 (.faddr 0 (.t 13)) 93 false,oP 95 94 93 false,oG 96 (.bin .eql false (.t 95) (.c (.int .i64 8))) 93 false,oS 97 (.pick (.t 93) (.c (.bool true)) (.t 96)),oM 98 97,oG 99 (.faddr 6 (.t 8)) 98 true,oP 100 99 98 true,oG 101 (.len false (.t 100)) 98 true,oG 102 (.faddr 4 (.t 14)) 98 true,oP 103 102 98 true,oG 104 (.bin .gtr false (.t 101) (.t 103)) 98 true,oS 105 (.pick (.t 98) (.t 104) (.c (.bool false)))]) (.cond (.t 105) (.seq (.reg [oM 106 5,oS 107 (.call .any 122 [(.t 106)]),oV 10 12 107]) .ret) .skip)) (.seq (oR [oF 108 0 13,oL 109 108,oC 110 .eql 109 6] (.cond (.t 110) (.seq (.reg [oA 111 1 6,oA 112 10 13,oA 113 8 8,oA 114 1 9,oA 115 10 14,oM 116 5,oS 117 (.call .any 124 [(.t 111),(.t 112),(.t 113),(.t 114),(.t 115),(.t 116)]),oV 10 12 117]) .ret) .skip)) (.seq (oR [oF 118 0 13,oL 119 118,oC 120 .eql 119 5] (.cond (.t 120) (.seq (.reg [oA 121 1 6,oA 122 10 13,oA 123 8 8,oA 124 1 9,oA 125 10 14,oM 126 5,oS 127 (.call .any 125 [(.t 121),(.t 122),(.t 123),(.t 124),(.t 125),(.t 126)]),oV 10 12 127]) .ret) .skip)) (oR [oA 128 8 8,oY 17 zza,oV 8 17 128] (.seq (.reg [oF 129 5 17,oN (.store .any false 1 (.t 129) (.c (.sl true []))),oF 130 6 17,oN (.store .any false 1 (.t 130) (.c (.sl true [])))]) (.seq (oR [oJ 18 0] (.block 0 (.loop q5K))) (.seq (oR [oJ 20 0] (.block 2 (.loop q5J))) (.seq (.reg [oA 197 8 17,oS 198 (.call .any 127 [(.t 197)]),oV 10 12 198]) .ret)))))))))))))),[(.cell 12 true 10)],6,[]⟩
theorem ok_ref14_Read:FnOk Tryz.prog 75 q0Z:=⟨fun xs w=>by kernel_rfl,_,Tryz.func75,by kernel_rfl⟩
def q3f:FnC:=⟨(oR [oQ 2 2 0,oQ 3 2 1,oJ 4 0] (.seq (.seq (.reg [oF 6 0 2,oA 7 1 6,oF 8 1 2,oL 9 8,oS 10 (.call .any 128 [(.t 7),(.t 9)]),oM 5 10]) (oR [oM 11 5,oC 12 .neq 11 0] (.cond (.t 12) (oR [oM 13 5,oM 4 13] .ret) .skip))) (.seq (.reg [oF 14 0 3,oA 15 1 14,oF 16 1 3,oL 17 16,oS 18 (.call .any 128 [(.t 15),(.t 17)]),oM 4 18]) .ret))),[(.tmp 4)],2,[]⟩
theorem qaU:FnOk Tryz.prog 76 q3f:=⟨fun xs w=>by kernel_rfl,_,Tryz.func76,by kernel_rfl⟩
def q0e:FnC:=⟨(oR [oQ 4 1 0,oQ 6 1 2,oJ 8 0] (.seq (.reg [oF 11 0 4,oS 12 (.load (.root 4) false 1 (.t 11)),oM 13 1,oI 14 10 12 13,oS 15 (.load .imm true 10 (.t 14)),oF 16 0 6,oS 17 (.load (.root 6) false 1 (.t 16)),oM 18 3,oI 19 10 17 18,oS 20 (.load .imm true 10 (.t 19)),oY 9 zze,oY 10 zze,oN (.store (.root 9) true 10 (.t 9) (.t 15)),oN (.store (.root 10) true 10 (.t 10) (.t 20))]) (.seq (oR [oF 21 0 9,oL 22 21,oF 23 0 10,oL 24 23,oB 25 .neq 22 24] (.cond (.t 25) (oR [oJ 8 9] .ret) .skip)) (.seq (.block 0 (.seq (.reg [oF 27 0 9,oL 28 27,oC 29 .eql 28 2,oM 30 29,oG 31 (.faddr 2 (.t 9)) 30 true,oP 32 31 30 true,oG 33 (.faddr 2 (.t 10)) 30 true,oP 34 33 30 true,oG 35 (.bin .lss false (.t 32) (.t 34)) 30 true,oG 36 (.mv (.t 35)) 30 true,oG 37 (.faddr 3 (.t 9)) 36 false,oP 38 37 36 false,oG 39 (.faddr 3 (.t 10)) 36 false,oP 40 39 36 false,oG 41 (.bin .gtr false (.t 38) (.t 40)) 36 false,oG 42 (.pick (.t 36) (.c (.bool true)) (.t 41)) 30 true,oS 43 (.pick (.t 30) (.t 42) (.c (.bool false))),oM 26 43]) (.cond (.t 26) (oR [oJ 8 2] .ret) (.seq (.reg [oF 45 0 9,oL 46 45,oC 47 .eql 46 3,oM 48 47,oG 49 (.faddr 0 (.t 9)) 48 false,oP 50 49 48 false,oG 51 (.bin .eql false (.t 50) (.c (.int .i64 7))) 48 false,oS 52 (.pick (.t 48) (.c (.bool true)) (.t 51)),oM 53 52,oG 54 (.faddr 4 (.t 9)) 53 true,oP 55 54 53 true,oG 56 (.faddr 4 (.t 10)) 53 true,oP 57 56 53 true,oG 58 (.bin .gtr false (.t 55) (.t 57)) 53 true,oS 59 (.pick (.t 53) (.t 58) (.c (.bool false))),oM 44 59]) (.cond (.t 44) (oR [oJ 8 3] .ret) (.seq (.reg [oF 61 0 9,oL 62 61,oC 63 .eql 62 8,oM 64 63,oG 65 (.faddr 4 (.t 9)) 64 true,oP 66 65 64 true,oG 67 (.faddr 0 (.t 4)) 64 true,oP 68 67 64 true,oG 69 (.faddr 7 (.t 9)) 64 true,oP 70 69 64 true,oG 71 (.iaddr 10 (.t 68) (.t 70)) 64 true,oG 72 (.load .any true 10 (.t 71)) 64 true,oG 73 (.call .any 129 [(.t 72)]) 64 true,oG 74 (.mm false (.t 66) (.t 73)) 64 true,oG 75 (.faddr 4 (.t 10)) 64 true,oP 76 75 64 true,oG 77 (.bin .gtr false (.t 74) (.t 76)) 64 true,oS 78 (.pick (.t 64) (.t 77) (.c (.bool false))),oM 60 78]) (.cond (.t 60) (oR [oJ 8 3] .ret) (.seq (.reg [oF 80 0 9,oL 81 80,oC 82 .eql 81 4,oM 83 82,oG 84 (.load .any true 10 (.t 9)) 83 true,oG 85 (.load .any true 10 (.t 10)) 83 true,oG 86 (.call .any 130 [(.t 84),(.t 85)]) 83 true,oG 87 (.un .not (.t 86)) 83 true,oS 88 (.pick (.t 83) (.t 87) (.c (.bool false))),oM 79 88]) (.cond (.t 79) (oR [oJ 8 4] .ret) (.seq (.reg [oF 90 0 9,oL 91 90,oC 92 .eql 91 6,oM 93 92,oG 94 (.load .any true 10 (.t 9)) 93 true,oG 95 (.load .any true 10 (.t 10)) 93 true,oG 96 (.call .any 130 [(.t 94),(.t 95)]) 93 true,oG 97 (.un .not (.t 96)) 93 true,oS 98 (.pick (.t 93) (.t 97) (.c (.bool false))),oM 89 98]) (.cond (.t 89) (oR [oJ 8 5] .ret) (oR [oF 100 0 9,oL 101 100,oC 102 .eql 101 5,oM 99 102] (.cond (.t 99) (.seq (.reg [oA 103 1 4,oA 104 10 9,oA 105 1 6,oA 106 10 10,oS 107 (.call .any 131 [(.t 103),(.t 104),(.t 105),(.t 106)]),oM 8 107]) .ret) .skip))))))))))))) (oR [oJ 8 0] .ret))))),[(.tmp 8)],4,[]⟩
theorem q9k:FnOk Tryz.prog 77 q0e:=⟨fun xs w=>by kernel_rfl,_,Tryz.func77,by kernel_rfl⟩
def q0s:FnC:=⟨(oR [oQ 4 1 0,oQ 6 1 2,oJ 8 0] (.seq (.reg [oF 11 0 4,oS 12 (.load (.root 4) false 1 (.t 11)),oM 13 1,oI 14 10 12 13,oS 15 (.load .imm true 10 (.t 14)),oF 16 0 6,oS 17 (.load (.root 6) false 1 (.t 16)),oM 18 3,oI 19 10 17 18,oS 20 (.load .imm true 10 (.t 19)),oY 9 zze,oY 10 zze,oN (.store (.root 9) true 10 (.t 9) (.t 15)),oN (.store (.root 10) true 10 (.t 10) (.t 20))]) (.seq (oR [oF 21 0 9,oL 22 21,oF 23 0 10,oL 24 23,oB 25 .neq 22 24] (.cond (.t 25) (oR [oJ 8 9] .ret) .skip)) (.seq (oR [oF 26 0 9,oL 27 26] (.block 0 (oR [oC 29 .eql 27 2,oM 28 29] (.cond (.t 28) (.seq (.reg [oF 30 2 9,oL 31 30,oF 32 2 10,oL 33 32,oB 34 .lss 31 33,oM 35 34,oG 36 (.faddr 3 (.t 9)) 35 false,oP 37 36 35 false,oG 38 (.faddr 3 (.t 10)) 35 false,oP 39 38 35 false,oG 40 (.bin .gtr false (.t 37) (.t 39)) 35 false,oS 41 (.pick (.t 35) (.c (.bool true)) (.t 40))]) (.cond (.t 41) (oR [oJ 8 2] .ret) .skip)) (.seq (oR [oC 43 .eql 27 3,oM 42 43] (.cond (.t 42) .skip (.reg [oC 44 .eql 27 7,oM 42 44]))) (.cond (.t 42) (oR [oF 45 4 9,oL 46 45,oF 47 4 10,oL 48 47,oB 49 .gtr 46 48] (.cond (.t 49) (oR [oJ 8 3] .ret) .skip)) (oR [oC 51 .eql 27 8,oM 50 51] (.cond (.t 50) (.seq (.reg [oF 52 4 9,oL 53 52,oF 54 0 4,oL 55 54,oF 56 7 9,oL 57 56,oI 58 10 55 57,oA 59 10 58,oS 60 (.call .any 132 [(.t 59)]),oS 61 (.mm false (.t 53) (.t 60)),oF 62 4 10,oL 63 62,oB 64 .gtr 61 63]) (.cond (.t 64) (oR [oJ 8 3] .ret) .skip)) (oR [oC 66 .eql 27 4,oM 65 66] (.cond (.t 65) (.seq (.reg [oF 67 9 10,oL 68 67,oU 69 68,oM 70 69,oG 71 (.load .any true 10 (.t 9)) 70 true,oG 72 (.load .any true 10 (.t 10)) 70 true,oG 73 (.call .any 133 [(.t 71),(.t 72)]) 70 true,oG 74 (.un .not (.t 73)) 70 true,oS 75 (.pick (.t 70) (.t 74) (.c (.bool false)))]) (.cond (.t 75) (oR [oJ 8 4] .ret) .skip)) (oR [oC 77 .eql 27 6,oM 76 77] (.cond (.t 76) (.seq (.reg [oF 78 9 10,oL 79 78,oU 80 79,oM 81 80,oG 82 (.load .any true 10 (.t 9)) 81 true,oG 83 (.load .any true 10 (.t 10)) 81 true,oG 84 (.call .any 133 [(.t 82),(.t 83)]) 81 true,oG 85 (.un .not (.t 84)) 81 true,oS 86 (.pick (.t 81) (.t 85) (.c (.bool false)))]) (.cond (.t 86) (oR [oJ 8 5] .ret) .skip)) (oR [oC 88 .eql 27 5,oM 87 88] (.cond (.t 87) (.seq (.reg [oA 89 1 4,oA 90 10 9,oA 91 1 6,oA 92 10 10,oS 93 (.call .any 134 [(.t 89),(.t 90),(.t 91),(.t 92)]),oM 8 93]) .ret) .skip)))))))))))))) (oR [oJ 8 0] .ret))))),[(.tmp 8)],4,[]⟩
theorem ok_ref20_Reason:FnOk Tryz.prog 78 q0s:=⟨fun xs w=>by kernel_rfl,_,Tryz.func78,by kernel_rfl⟩
def q1O:C:=oR [oB 38 .lss 37 36] (.seq (.cond (.t 38) .skip (.exit 0)) (.seq (.block 1 (oR [oI 39 13 35 37,oA 40 13 39,oY 14 zzh,oV 13 14 40] (.seq (.reg [oA 42 10 10,oF 43 0 14,oL 44 43,oS 45 (.call .any 137 [(.t 42),(.t 44)]),oM 41 45,oX 46 41 0,oX 47 41 1,oM 15 46,oM 16 47]) (oR [oM 48 16] (.cond (.t 48) (.reg [oM 49 12,oF 50 2 14,oS 51 (.load (.root 14) false 1 (.t 50)),oF 52 6 10,oS 53 (.load (.root 10) false 1 (.t 52)),oM 54 15,oI 55 13 53 54,oF 56 2 55,oL 57 56,oS 58 (.callh 99 (.t 49) [(.t 51),(.t 57)])]) .skip))))) (.reg [oC 59 .add 37 1,oM 37 59])))
def q1K:FnC:=⟨(.seq (.reg [oQ 4 1 0,oQ 6 1 2,oS 8 (.mv (.c (.sl true [])))]) (.seq (.reg [oF 17 0 4,oS 18 (.load (.root 4) false 1 (.t 17)),oM 19 1,oI 20 10 18 19,oS 21 (.load .imm true 10 (.t 20)),oF 22 0 6,oS 23 (.load (.root 6) false 1 (.t 22)),oM 24 3,oI 25 10 23 24,oS 26 (.load .imm true 10 (.t 25)),oY 9 zze,oY 10 zze,oN (.store (.root 9) true 10 (.t 9) (.t 21)),oN (.store (.root 10) true 10 (.t 10) (.t 26))]) (.seq (.reg [oS 11 (.alloc [(.sl true [])])]) (.seq (oR [oF 27 0 9,oL 28 27,oF 29 0 10,oL 30 29,oB 31 .neq 28 30] (.cond (.t 31) (oR [oL 32 11,oM 8 32] .ret) .skip)) (.seq (.reg [oS 33 (.mkf 135 [(.t 11)]),oM 12 33]) (.seq (oR [oF 34 6 9,oL 35 34,oH 36 35,oJ 37 0] (.block 0 (.loop q1O))) (.seq (.seq (.reg [oF 60 0 9,oL 61 60,oC 62 .eql 61 8,oM 63 62,oG 64 (.faddr 4 (.t 9)) 63 true,oP 65 64 63 true,oG 66 (.bin .gtr false (.t 65) (.c (.int .i64 0))) 63 true,oS 67 (.pick (.t 63) (.t 66) (.c (.bool false)))]) (.cond (.t 67) (.reg [oM 68 12,oF 69 7 9,oL 70 69,oF 71 7 10,oL 72 71,oS 73 (.callh 99 (.t 68) [(.t 70),(.t 72)])]) .skip)) (.seq (.seq (.reg [oF 74 0 9,oL 75 74,oC 76 .eql 75 9,oM 77 76,oG 78 (.faddr 0 (.t 9)) 77 false,oP 79 78 77 false,oG 80 (.bin .eql false (.t 79) (.c (.int .i64 7))) 77 false,oG 81 (.mv (.t 80)) 77 false,oG 82 (.faddr 0 (.t 9)) 81 false,oP 83 82 81 false,oG 84 (.bin .eql false (.t 83) (.c (.int .i64 8))) 81 false,oG 85 (.pick (.t 81) (.c (.bool true)) (.t 84)) 77 false,oG 86 (.mv (.t 85)) 77 false,oG 87 (.faddr 4 (.t 9)) 86 true,oP 88 87 86 true,oG 89 (.bin .gtr false (.t 88) (.c (.int .i64 0))) 86 true,oG 90 (.pick (.t 86) (.t 89) (.c (.bool false))) 77 false,oS 91 (.pick (.t 77) (.c (.bool true)) (.t 90))]) (.cond (.t 91) (.reg [oM 92 12,oF 93 8 9,oL 94 93,oF 95 8 10,oL 96 95,oS 97 (.callh 99 (.t 92) [(.t 94),(.t 96)])]) .skip)) (oR [oL 98 11,oM 8 98] .ret))))))))),[(.tmp 8)],4,[2000049,2000068,2000092]⟩
theorem q7r:FnOk Tryz.prog 79 q1K:=⟨fun xs w=>by kernel_rfl,_,Tryz.func79,by kernel_rfl⟩
def c_ref20_fine_L1:C:=.seq (oR [oM 16 10,oM 17 9,oH 18 17,oB 19 .lss 16 18] (.cond (.t 19) .skip (.exit 0))) (.seq (.block 1 (.seq (.reg [oA 22 1 4,oM 23 9,oM 24 10,oI 25 2 23 24,oS 26 (.aaddr 2 1 (.t 25) (.c (.int .i64 0))),oL 27 26,oA 28 1 6,oM 29 9,oM 30 10,oI 31 2 29 30,oS 32 (.aaddr 2 1 (.t 31) (.c (.int .i64 1))),oL 33 32,oS 34 (.call .any 78 [(.t 22),(.t 27),(.t 28),(.t 33)]),oC 35 .neq 34 0]) (.cond (.t 35) (oR [oZ 8 false] .ret) .skip))) (.reg [oM 20 10,oC 21 .add 20 1,oM 10 21]))
def qab:FnC:=⟨(oR [oQ 4 1 0,oQ 6 1 2,oZ 8 false] (.seq (.reg [oA 11 1 4,oM 12 1,oA 13 1 6,oM 14 3,oS 15 (.call .any 85 [(.t 11),(.t 12),(.t 13),(.t 14)]),oM 9 15]) (.seq (oR [oJ 10 0] (.block 0 (.loop c_ref20_fine_L1))) (oR [oZ 8 true] .ret)))),[(.tmp 8)],4,[]⟩
theorem ok_ref20_fine:FnOk Tryz.prog 80 qab:=⟨fun xs w=>by kernel_rfl,_,Tryz.func80,by kernel_rfl⟩
def q7E:C:=oR [oB 47 .lss 46 45] (.seq (.cond (.t 47) .skip (.exit 2)) (.seq (.block 3 (.seq (.reg [oI 48 2 44 46,oA 49 2 48,oY 11 [(.int .i64 0),(.int .i64 0)],oV 2 11 49]) (.seq (.reg [oM 50 8,oA 51 2 11,oS 52 (.mget false (.agg [(.some .i64),(.some .i64)]) (.bool false) (.t 50) (.t 51)),oU 53 52]) (.cond (.t 53) (.seq (.reg [oM 54 8,oA 55 2 11,oN (.mset (.agg [(.some .i64),(.some .i64)]) (.t 54) (.t 55) (.c (.bool true)))]) (.reg [oM 56 6,oA 57 2 11,oS 58 (.bsl [(.int .i64 0),(.int .i64 0)] 1 [(0,(.t 57))]),oS 59 (.app .any 63 2 16 (.t 56) (.t 58)),oM 60 7,oM 61 9,oS 62 (.bsl [(.int .i64 0)] 1 [(0,(.t 61))]),oS 63 (.app .any 3 1 8 (.t 60) (.t 62)),oM 6 59,oM 7 63])) .skip)))) (.reg [oC 64 .add 46 1,oM 46 64])))
def q7F:C:=.seq (oR [oM 24 9,oM 25 6,oH 26 25,oB 27 .lss 24 26] (.cond (.t 27) .skip (.exit 0))) (.seq (.block 1 (.seq (.reg [oF 30 0 2,oA 31 1 30,oM 32 6,oM 33 9,oI 34 2 32 33,oS 35 (.aaddr 2 1 (.t 34) (.c (.int .i64 0))),oL 36 35,oF 37 0 3,oA 38 1 37,oM 39 6,oM 40 9,oI 41 2 39 40,oS 42 (.aaddr 2 1 (.t 41) (.c (.int .i64 1))),oL 43 42,oS 44 (.call .any 79 [(.t 31),(.t 36),(.t 38),(.t 43)]),oH 45 44,oJ 46 0]) (.block 2 (.loop q7E)))) (.reg [oM 28 9,oC 29 .add 28 1,oM 9 29]))
def q6c:FnC:=⟨(.seq (.reg [oQ 2 2 0,oQ 3 2 1,oS 4 (.mv (.c (.sl true []))),oS 5 (.mv (.c (.sl true [])))]) (.seq (.reg [oF 12 1 2,oL 13 12,oF 14 1 3,oL 15 14,oS 16 (.build [(.int .i64 0),(.int .i64 0)] [(0,(1,(.t 13))),(1,(1,(.t 15)))]),oS 17 (.bsl [(.int .i64 0),(.int .i64 0)] 1 [(0,(.t 16))]),oS 18 (.bsl [(.int .i64 0)] 1 [(0,(.c (.int .i64 (-1))))]),oM 6 17,oM 7 18]) (.seq (.reg [oS 19 (.mkm),oM 20 6,oS 21 (.iaddr 2 (.t 20) (.c (.int .i64 0))),oA 22 2 21,oN (.mset (.agg [(.some .i64),(.some .i64)]) (.t 19) (.t 22) (.c (.bool true))),oM 23 19,oM 8 23]) (.seq (oR [oJ 9 0] (.block 0 (.loop q7F))) (oR [oM 65 6,oM 66 7,oM 4 65,oM 5 66] .ret))))),[(.tmp 4),(.tmp 5)],2,[]⟩
theorem q8H:FnOk Tryz.prog 81 q6c:=⟨fun xs w=>by kernel_rfl,_,Tryz.func81,by kernel_rfl⟩
def q90:C:=.seq (oR [oM 36 12,oM 37 11,oH 38 37,oB 39 .lss 36 38] (.cond (.t 39) .skip (.exit 2))) (.seq (.block 3 (.seq (.reg [oM 42 9,oM 43 11,oM 44 12,oI 45 2 43 44,oA 46 2 45,oS 47 (.call .any 35 [(.t 42),(.t 46)]),oU 48 47]) (.cond (.t 48) (.reg [oM 49 9,oM 50 11,oM 51 12,oI 52 2 50 51,oA 53 2 52,oS 54 (.bsl [(.int .i64 0),(.int .i64 0)] 1 [(0,(.t 53))]),oS 55 (.app .any 63 2 16 (.t 49) (.t 54)),oM 9 55]) .skip))) (.reg [oM 40 12,oC 41 .add 40 1,oM 12 41]))
def q91:C:=.seq (oR [oM 17 10,oM 18 9,oH 19 18,oB 20 .lss 17 19] (.cond (.t 20) .skip (.exit 0))) (.seq (.block 1 (.seq (.reg [oA 23 1 4,oM 24 9,oM 25 10,oI 26 2 24 25,oS 27 (.aaddr 2 1 (.t 26) (.c (.int .i64 0))),oL 28 27,oA 29 1 6,oM 30 9,oM 31 10,oI 32 2 30 31,oS 33 (.aaddr 2 1 (.t 32) (.c (.int .i64 1))),oL 34 33,oS 35 (.call .any 41 [(.t 23),(.t 28),(.t 29),(.t 34)]),oM 11 35]) (oR [oJ 12 0] (.block 2 (.loop q90))))) (.reg [oM 21 10,oC 22 .add 21 1,oM 10 22]))
def q7D:FnC:=⟨(.seq (.reg [oQ 4 1 0,oQ 6 1 2,oS 8 (.mv (.c (.sl true [])))]) (.seq (.reg [oM 13 1,oM 14 3,oS 15 (.build [(.int .i64 0),(.int .i64 0)] [(0,(1,(.t 13))),(1,(1,(.t 14)))]),oS 16 (.bsl [(.int .i64 0),(.int .i64 0)] 1 [(0,(.t 15))]),oM 9 16]) (.seq (oR [oJ 10 0] (.block 0 (.loop q91))) (oR [oM 56 9,oM 8 56] .ret)))),[(.tmp 8)],4,[]⟩
theorem qaR:FnOk Tryz.prog 85 q7D:=⟨fun xs w=>by kernel_rfl,_,Tryz.func85,by kernel_rfl⟩
def q5Z:C:=.seq (oR [oM 7 2,oM 8 3,oB 9 .lss 7 8] (.cond (.t 9) .skip (.exit 0))) (.seq (.block 1 (.reg [oM 14 0,oM 15 2,oM 16 0,oM 17 3,oM 18 0,oM 19 3,oI 20 2 18 19,oA 21 2 20,oM 22 0,oM 23 2,oI 24 2 22 23,oA 25 2 24,oI 26 2 14 15,oV 2 26 21,oI 27 2 16 17,oV 2 27 25])) (.reg [oM 10 2,oC 11 .add 10 1,oM 12 3,oC 13 .sub 12 1,oM 2 11,oM 3 13]))
def q4n:FnC:=⟨(oR [oM 4 0,oH 5 4,oC 6 .sub 5 1,oJ 2 0,oM 3 6] (.block 0 (.loop q5Z))),[],1,[8000000]⟩
theorem q6L:FnOk Tryz.prog 86 q4n:=⟨fun xs w=>by kernel_rfl,_,Tryz.func86,by kernel_rfl⟩
def q66:FnC:=⟨(oR [oQ 2 1 0,oJ 4 0] (.seq (.reg [oF 5 0 2,oL 6 5,oM 7 1,oI 8 5 6 7,oF 9 0 8,oL 10 9,oS 11 (.bin .rem false (.t 10) (.c (.int .u8 9))),oS 12 (.conv (.some .i64) (.t 11)),oS 13 (.bin .add false (.c (.int .i64 1)) (.t 12)),oM 4 13]) .ret)),[(.tmp 4)],2,[]⟩
theorem ok_ref07_kind:FnOk Tryz.prog 87 q66:=⟨fun xs w=>by kernel_rfl,_,Tryz.func87,by kernel_rfl⟩
def q5k:FnC:=⟨(oR [oZ 2 false] (.seq (.reg [oM 3 0,oC 4 .eql 3 4,oM 5 4,oG 6 (.mv (.t 0)) 5 false,oG 7 (.bin .eql false (.t 6) (.c (.int .i64 5))) 5 false,oS 8 (.pick (.t 5) (.c (.bool true)) (.t 7)),oM 9 8,oG 10 (.mv (.t 0)) 9 false,oG 11 (.bin .eql false (.t 10) (.c (.int .i64 6))) 9 false,oS 12 (.pick (.t 9) (.c (.bool true)) (.t 11)),oM 2 12]) .ret)),[(.tmp 2)],1,[]⟩
theorem ok_ref07_Named:FnOk Tryz.prog 88 q5k:=⟨fun xs w=>by kernel_rfl,_,Tryz.func88,by kernel_rfl⟩
def q6X:FnC:=⟨(oR [oQ 1 5 0,oJ 2 0] (.seq (.reg [oF 3 1 1,oL 4 3,oS 5 (.bin .rem false (.t 4) (.c (.int .u8 7))),oS 6 (.conv (.some .i64) (.t 5)),oC 7 .sub 6 3,oM 2 7]) .ret)),[(.tmp 2)],1,[]⟩
theorem ok_ref07_low:FnOk Tryz.prog 89 q6X:=⟨fun xs w=>by kernel_rfl,_,Tryz.func89,by kernel_rfl⟩
def q65:FnC:=⟨(oR [oQ 1 5 0,oJ 2 0] (.seq (.reg [oA 3 5 1,oS 4 (.call .any 89 [(.t 3)]),oF 5 2 1,oL 6 5,oS 7 (.bin .rem false (.t 6) (.c (.int .u8 6))),oS 8 (.conv (.some .i64) (.t 7)),oB 9 .add 4 8,oM 2 9]) .ret)),[(.tmp 2)],1,[]⟩
theorem ok_ref07_high:FnOk Tryz.prog 90 q65:=⟨fun xs w=>by kernel_rfl,_,Tryz.func90,by kernel_rfl⟩
def q3B:C:=.seq (oR [oM 5 4,oC 6 .lss 5 6] (.cond (.t 6) .skip (.exit 0))) (.seq (.block 1 (.seq (.reg [oF 9 1 1,oL 10 9,oM 11 4,oB 12 .shr 10 11,oS 13 (.bin .rem false (.t 12) (.c (.int .u8 2))),oS 14 (.bin .eql false (.t 13) (.c (.int .u8 1)))]) (.cond (.t 14) (.reg [oM 15 3,oM 16 4,oC 17 .add 16 1,oS 18 (.bsl [(.int .i64 0)] 1 [(0,(.t 17))]),oS 19 (.app .any 3 1 8 (.t 15) (.t 18)),oM 3 19]) .skip))) (.reg [oM 7 4,oC 8 .add 7 1,oM 4 8]))
def q6V:FnC:=⟨(.seq (.reg [oQ 1 5 0,oS 2 (.mv (.c (.sl true [])))]) (.seq (.reg [oS 3 (.mv (.c (.sl true [])))]) (.seq (oR [oJ 4 0] (.block 0 (.loop q3B))) (.seq (oR [oM 20 3,oH 21 20,oC 22 .eql 21 0] (.cond (.t 22) (.reg [oM 23 3,oS 24 (.bsl [(.int .i64 0)] 1 [(0,(.c (.int .i64 1)))]),oS 25 (.app .any 3 1 8 (.t 23) (.t 24)),oM 3 25]) .skip)) (oR [oM 26 3,oM 2 26] .ret))))),[(.tmp 2)],1,[]⟩
theorem ok_ref07_ids:FnOk Tryz.prog 91 q6V:=⟨fun xs w=>by kernel_rfl,_,Tryz.func91,by kernel_rfl⟩
def q0u:C:=.seq (oR [oM 23 10,oF 24 4 7,oL 25 24,oH 26 25,oB 27 .lss 23 26] (.cond (.t 27) .skip (.exit 2))) (.seq (.block 3 (oR [oF 30 4 7,oL 31 30,oM 32 10,oI 33 3 31 32,oA 34 3 33,oY 11 zzg,oV 3 11 34] (.seq (.reg [oA 35 1 3,oM 36 1,oF 37 1 11,oL 38 37,oS 39 (.call .any 141 [(.t 35),(.t 36),(.t 38)]),oM 12 39]) (.seq (.seq (.reg [oF 40 0 11,oL 41 40,oS 42 (.bin .rem false (.t 41) (.c (.int .u8 12))),oS 43 (.conv (.some .i64) (.t 42)),oS 44 (.bin .add false (.c (.int .i64 1)) (.t 43)),oM 45 9,oB 46 .neq 44 45,oM 47 46,oG 48 (.mv (.t 12)) 47 false,oG 49 (.bin .lss false (.t 48) (.c (.int .i64 0))) 47 false,oS 50 (.pick (.t 47) (.c (.bool true)) (.t 49))]) (.cond (.t 50) (.exit 3) .skip)) (.seq (.reg [oM 51 9,oM 52 9,oS 53 (.bin .add false (.c (.int .i64 97)) (.t 52)),oS 54 (.conv (.some .i32) (.t 53)),oS 55 (.rstr (.t 54)),oS 56 (.bin .add false (.c (.str (ByteArray.mk #[109]))) (.t 55)),oM 57 12,oS 58 (.build zzh [(0,(1,(.t 51))),(1,(1,(.t 56))),(2,(1,(.t 57)))]),oY 13 zzh,oV 13 13 58]) (.seq (.seq (.reg [oM 59 2,oM 60 59,oG 61 (.faddr 2 (.t 11)) 60 true,oP 62 61 60 true,oG 63 (.bin .rem false (.t 62) (.c (.int .u8 4))) 60 true,oG 64 (.bin .eql false (.t 63) (.c (.int .u8 1))) 60 true,oS 65 (.pick (.t 60) (.t 64) (.c (.bool false)))]) (.cond (.t 65) (.reg [oF 66 3 13,oN (.store .any false 1 (.t 66) (.c (.bool true)))]) .skip)) (.seq (.seq (.reg [oM 67 2,oM 68 67,oG 69 (.faddr 2 (.t 11)) 68 true,oP 70 69 68 true,oG 71 (.bin .rem false (.t 70) (.c (.int .u8 4))) 68 true,oG 72 (.bin .geq false (.t 71) (.c (.int .u8 2))) 68 true,oS 73 (.pick (.t 68) (.t 72) (.c (.bool false)))]) (.cond (.t 73) (.reg [oA 75 1 3,oM 76 12,oF 77 2 11,oL 78 77,oS 79 (.bin .quo false (.t 78) (.c (.int .u8 4))),oS 80 (.call .any 142 [(.t 75),(.t 76),(.t 79)]),oM 74 80,oX 81 74 0,oX 82 74 1,oF 83 5 13,oV 8 83 81,oF 84 4 13,oW 84 82]) .skip)) (.seq (.reg [oM 85 8,oA 86 13 13,oS 87 (.bsl zzh 1 [(0,(.t 86))]),oS 88 (.appm .any 146 13 160 (.t 85) (.t 87)),oM 8 88]) (.exit 2))))))))) (.reg [oM 28 10,oC 29 .add 28 1,oM 10 29]))
def q52:C:=.seq (oR [oM 19 9,oC 20 .leq 19 12] (.cond (.t 20) .skip (.exit 0))) (.seq (.block 1 (oR [oJ 10 0] (.block 2 (.loop q0u)))) (.reg [oM 21 9,oC 22 .add 21 1,oM 9 22]))
def q5l:FnC:=⟨(.seq (.reg [oQ 3 1 0,oS 6 (.mv (.c (.sl true [])))]) (oR [oF 14 0 3,oL 15 14,oM 16 1,oI 17 5 15 16,oA 18 5 17,oY 7 zzd,oV 5 7 18] (.seq (.reg [oS 8 (.mv (.c (.sl true [])))]) (.seq (oR [oJ 9 1] (.block 0 (.loop q52))) (oR [oM 89 8,oM 6 89] .ret))))),[(.tmp 6)],3,[177]⟩
theorem ok_ref07_parts:FnOk Tryz.prog 92 q5l:=⟨fun xs w=>by kernel_rfl,_,Tryz.func92,by kernel_rfl⟩
def q4F:C:=.seq (oR [oM 11 6,oM 12 5,oB 13 .lss 11 12] (.cond (.t 13) .skip (.exit 0))) (.seq (.block 1 (.seq (.reg [oM 16 1,oS 17 (.conv (.some .i64) (.t 16)),oM 18 6,oB 19 .add 17 18,oM 20 5,oB 21 .rem 19 20,oM 7 21]) (.seq (.reg [oA 22 1 2,oM 23 7,oS 24 (.call .any 87 [(.t 22),(.t 23)]),oS 25 (.call .any 143 [(.t 24)])]) (.cond (.t 25) (oR [oM 26 7,oM 4 26] .ret) .skip)))) (.reg [oM 14 6,oC 15 .add 14 1,oM 6 15]))
def q6W:FnC:=⟨(oR [oQ 2 1 0,oJ 4 0] (oR [oF 8 0 2,oL 9 8,oH 10 9,oM 5 10] (.seq (oR [oJ 6 0] (.block 0 (.loop q4F))) (oR [oJ 4 (-1)] .ret)))),[(.tmp 4)],2,[]⟩
theorem ok_ref07_key:FnOk Tryz.prog 93 q6W:=⟨fun xs w=>by kernel_rfl,_,Tryz.func93,by kernel_rfl⟩
def q32:C:=oR [oB 18 .lss 17 16] (.seq (.cond (.t 18) .skip (.exit 0)) (.seq (.block 1 (oR [oI 19 1 15 17,oL 20 19,oM 6 20] (oR [oM 21 6,oU 22 21] (.cond (.t 22) (oR [oJ 2 10] .ret) .skip)))) (.reg [oC 23 .add 17 1,oM 17 23])))
def q3a:FnC:=⟨(oR [oQ 1 1 0,oJ 2 0] (.seq (.reg [oA 8 1 1,oS 9 (.call .any 144 [(.t 8)]),oM 7 9,oX 10 7 0,oX 11 7 1,oM 3 10,oM 4 11]) (.seq (oR [oM 12 4,oC 13 .neq 12 0] (.cond (.t 13) (oR [oM 14 4,oM 2 14] .ret) .skip)) (.seq (oR [oM 15 3,oH 16 15,oJ 17 0] (.block 0 (.loop q32))) (oR [oJ 2 0] .ret))))),[(.tmp 2)],1,[]⟩
theorem qaB:FnOk Tryz.prog 95 q3a:=⟨fun xs w=>by kernel_rfl,_,Tryz.func95,by kernel_rfl⟩
def q3K:C:=.seq (oR [oM 14 5,oM 15 3,oH 16 15,oB 17 .lss 14 16] (.cond (.t 17) .skip (.exit 0))) (.seq (.block 1 (oR [oM 20 3,oM 21 5,oI 22 1 20 21,oL 23 22,oU 24 23] (.cond (.t 24) (oR [oJ 2 10] .ret) .skip))) (.reg [oM 18 5,oC 19 .add 18 1,oM 5 19]))
def q4e:FnC:=⟨(oR [oQ 1 1 0,oJ 2 0] (.seq (.reg [oA 7 1 1,oS 8 (.call .any 145 [(.t 7)]),oM 6 8,oX 9 6 0,oX 10 6 1,oM 3 9,oM 4 10]) (.seq (oR [oM 11 4,oC 12 .neq 11 0] (.cond (.t 12) (oR [oM 13 4,oM 2 13] .ret) .skip)) (.seq (oR [oJ 5 0] (.block 0 (.loop q3K))) (oR [oJ 2 0] .ret))))),[(.tmp 2)],1,[]⟩
theorem ok_ref11_Sound:FnOk Tryz.prog 97 q4e:=⟨fun xs w=>by kernel_rfl,_,Tryz.func97,by kernel_rfl⟩
def q3n:C:=.seq (oR [oM 7 6,oF 8 6 2,oL 9 8,oH 10 9,oB 11 .lss 7 10] (.cond (.t 11) .skip (.exit 0))) (.seq (.block 1 (oR [oF 14 6 2,oL 15 14,oM 16 6,oI 17 13 15 16,oF 18 0 17,oL 19 18,oM 20 1,oB 21 .eql 19 20] (.cond (.t 21) (oR [oM 22 6,oM 4 22,oZ 5 true] .ret) .skip))) (.reg [oM 12 6,oC 13 .add 12 1,oM 6 13]))
def q4C:FnC:=⟨(oR [oQ 2 10 0,oJ 4 0,oZ 5 false] (.seq (oR [oJ 6 0] (.block 0 (.loop q3n))) (oR [oJ 4 0,oZ 5 false] .ret))),[(.tmp 4),(.tmp 5)],2,[]⟩
theorem ok_ref07_Member:FnOk Tryz.prog 99 q4C:=⟨fun xs w=>by kernel_rfl,_,Tryz.func99,by kernel_rfl⟩
def q3U:FnC:=⟨(oR [oQ 2 1 0,oJ 4 0] (.seq (.seq (.reg [oA 6 1 2,oS 7 (.call .any 97 [(.t 6)]),oM 5 7]) (oR [oM 8 5,oC 9 .neq 8 0] (.cond (.t 9) (oR [oM 10 5,oM 4 10] .ret) .skip))) (.seq (.seq (.reg [oM 11 1,oC 12 .lss 11 0,oM 13 12,oG 14 (.mv (.t 1)) 13 false,oG 15 (.faddr 0 (.t 2)) 13 false,oP 16 15 13 false,oG 17 (.len false (.t 16)) 13 false,oG 18 (.bin .geq false (.t 14) (.t 17)) 13 false,oS 19 (.pick (.t 13) (.c (.bool true)) (.t 18))]) (.cond (.t 19) (oR [oJ 4 4] .ret) .skip)) (oR [oJ 4 0] .ret)))),[(.tmp 4)],2,[]⟩
theorem ok_ref20_one:FnOk Tryz.prog 101 q3U:=⟨fun xs w=>by kernel_rfl,_,Tryz.func101,by kernel_rfl⟩
def q5p:FnC:=⟨(oR [oQ 2 1 0,oJ 4 0] (.seq (.seq (.reg [oA 6 1 2,oS 7 (.call .any 150 [(.t 6)]),oM 5 7]) (oR [oM 8 5,oC 9 .neq 8 0] (.cond (.t 9) (oR [oM 10 5,oM 4 10] .ret) .skip))) (.seq (.seq (.reg [oM 11 1,oC 12 .lss 11 0,oM 13 12,oG 14 (.mv (.t 1)) 13 false,oG 15 (.faddr 0 (.t 2)) 13 false,oP 16 15 13 false,oG 17 (.len false (.t 16)) 13 false,oG 18 (.bin .geq false (.t 14) (.t 17)) 13 false,oS 19 (.pick (.t 13) (.c (.bool true)) (.t 18))]) (.cond (.t 19) (oR [oJ 4 4] .ret) .skip)) (oR [oJ 4 0] .ret)))),[(.tmp 4)],2,[]⟩
theorem ok_ref10_Error:FnOk Tryz.prog 120 q5p:=⟨fun xs w=>by kernel_rfl,_,Tryz.func120,by kernel_rfl⟩
def q5n:FnC:=⟨(oR [oQ 3 1 0,oQ 5 8 2,oZ 6 false] (.seq (.reg [oA 7 1 3,oM 8 1,oA 9 8 5,oS 10 (.call .any 151 [(.t 7),(.t 8),(.t 9),(.c (.bool true))]),oM 6 10]) .ret)),[(.tmp 6)],3,[]⟩
theorem ok_ref08_Plain:FnOk Tryz.prog 121 q5n:=⟨fun xs w=>by kernel_rfl,_,Tryz.func121,by kernel_rfl⟩
def q4g:FnC:=⟨(oR [oY 2 zzb] (.seq (.reg [oS 3 (.bsl [(.int .i64 0)] 0 []),oM 4 0,oS 5 (.app .any 3 1 8 (.t 3) (.t 4)),oS 6 (.build zzb [(8,(1,(.t 5)))]),oV 10 2 6]) .ret)),[(.cell 2 true 10)],1,[]⟩
theorem qaQ:FnOk Tryz.prog 122 q4g:=⟨fun xs w=>by kernel_rfl,_,Tryz.func122,by kernel_rfl⟩
def q3p:C:=.seq (oR [oM 7 6,oF 8 5 2,oL 9 8,oH 10 9,oB 11 .lss 7 10] (.cond (.t 11) .skip (.exit 0))) (.seq (.block 1 (oR [oF 14 5 2,oL 15 14,oM 16 6,oI 17 2 15 16,oF 18 0 17,oL 19 18,oM 20 1,oB 21 .eql 19 20] (.cond (.t 21) (oR [oM 22 6,oM 4 22,oZ 5 true] .ret) .skip))) (.reg [oM 12 6,oC 13 .add 12 1,oM 6 13]))
def q4D:FnC:=⟨(oR [oQ 2 10 0,oJ 4 0,oZ 5 false] (.seq (oR [oJ 6 0] (.block 0 (.loop q3p))) (oR [oJ 4 0,oZ 5 false] .ret))),[(.tmp 4),(.tmp 5)],2,[]⟩
theorem ok_ref07_Symbol:FnOk Tryz.prog 123 q4D:=⟨fun xs w=>by kernel_rfl,_,Tryz.func123,by kernel_rfl⟩
noncomputable def q8Y:FnC:=cF [] Tryz.f124
theorem ok_ref14_union:FnOk Tryz.prog 124 q8Y:=⟨fun xs w=>by kernel_rfl,_,Tryz.func124,by kernel_rfl⟩
noncomputable def q8k:FnC:=cF [] Tryz.f125
theorem ok_ref14_record:FnOk Tryz.prog 125 q8k:=⟨fun xs w=>by kernel_rfl,_,Tryz.func125,by kernel_rfl⟩
noncomputable def c_ref14_to:FnC:=cF [] Tryz.f126
theorem ok_ref14_to:FnOk Tryz.prog 126 c_ref14_to:=⟨fun xs w=>by kernel_rfl,_,Tryz.func126,by kernel_rfl⟩
def q69:FnC:=⟨(oR [oQ 1 8 0,oY 2 zzb] (.seq (.reg [oA 3 8 1,oS 4 (.build zzb [(0,(8,(.t 3))),(9,(1,(.c (.bool true))))]),oV 10 2 4]) .ret)),[(.cell 2 true 10)],1,[]⟩
theorem ok_ref14_read:FnOk Tryz.prog 127 q69:=⟨fun xs w=>by kernel_rfl,_,Tryz.func127,by kernel_rfl⟩
def q1S:FnC:=⟨(oR [oQ 2 1 0,oJ 4 0] (.seq (.seq (.reg [oA 6 1 2,oS 7 (.call .any 95 [(.t 6)]),oM 5 7]) (oR [oM 8 5,oC 9 .neq 8 0] (.cond (.t 9) (oR [oM 10 5,oM 4 10] .ret) .skip))) (.seq (.seq (.reg [oM 11 1,oC 12 .lss 11 0,oM 13 12,oG 14 (.mv (.t 1)) 13 false,oG 15 (.faddr 0 (.t 2)) 13 false,oP 16 15 13 false,oG 17 (.len false (.t 16)) 13 false,oG 18 (.bin .geq false (.t 14) (.t 17)) 13 false,oS 19 (.pick (.t 13) (.c (.bool true)) (.t 18))]) (.cond (.t 19) (oR [oJ 4 4] .ret) .skip)) (oR [oJ 4 0] .ret)))),[(.tmp 4)],2,[]⟩
theorem q9W:FnOk Tryz.prog 128 q1S:=⟨fun xs w=>by kernel_rfl,_,Tryz.func128,by kernel_rfl⟩
def q1p:FnC:=⟨(oR [oQ 1 10 0,oJ 2 0] (.seq (oR [oF 4 0 1,oL 5 4] (.block 0 (oR [oC 7 .eql 5 1,oM 6 7] (.cond (.t 6) (oR [oJ 2 2] .ret) (oR [oC 9 .eql 5 2,oM 8 9] (.cond (.t 8) (.seq (.reg [oF 10 3 1,oL 11 10,oS 12 (.conv (.some .u64) (.t 11)),oF 13 2 1,oL 14 13,oS 15 (.conv (.some .u64) (.t 14)),oB 16 .sub 12 15,oM 3 16]) (.seq (.reg [oM 17 3,oS 18 (.bin .lss false (.t 17) (.c (.int .u64 2147483647)))]) (.cond (.t 18) (.seq (.reg [oM 19 3,oS 20 (.conv (.some .i64) (.t 19)),oC 21 .add 20 1,oM 2 21]) .ret) .skip))) (oR [oC 23 .eql 5 4,oM 22 23] (.cond (.t 22) (oR [oF 24 5 1,oL 25 24,oH 26 25,oM 2 26] .ret) (oR [oC 28 .eql 5 3,oM 27 28] (.cond (.t 27) (oR [oF 29 4 1,oL 30 29,oC 31 .eql 30 0] (.cond (.t 31) (oR [oJ 2 1] .ret) .skip)) .skip)))))))))) (oR [oJ 2 2147483647] .ret))),[(.tmp 2)],1,[]⟩
theorem qaV:FnOk Tryz.prog 129 q1p:=⟨fun xs w=>by kernel_rfl,_,Tryz.func129,by kernel_rfl⟩
def q2k:C:=oR [oB 36 .lss 35 34] (.seq (.cond (.t 36) .skip (.exit 2)) (.seq (.block 3 (oR [oI 37 13 33 35,oA 38 13 37,oY 10 zzh,oV 13 10 38] (.seq (.reg [oA 40 10 3,oF 41 0 10,oL 42 41,oS 43 (.call .any 137 [(.t 40),(.t 42)]),oM 39 43,oX 44 39 0,oX 45 39 1,oM 11 44,oM 12 45]) (oR [oM 46 12,oU 47 46] (.cond (.t 47) (oR [oZ 4 false] .ret) .skip))))) (.reg [oC 48 .add 35 1,oM 35 48])))
def q2l:C:=oR [oB 19 .lss 18 17] (.seq (.cond (.t 19) .skip (.exit 0)) (.seq (.block 1 (oR [oI 20 2 16 18,oA 21 2 20,oY 6 zzc,oV 2 6 21] (.seq (.reg [oA 23 10 3,oF 24 0 6,oL 25 24,oS 26 (.call .any 154 [(.t 23),(.t 25)]),oM 22 26,oX 27 22 0,oX 28 22 1,oM 7 27,oM 8 28]) (oR [oM 29 8,oU 30 29] (.cond (.t 30) (oR [oZ 4 false] .ret) .skip))))) (.reg [oC 31 .add 18 1,oM 18 31])))
def q2j:FnC:=⟨(oR [oQ 2 10 0,oQ 3 10 1,oZ 4 false] (.seq (oR [oF 13 9 3,oL 14 13] (.cond (.t 14) (oR [oZ 4 true] .ret) .skip)) (.seq (oR [oF 15 5 2,oL 16 15,oH 17 16,oJ 18 0] (.block 0 (.loop q2l))) (.seq (oR [oF 32 6 2,oL 33 32,oH 34 33,oJ 35 0] (.block 2 (.loop q2k))) (oR [oZ 4 true] .ret))))),[(.tmp 4)],2,[]⟩
theorem q8F:FnOk Tryz.prog 130 q2j:=⟨fun xs w=>by kernel_rfl,_,Tryz.func130,by kernel_rfl⟩
def q1J:C:=oR [oB 76 .lss 75 74] (.seq (.cond (.t 76) .skip (.exit 2)) (.seq (.block 3 (oR [oI 77 13 73 75,oA 78 13 77,oY 17 zzh,oV 13 17 78] (.seq (.reg [oA 80 10 7,oF 81 0 17,oL 82 81,oS 83 (.call .any 137 [(.t 80),(.t 82)]),oM 79 83,oX 84 79 0,oX 85 79 1,oM 18 84,oM 19 85]) (.seq (.reg [oM 86 19,oU 87 86,oM 88 87,oG 89 (.faddr 3 (.t 17)) 88 true,oP 90 89 88 true,oS 91 (.pick (.t 88) (.t 90) (.c (.bool false)))]) (.cond (.t 91) (oR [oJ 8 6] .ret) .skip))))) (.reg [oC 92 .add 75 1,oM 75 92])))
def q0y:C:=oR [oB 24 .lss 23 22] (.seq (.cond (.t 24) .skip (.exit 0)) (.seq (.block 1 (oR [oI 25 13 21 23,oA 26 13 25,oY 10 zzh,oV 13 10 26] (.seq (.reg [oA 28 10 5,oF 29 0 10,oL 30 29,oS 31 (.call .any 137 [(.t 28),(.t 30)]),oM 27 31,oX 32 27 0,oX 33 27 1,oM 11 32,oM 12 33]) (.seq (oR [oM 34 12,oU 35 34] (.cond (.t 35) (.seq (oR [oF 36 4 10,oL 37 36,oU 38 37] (.cond (.t 38) (oR [oJ 8 7] .ret) .skip)) (.exit 1)) .skip)) (oR [oF 39 6 5,oL 40 39,oM 41 11,oI 42 13 40 41,oA 43 13 42,oY 13 zzh,oV 13 13 43] (.seq (oR [oF 44 4 13,oL 45 44,oU 46 45] (.cond (.t 46) (.exit 1) .skip)) (.seq (oR [oF 47 4 10,oL 48 47,oU 49 48] (.cond (.t 49) (oR [oJ 8 7] .ret) .skip)) (.seq (.reg [oA 51 1 4,oF 52 2 13,oL 53 52,oF 54 5 13,oA 55 8 54,oA 56 1 6,oF 57 2 10,oL 58 57,oS 59 (.call .any 155 [(.t 51),(.t 53),(.t 55),(.t 56),(.t 58)]),oM 50 59,oX 60 50 0,oX 61 50 1,oY 14 zza,oV 8 14 60,oM 15 61]) (.seq (.reg [oM 62 15,oC 63 .neq 62 0,oM 64 63,oG 65 (.load .any true 8 (.t 14)) 64 false,oG 66 (.faddr 5 (.t 10)) 64 false,oG 67 (.load .any true 8 (.t 66)) 64 false,oG 68 (.call .any 156 [(.t 65),(.t 67)]) 64 false,oG 69 (.un .not (.t 68)) 64 false,oS 70 (.pick (.t 64) (.c (.bool true)) (.t 69))]) (.cond (.t 70) (oR [oJ 8 10] .ret) .skip)))))))))) (.reg [oC 71 .add 23 1,oM 23 71])))
def q36:FnC:=⟨(oR [oQ 4 1 0,oQ 5 10 1,oQ 6 1 2,oQ 7 10 3,oJ 8 0] (.seq (oR [oF 20 6 7,oL 21 20,oH 22 21,oJ 23 0] (.block 0 (.loop q0y))) (.seq (oR [oF 72 6 5,oL 73 72,oH 74 73,oJ 75 0] (.block 2 (.loop q1J))) (oR [oJ 8 0] .ret)))),[(.tmp 8)],4,[]⟩
theorem q8G:FnOk Tryz.prog 131 q36:=⟨fun xs w=>by kernel_rfl,_,Tryz.func131,by kernel_rfl⟩
def q4k:C:=.seq (.seq (.reg [oM 13 3,oC 14 .lss 13 100,oM 15 14,oG 16 (.mv (.t 4)) 15 true,oG 17 (.faddr 3 (.t 1)) 15 true,oP 18 17 15 true,oG 19 (.bin .lss false (.t 16) (.t 18)) 15 true,oS 20 (.pick (.t 15) (.t 19) (.c (.bool false)))]) (.cond (.t 20) .skip (.exit 1))) (.seq (.block 2 (.reg [oM 23 3,oC 24 .add 23 1,oM 3 24])) (.reg [oM 21 4,oC 22 .add 21 1,oM 4 22]))
def q2F:FnC:=⟨(oR [oQ 1 10 0,oJ 2 0] (.seq (oR [oF 5 0 1,oL 6 5] (.block 0 (oR [oC 8 .eql 6 1,oM 7 8] (.cond (.t 7) (oR [oJ 2 2] .ret) (oR [oC 10 .eql 6 2,oM 9 10] (.cond (.t 9) (oR [oJ 3 1] (.seq (oR [oF 11 2 1,oL 12 11,oM 4 12] (.block 1 (.loop q4k))) (oR [oM 25 3,oM 2 25] .ret))) (oR [oC 27 .eql 6 4,oM 26 27] (.cond (.t 26) (oR [oF 28 5 1,oL 29 28,oH 30 29,oM 2 30] .ret) .skip)))))))) (.seq (oR [oF 31 4 1,oL 32 31,oC 33 .eql 32 0] (.cond (.t 33) (oR [oJ 2 1] .ret) .skip)) (oR [oJ 2 100] .ret)))),[(.tmp 2)],1,[]⟩
theorem ok_ref20_keys:FnOk Tryz.prog 132 q2F:=⟨fun xs w=>by kernel_rfl,_,Tryz.func132,by kernel_rfl⟩
def q4K:C:=.seq (oR [oM 31 8,oF 32 6 2,oL 33 32,oH 34 33,oB 35 .lss 31 34] (.cond (.t 35) .skip (.exit 2))) (.seq (.block 3 (.seq (.reg [oA 39 10 3,oF 40 6 2,oL 41 40,oM 42 8,oI 43 13 41 42,oF 44 0 43,oL 45 44,oS 46 (.call .any 99 [(.t 39),(.t 45)]),oM 38 46,oX 47 38 0,oX 48 38 1,oM 9 47,oM 10 48]) (oR [oM 49 10,oU 50 49] (.cond (.t 50) (oR [oZ 4 false] .ret) .skip)))) (.reg [oM 36 8,oC 37 .add 36 1,oM 8 37]))
def q4L:C:=.seq (oR [oM 11 5,oF 12 5 2,oL 13 12,oH 14 13,oB 15 .lss 11 14] (.cond (.t 15) .skip (.exit 0))) (.seq (.block 1 (.seq (.reg [oA 19 10 3,oF 20 5 2,oL 21 20,oM 22 5,oI 23 2 21 22,oF 24 0 23,oL 25 24,oS 26 (.call .any 123 [(.t 19),(.t 25)]),oM 18 26,oX 27 18 0,oX 28 18 1,oM 6 27,oM 7 28]) (oR [oM 29 7,oU 30 29] (.cond (.t 30) (oR [oZ 4 false] .ret) .skip)))) (.reg [oM 16 5,oC 17 .add 16 1,oM 5 17]))
def q6Z:FnC:=⟨(oR [oQ 2 10 0,oQ 3 10 1,oZ 4 false] (.seq (oR [oJ 5 0] (.block 0 (.loop q4L))) (.seq (oR [oJ 8 0] (.block 2 (.loop q4K))) (oR [oZ 4 true] .ret)))),[(.tmp 4)],2,[]⟩
theorem ok_ref20_all:FnOk Tryz.prog 133 q6Z:=⟨fun xs w=>by kernel_rfl,_,Tryz.func133,by kernel_rfl⟩
def q2C:C:=.seq (oR [oM 81 13,oF 82 6 5,oL 83 82,oH 84 83,oB 85 .lss 81 84] (.cond (.t 85) .skip (.exit 2))) (.seq (.block 3 (.seq (.reg [oA 89 10 7,oF 90 6 5,oL 91 90,oM 92 13,oI 93 13 91 92,oF 94 0 93,oL 95 94,oS 96 (.call .any 99 [(.t 89),(.t 95)]),oM 88 96,oX 97 88 0,oX 98 88 1,oM 14 97,oM 15 98]) (.seq (.reg [oM 99 15,oU 100 99,oM 101 100,oG 102 (.faddr 6 (.t 5)) 101 true,oP 103 102 101 true,oG 104 (.mv (.t 13)) 101 true,oG 105 (.iaddr 13 (.t 103) (.t 104)) 101 true,oG 106 (.faddr 3 (.t 105)) 101 true,oP 107 106 101 true,oS 108 (.pick (.t 101) (.t 107) (.c (.bool false)))]) (.cond (.t 108) (oR [oJ 8 6] .ret) .skip)))) (.reg [oM 86 13,oC 87 .add 86 1,oM 13 87]))
def q12:C:=.seq (oR [oM 16 9,oF 17 6 7,oL 18 17,oH 19 18,oB 20 .lss 16 19] (.cond (.t 20) .skip (.exit 0))) (.seq (.block 1 (oR [oF 23 6 7,oL 24 23,oM 25 9,oI 26 13 24 25,oA 27 13 26,oY 10 zzh,oV 13 10 27] (.seq (.reg [oA 29 10 5,oF 30 0 10,oL 31 30,oS 32 (.call .any 99 [(.t 29),(.t 31)]),oM 28 32,oX 33 28 0,oX 34 28 1,oM 11 33,oM 12 34]) (.seq (.seq (.reg [oF 35 4 10,oL 36 35,oU 37 36,oM 38 37,oG 39 (.mv (.t 12)) 38 true,oG 40 (.un .not (.t 39)) 38 true,oG 41 (.mv (.t 40)) 38 true,oG 42 (.faddr 6 (.t 5)) 41 false,oP 43 42 41 false,oG 44 (.mv (.t 11)) 41 false,oG 45 (.iaddr 13 (.t 43) (.t 44)) 41 false,oG 46 (.faddr 4 (.t 45)) 41 false,oP 47 46 41 false,oG 48 (.pick (.t 41) (.c (.bool true)) (.t 47)) 38 true,oS 49 (.pick (.t 38) (.t 48) (.c (.bool false)))]) (.cond (.t 49) (oR [oJ 8 7] .ret) .skip)) (.seq (.reg [oM 50 12,oM 51 50,oG 52 (.faddr 6 (.t 5)) 51 true,oP 53 52 51 true,oG 54 (.mv (.t 11)) 51 true,oG 55 (.iaddr 13 (.t 53) (.t 54)) 51 true,oG 56 (.faddr 4 (.t 55)) 51 true,oP 57 56 51 true,oS 58 (.pick (.t 51) (.t 57) (.c (.bool false))),oM 59 58,oG 60 (.load .any true 1 (.t 4)) 59 true,oG 61 (.faddr 6 (.t 5)) 59 true,oP 62 61 59 true,oG 63 (.mv (.t 11)) 59 true,oG 64 (.iaddr 13 (.t 62) (.t 63)) 59 true,oG 65 (.faddr 2 (.t 64)) 59 true,oP 66 65 59 true,oG 67 (.faddr 6 (.t 5)) 59 true,oP 68 67 59 true,oG 69 (.mv (.t 11)) 59 true,oG 70 (.iaddr 13 (.t 68) (.t 69)) 59 true,oG 71 (.faddr 5 (.t 70)) 59 true,oG 72 (.load .any true 8 (.t 71)) 59 true,oG 73 (.load .any true 1 (.t 6)) 59 true,oG 74 (.faddr 2 (.t 10)) 59 true,oP 75 74 59 true,oG 76 (.faddr 5 (.t 10)) 59 true,oG 77 (.load .any true 8 (.t 76)) 59 true,oG 78 (.call .any 157 [(.t 60),(.t 66),(.t 72),(.t 73),(.t 75),(.t 77)]) 59 true,oG 79 (.un .not (.t 78)) 59 true,oS 80 (.pick (.t 59) (.t 79) (.c (.bool false)))]) (.cond (.t 80) (oR [oJ 8 10] .ret) .skip)))))) (.reg [oM 21 9,oC 22 .add 21 1,oM 9 22]))
def q4M:FnC:=⟨(oR [oQ 4 1 0,oQ 5 10 1,oQ 6 1 2,oQ 7 10 3,oJ 8 0] (.seq (oR [oJ 9 0] (.block 0 (.loop q12))) (.seq (oR [oJ 13 0] (.block 2 (.loop q2C))) (oR [oJ 8 0] .ret)))),[(.tmp 8)],4,[]⟩
theorem ok_ref20_record:FnOk Tryz.prog 134 q4M:=⟨fun xs w=>by kernel_rfl,_,Tryz.func134,by kernel_rfl⟩
def q0V:FnC:=⟨(.seq (.reg [oM 6 0,oM 7 1,oS 8 (.build [(.int .i64 0),(.int .i64 0)] [(0,(1,(.t 6))),(1,(1,(.t 7)))]),oY 5 [(.int .i64 0),(.int .i64 0)],oV 2 5 8]) (.seq (.reg [oL 9 2,oA 10 2 5,oS 11 (.call .any 136 [(.t 9),(.t 10)]),oU 12 11]) (.cond (.t 12) (.reg [oL 13 2,oA 14 2 5,oS 15 (.bsl [(.int .i64 0),(.int .i64 0)] 1 [(0,(.t 14))]),oS 16 (.app .any 63 2 16 (.t 13) (.t 15)),oW 2 16]) .skip))),[],3,[]⟩
theorem q6p:FnOk Tryz.prog 135 q0V:=⟨fun xs w=>by kernel_rfl,_,Tryz.func135,by kernel_rfl⟩
def q1P:FnC:=⟨(oR [oQ 3 2 1,oZ 4 false] (.seq (.reg [oM 5 0,oA 6 2 3,oS 7 (.call .any 158 [(.t 5),(.t 6)]),oC 8 .geq 7 0,oM 4 8]) .ret)),[(.tmp 4)],2,[]⟩
theorem q6r:FnOk Tryz.prog 136 q1P:=⟨fun xs w=>by kernel_rfl,_,Tryz.func136,by kernel_rfl⟩
def q4l:FnC:=⟨(oR [oQ 2 10 0,oQ 3 1 1,oJ 4 0,oZ 5 false] (.seq (.reg [oF 7 6 2,oL 8 7,oS 9 (.mkf 160 [(.t 3)]),oS 10 (.call .any 159 [(.t 8),(.t 9)]),oM 6 10]) (.seq (.reg [oM 11 6,oS 12 (.mm true (.t 11) (.c (.int .i64 0))),oM 13 6,oC 14 .geq 13 0,oM 4 12,oM 5 14]) .ret))),[(.tmp 4),(.tmp 5)],2,[]⟩
theorem qaS:FnOk Tryz.prog 137 q4l:=⟨fun xs w=>by kernel_rfl,_,Tryz.func137,by kernel_rfl⟩
noncomputable def q7z:FnC:=cF [] Tryz.f139
theorem qaF:FnOk Tryz.prog 139 q7z:=⟨fun xs w=>by kernel_rfl,_,Tryz.func139,by kernel_rfl⟩
def q2x:FnC:=⟨(oR [oJ 4 0] (.seq (.reg [oM 7 0,oS 8 (.call .any 171 [(.t 7)]),oM 5 8]) (.seq (.reg [oM 9 1,oS 10 (.call .any 171 [(.t 9)]),oM 6 10]) (.seq (oR [oM 11 5] (.cond (.t 11) (.seq (oR [oM 12 6] (.cond (.t 12) (oR [oJ 4 0] .ret) .skip)) (oR [oJ 4 (-1)] .ret)) .skip)) (.seq (oR [oM 13 6] (.cond (.t 13) (oR [oJ 4 1] .ret) .skip)) (.seq (oR [oM 14 0,oM 15 1,oB 16 .lss 14 15] (.cond (.t 16) (oR [oJ 4 (-1)] .ret) .skip)) (.seq (oR [oM 17 0,oM 18 1,oB 19 .gtr 17 18] (.cond (.t 19) (oR [oJ 4 1] .ret) .skip)) (oR [oJ 4 0] .ret)))))))),[(.tmp 4)],2,[]⟩
theorem q9c:FnOk Tryz.prog 140 q2x:=⟨fun xs w=>by kernel_rfl,_,Tryz.func140,by kernel_rfl⟩
def q3q:C:=.seq (oR [oM 32 9,oM 33 7,oB 34 .lss 32 33] (.cond (.t 34) .skip (.exit 0))) (.seq (.block 1 (.seq (.reg [oA 37 1 3,oM 38 9,oS 39 (.call .any 87 [(.t 37),(.t 38)]),oS 40 (.call .any 172 [(.t 39)])]) (.cond (.t 40) (oR [oM 41 9,oM 6 41] .ret) .skip))) (.reg [oM 35 9,oC 36 .add 35 1,oM 9 36]))
def q2s:FnC:=⟨(oR [oQ 3 1 0,oJ 6 0] (oR [oF 10 0 3,oL 11 10,oH 12 11,oM 7 12] (.seq (.reg [oM 13 2,oS 14 (.conv (.some .i64) (.t 13)),oM 15 7,oB 16 .rem 14 15,oM 8 16]) (.seq (.seq (.reg [oA 17 1 3,oM 18 8,oS 19 (.call .any 87 [(.t 17),(.t 18)]),oS 20 (.call .any 172 [(.t 19)]),oM 21 20,oG 22 (.mv (.t 8)) 21 false,oG 23 (.mv (.t 1)) 21 false,oG 24 (.bin .lss false (.t 22) (.t 23)) 21 false,oS 25 (.pick (.t 21) (.c (.bool true)) (.t 24))]) (.cond (.t 25) (oR [oM 26 8,oM 6 26] .ret) .skip)) (.seq (oR [oM 27 1,oC 28 .gtr 27 0] (.cond (.t 28) (oR [oM 29 8,oM 30 1,oB 31 .rem 29 30,oM 6 31] .ret) .skip)) (.seq (oR [oJ 9 0] (.block 0 (.loop q3q))) (oR [oJ 6 (-1)] .ret))))))),[(.tmp 6)],3,[]⟩
theorem ok_ref07_target:FnOk Tryz.prog 141 q2s:=⟨fun xs w=>by kernel_rfl,_,Tryz.func141,by kernel_rfl⟩
def q0I:FnC:=⟨(oR [oQ 3 1 0,oY 6 zza,oZ 7 false] (oR [oF 10 0 3,oL 11 10,oM 12 1,oI 13 5 11 12,oA 14 5 13,oY 8 zzd,oV 5 8 14] (.seq (.reg [oA 15 1 3,oM 16 1,oS 17 (.call .any 87 [(.t 15),(.t 16)]),oS 18 (.build zza [(0,(1,(.t 17)))]),oY 9 zza,oV 8 9 18]) (.seq (.seq (.reg [oF 19 0 9,oL 20 19,oC 21 .eql 20 8,oM 22 21,oG 23 (.load .any true 1 (.t 3)) 22 true,oG 24 (.call .any 93 [(.t 23),(.c (.int .u8 0))]) 22 true,oG 25 (.bin .lss false (.t 24) (.c (.int .i64 0))) 22 true,oS 26 (.pick (.t 22) (.t 25) (.c (.bool false)))]) (.cond (.t 26) (.reg [oF 27 0 9,oN (.store .any false 1 (.t 27) (.c (.int .i64 7)))]) .skip)) (.seq (oR [oF 28 0 9,oL 29 28] (.block 0 (oR [oC 31 .eql 29 1,oM 30 31] (.cond (.t 30) (.reg [oM 32 2,oS 33 (.bin .rem false (.t 32) (.c (.int .u8 2))),oS 34 (.bin .eql false (.t 33) (.c (.int .u8 1))),oF 35 1 9,oW 35 34]) (oR [oC 37 .eql 29 2,oM 36 37] (.cond (.t 36) (.reg [oS 38 (.load (.root 8) true 5 (.t 8)),oS 39 (.call .imm 89 [(.t 38)]),oM 40 2,oS 41 (.conv (.some .i64) (.t 40)),oS 42 (.load (.root 8) true 5 (.t 8)),oS 43 (.call .imm 90 [(.t 42)]),oS 44 (.load (.root 8) true 5 (.t 8)),oS 45 (.call .imm 89 [(.t 44)]),oB 46 .sub 43 45,oC 47 .add 46 1,oB 48 .rem 41 47,oB 49 .add 39 48,oF 50 2 9,oN (.store (.root 9) false 1 (.t 50) (.t 49))]) (oR [oC 52 .eql 29 3,oM 51 52] (.cond (.t 51) (.seq (.reg [oF 53 1 8,oL 54 53,oS 55 (.bin .rem false (.t 54) (.c (.int .u8 4))),oS 56 (.bin .gtr false (.t 55) (.c (.int .u8 0))),oM 57 56,oG 58 (.mv (.t 2)) 57 true,oG 59 (.bin .rem false (.t 58) (.c (.int .u8 2))) 57 true,oG 60 (.bin .eql false (.t 59) (.c (.int .u8 1))) 57 true,oS 61 (.pick (.t 57) (.t 60) (.c (.bool false)))]) (.cond (.t 61) (.reg [oF 62 3 9,oN (.store .any false 1 (.t 62) (.c (.str (ByteArray.mk #[97]))))]) .skip)) (oR [oC 64 .eql 29 4,oM 63 64] (.cond (.t 63) (.reg [oS 65 (.load (.root 8) true 5 (.t 8)),oS 66 (.call .imm 91 [(.t 65)]),oM 67 2,oS 68 (.conv (.some .i64) (.t 67)),oS 69 (.load (.root 8) true 5 (.t 8)),oS 70 (.call .imm 91 [(.t 69)]),oH 71 70,oB 72 .rem 68 71,oI 73 1 66 72,oS 74 (.load .imm false 1 (.t 73)),oF 75 4 9,oN (.store (.root 9) false 1 (.t 75) (.t 74))]) (.seq (oR [oC 77 .eql 29 5,oM 76 77] (.cond (.t 76) .skip (.reg [oC 78 .eql 29 6,oM 76 78]))) (.cond (.t 76) (.seq (.reg [oS 79 (.build zza []),oV 8 6 79,oZ 7 false]) .ret) .skip)))))))))))) (oR [oA 80 8 9,oV 8 6 80,oZ 7 true] .ret)))))),[(.cell 6 true 8),(.tmp 7)],3,[]⟩
theorem qaK:FnOk Tryz.prog 142 q0I:=⟨fun xs w=>by kernel_rfl,_,Tryz.func142,by kernel_rfl⟩
def q48:FnC:=⟨(oR [oZ 2 false] (.seq (.reg [oM 3 0,oC 4 .geq 3 1,oM 5 4,oG 6 (.mv (.t 0)) 5 true,oG 7 (.bin .leq false (.t 6) (.c (.int .i64 4))) 5 true,oS 8 (.pick (.t 5) (.t 7) (.c (.bool false))),oM 2 8]) .ret)),[(.tmp 2)],1,[]⟩
theorem qaJ:FnOk Tryz.prog 143 q48:=⟨fun xs w=>by kernel_rfl,_,Tryz.func143,by kernel_rfl⟩
def q2I:C:=oR [oB 17 .lss 16 15] (.seq (.cond (.t 17) .skip (.exit 0)) (.seq (.block 1 (oR [oI 18 1 14 16,oL 19 18,oM 7 19] (.reg [oM 20 5,oM 21 7,oC 22 .gtr 21 0,oS 23 (.bsl [(.bool false)] 1 [(0,(.t 22))]),oS 24 (.app .any 4 1 1 (.t 20) (.t 23)),oM 5 24]))) (.reg [oC 25 .add 16 1,oM 16 25])))
def q2R:FnC:=⟨(.seq (.reg [oQ 1 1 0,oS 2 (.mv (.c (.sl true []))),oJ 3 0]) (.seq (.seq (.reg [oA 8 1 1,oS 9 (.call .any 173 [(.t 8)]),oM 4 9]) (oR [oM 10 4,oC 11 .neq 10 0] (.cond (.t 11) (.seq (.reg [oM 12 4,oS 2 (.mv (.c (.sl true []))),oM 3 12]) .ret) .skip))) (.seq (.reg [oS 5 (.mv (.c (.sl true [])))]) (.seq (.seq (.reg [oA 13 1 1,oS 14 (.call .any 174 [(.t 13)]),oH 15 14,oJ 16 0]) (.block 0 (.loop q2I))) (oR [oM 26 5,oM 2 26,oJ 3 0] .ret))))),[(.tmp 2),(.tmp 3)],1,[]⟩
theorem q9L:FnOk Tryz.prog 144 q2R:=⟨fun xs w=>by kernel_rfl,_,Tryz.func144,by kernel_rfl⟩
def q3r:C:=.seq (oR [oM 15 7,oM 16 5,oH 17 16,oB 18 .lss 15 17] (.cond (.t 18) .skip (.exit 0))) (.seq (.block 1 (.reg [oM 21 6,oM 22 5,oM 23 7,oI 24 1 22 23,oL 25 24,oC 26 .gtr 25 0,oS 27 (.bsl [(.bool false)] 1 [(0,(.t 26))]),oS 28 (.app .any 4 1 1 (.t 21) (.t 27)),oM 6 28])) (.reg [oM 19 7,oC 20 .add 19 1,oM 7 20]))
def q3C:FnC:=⟨(.seq (.reg [oQ 1 1 0,oS 2 (.mv (.c (.sl true []))),oJ 3 0]) (.seq (.seq (.reg [oA 8 1 1,oS 9 (.call .any 175 [(.t 8)]),oM 4 9]) (oR [oM 10 4,oC 11 .neq 10 0] (.cond (.t 11) (.seq (.reg [oM 12 4,oS 2 (.mv (.c (.sl true []))),oM 3 12]) .ret) .skip))) (.seq (.reg [oA 13 1 1,oS 14 (.call .any 176 [(.t 13)]),oM 5 14]) (.seq (.reg [oS 6 (.mv (.c (.sl true [])))]) (.seq (oR [oJ 7 0] (.block 0 (.loop q3r))) (oR [oM 29 6,oM 2 29,oJ 3 0] .ret)))))),[(.tmp 2),(.tmp 3)],1,[]⟩
theorem ok_ref11_Finite:FnOk Tryz.prog 145 q3C:=⟨fun xs w=>by kernel_rfl,_,Tryz.func145,by kernel_rfl⟩
def q0m:FnC:=⟨(oR [oQ 2 8 0,oQ 3 8 1,oJ 4 0] (.seq (oR [oF 5 0 2,oL 6 5,oF 7 0 3,oL 8 7,oB 9 .neq 6 8] (.cond (.t 9) (oR [oJ 4 0] .ret) .skip)) (.seq (oR [oF 10 0 2,oL 11 10] (.block 0 (oR [oC 13 .eql 11 1,oM 12 13] (.cond (.t 12) (.seq (.reg [oF 14 1 3,oL 15 14,oF 16 1 2,oL 17 16,oF 18 1 3,oL 19 18,oS 20 (.bin .eql true (.t 17) (.t 19)),oS 21 (.call .any 178 [(.t 15),(.t 20)]),oM 4 21]) .ret) (oR [oC 23 .eql 11 2,oM 22 23] (.cond (.t 22) (.seq (.reg [oF 24 2 2,oL 25 24,oS 26 (.call .any 179 [(.t 25)]),oF 27 2 3,oL 28 27,oS 29 (.call .any 179 [(.t 28)]),oB 30 .lss 26 29,oF 31 2 2,oL 32 31,oF 33 2 3,oL 34 33,oB 35 .eql 32 34,oS 36 (.call .any 178 [(.t 30),(.t 35)]),oM 4 36]) .ret) (oR [oC 38 .eql 11 3,oM 37 38] (.cond (.t 37) (.seq (.seq (.reg [oF 39 3 2,oL 40 39,oS 41 (.len true (.t 40)),oF 42 3 3,oL 43 42,oS 44 (.len true (.t 43)),oB 45 .neq 41 44]) (.cond (.t 45) (.seq (.reg [oF 46 3 2,oL 47 46,oS 48 (.len true (.t 47)),oF 49 3 3,oL 50 49,oS 51 (.len true (.t 50)),oB 52 .lss 48 51,oS 53 (.call .any 178 [(.t 52),(.c (.bool false))]),oM 4 53]) .ret) .skip)) (.seq (.reg [oF 54 3 2,oL 55 54,oF 56 3 3,oL 57 56,oB 58 .lss 55 57,oF 59 3 2,oL 60 59,oF 61 3 3,oL 62 61,oB 63 .eql 60 62,oS 64 (.call .any 178 [(.t 58),(.t 63)]),oM 4 64]) .ret)) (oR [oC 66 .eql 11 4,oM 65 66] (.cond (.t 65) (.seq (.reg [oF 67 4 2,oL 68 67,oF 69 4 3,oL 70 69,oB 71 .lss 68 70,oF 72 4 2,oL 73 72,oF 74 4 3,oL 75 74,oB 76 .eql 73 75,oS 77 (.call .any 178 [(.t 71),(.t 76)]),oM 4 77]) .ret) .skip)))))))))) (oR [oJ 4 0] .ret)))),[(.tmp 4)],2,[]⟩
theorem qaN:FnOk Tryz.prog 149 q0m:=⟨fun xs w=>by kernel_rfl,_,Tryz.func149,by kernel_rfl⟩
def q2c:C:=.seq (oR [oM 48 7,oM 49 6,oH 50 49,oB 51 .lss 48 50] (.cond (.t 51) .skip (.exit 4))) (.seq (.block 5 (.seq (.reg [oM 54 6,oM 55 7,oI 56 1 54 55,oL 57 56,oC 58 .lss 57 0,oM 59 58,oG 60 (.mv (.t 6)) 59 false,oG 61 (.mv (.t 7)) 59 false,oG 62 (.iaddr 1 (.t 60) (.t 61)) 59 false,oP 63 62 59 false,oG 64 (.faddr 0 (.t 1)) 59 false,oP 65 64 59 false,oG 66 (.len false (.t 65)) 59 false,oG 67 (.bin .geq false (.t 63) (.t 66)) 59 false,oS 68 (.pick (.t 59) (.c (.bool true)) (.t 67))]) (.cond (.t 68) (oR [oJ 2 4] .ret) .skip))) (.reg [oM 52 7,oC 53 .add 52 1,oM 7 53]))
def q1R:C:=.seq (oR [oM 27 5,oM 28 3,oB 29 .lss 27 28] (.cond (.t 29) .skip (.exit 2))) (.seq (.block 3 (.seq (.reg [oF 32 0 4,oL 33 32,oS 34 (.call .any 88 [(.t 33)]),oM 35 34,oG 36 (.faddr 0 (.t 1)) 35 true,oP 37 36 35 true,oG 38 (.mv (.t 5)) 35 true,oG 39 (.iaddr 10 (.t 37) (.t 38)) 35 true,oG 40 (.faddr 1 (.t 39)) 35 true,oP 41 40 35 true,oG 42 (.faddr 1 (.t 4)) 35 true,oP 43 42 35 true,oG 44 (.bin .eql false (.t 41) (.t 43)) 35 true,oS 45 (.pick (.t 35) (.t 44) (.c (.bool false)))]) (.cond (.t 45) (oR [oJ 2 1] .ret) .skip))) (.reg [oM 30 5,oC 31 .add 30 1,oM 5 31]))
def q3J:C:=.seq (oR [oM 12 3,oF 13 0 1,oL 14 13,oH 15 14,oB 16 .lss 12 15] (.cond (.t 16) .skip (.exit 0))) (.seq (.block 1 (oR [oF 19 0 1,oL 20 19,oM 21 3,oI 22 10 20 21,oA 23 10 22,oY 4 zze,oV 10 4 23] (.seq (.seq (.reg [oA 24 10 4,oS 25 (.call .any 180 [(.t 24)]),oU 26 25]) (.cond (.t 26) (oR [oJ 2 1] .ret) .skip)) (.seq (oR [oJ 5 0] (.block 2 (.loop q1R))) (.seq (.reg [oA 46 10 4,oS 47 (.call .any 181 [(.t 46)]),oM 6 47]) (.seq (oR [oJ 7 0] (.block 4 (.loop q2c))) (.seq (.reg [oF 69 0 4,oL 70 69,oC 71 .eql 70 8,oM 72 71,oG 73 (.faddr 0 (.t 1)) 72 true,oP 74 73 72 true,oG 75 (.faddr 7 (.t 4)) 72 true,oP 76 75 72 true,oG 77 (.iaddr 10 (.t 74) (.t 76)) 72 true,oG 78 (.faddr 0 (.t 77)) 72 true,oP 79 78 72 true,oG 80 (.call .any 143 [(.t 79)]) 72 true,oG 81 (.un .not (.t 80)) 72 true,oS 82 (.pick (.t 72) (.t 81) (.c (.bool false)))]) (.cond (.t 82) (oR [oJ 2 1] .ret) .skip)))))))) (.reg [oM 17 3,oC 18 .add 17 1,oM 3 18]))
def q49:FnC:=⟨(oR [oQ 1 1 0,oJ 2 0] (.seq (oR [oF 8 0 1,oL 9 8,oH 10 9,oC 11 .gtr 10 32] (.cond (.t 11) (oR [oJ 2 3] .ret) .skip)) (.seq (oR [oJ 3 0] (.block 0 (.loop q3J))) (oR [oJ 2 0] .ret)))),[(.tmp 2)],1,[]⟩
theorem ok_ref07_Valid:FnOk Tryz.prog 150 q49:=⟨fun xs w=>by kernel_rfl,_,Tryz.func150,by kernel_rfl⟩
def q4H:C:=.seq (oR [oM 260 15,oF 261 5 6,oL 262 261,oH 263 262,oB 264 .lss 260 263] (.cond (.t 264) .skip (.exit 3))) (.seq (.block 4 (.seq (.reg [oF 267 5 6,oL 268 267,oM 269 15,oC 270 .sub 269 1,oI 271 8 268 270,oA 272 8 271,oF 273 5 6,oL 274 273,oM 275 15,oI 276 8 274 275,oA 277 8 276,oS 278 (.call .any 149 [(.t 272),(.t 277)]),oC 279 .geq 278 0]) (.cond (.t 279) (oR [oZ 8 false] .ret) .skip))) (.reg [oM 265 15,oC 266 .add 265 1,oM 15 266]))
def q4I:C:=.seq (oR [oM 115 12,oF 116 6 6,oL 117 116,oH 118 117,oB 119 .lss 115 118] (.cond (.t 119) .skip (.exit 1))) (.seq (.block 2 (.seq (.reg [oA 122 1 4,oF 123 6 9,oL 124 123,oM 125 12,oI 126 13 124 125,oF 127 2 126,oL 128 127,oF 129 6 6,oL 130 129,oM 131 12,oI 132 8 130 131,oA 133 8 132,oM 134 3,oS 135 (.call .any 151 [(.t 122),(.t 128),(.t 133),(.t 134)]),oU 136 135]) (.cond (.t 136) (oR [oZ 8 false] .ret) .skip))) (.reg [oM 120 12,oC 121 .add 120 1,oM 12 121]))
def q08:FnC:=⟨(oR [oQ 4 1 0,oQ 6 8 2,oZ 8 false] (.seq (.seq (.reg [oM 16 1,oC 17 .lss 16 0,oM 18 17,oG 19 (.mv (.t 1)) 18 false,oG 20 (.faddr 0 (.t 4)) 18 false,oP 21 20 18 false,oG 22 (.len false (.t 21)) 18 false,oG 23 (.bin .geq false (.t 19) (.t 22)) 18 false,oS 24 (.pick (.t 18) (.c (.bool true)) (.t 23))]) (.cond (.t 24) (oR [oZ 8 false] .ret) .skip)) (oR [oF 25 0 4,oL 26 25,oM 27 1,oI 28 10 26 27,oA 29 10 28,oY 9 zze,oV 10 9 29] (.seq (.seq (.reg [oF 30 0 6,oL 31 30,oF 32 0 9,oL 33 32,oB 34 .neq 31 33,oM 35 34,oG 36 (.load .any true 8 (.t 6)) 35 false,oG 37 (.call .any 182 [(.t 36)]) 35 false,oG 38 (.un .not (.t 37)) 35 false,oS 39 (.pick (.t 35) (.c (.bool true)) (.t 38)),oM 40 39,oG 41 (.mv (.t 3)) 40 false,oG 42 (.mv (.t 41)) 40 false,oG 43 (.faddr 7 (.t 6)) 42 true,oP 44 43 42 true,oG 45 (.len false (.t 44)) 42 true,oG 46 (.bin .gtr false (.t 45) (.c (.int .i64 0))) 42 true,oG 47 (.pick (.t 42) (.t 46) (.c (.bool false))) 40 false,oS 48 (.pick (.t 40) (.c (.bool true)) (.t 47))]) (.cond (.t 48) (oR [oZ 8 false] .ret) .skip)) (.seq (oR [oF 49 0 9,oL 50 49] (.block 0 (oR [oC 52 .eql 50 1,oM 51 52] (.cond (.t 51) (oR [oZ 8 true] .ret) (oR [oC 54 .eql 50 2,oM 53 54] (.cond (.t 53) (.seq (.reg [oF 55 2 6,oL 56 55,oF 57 2 9,oL 58 57,oB 59 .geq 56 58,oM 60 59,oG 61 (.faddr 2 (.t 6)) 60 true,oP 62 61 60 true,oG 63 (.faddr 3 (.t 9)) 60 true,oP 64 63 60 true,oG 65 (.bin .leq false (.t 62) (.t 64)) 60 true,oS 66 (.pick (.t 60) (.t 65) (.c (.bool false))),oM 8 66]) .ret) (oR [oC 68 .eql 50 3,oM 67 68] (.cond (.t 67) (.seq (.reg [oF 69 3 6,oL 70 69,oS 71 (.len true (.t 70)),oF 72 4 9,oL 73 72,oB 74 .leq 71 73,oM 8 74]) .ret) (oR [oC 76 .eql 50 4,oM 75 76] (.cond (.t 75) (.seq (.reg [oA 78 10 9,oF 79 4 6,oL 80 79,oS 81 (.call .any 123 [(.t 78),(.t 80)]),oM 77 81,oX 82 77 0,oX 83 77 1,oM 10 82,oM 11 83]) (.seq (.reg [oM 84 11,oM 85 84,oG 86 (.faddr 9 (.t 9)) 85 false,oP 87 86 85 false,oG 88 (.mv (.t 87)) 85 false,oG 89 (.mv (.t 3)) 88 true,oG 90 (.un .not (.t 89)) 88 true,oG 91 (.pick (.t 88) (.t 90) (.c (.bool false))) 85 false,oG 92 (.mv (.t 91)) 85 false,oG 93 (.faddr 4 (.t 6)) 92 true,oP 94 93 92 true,oG 95 (.mv (.t 11)) 92 true,oG 96 (.call .any 183 [(.t 94),(.t 95)]) 92 true,oG 97 (.pick (.t 92) (.t 96) (.c (.bool false))) 85 false,oS 98 (.pick (.t 85) (.c (.bool true)) (.t 97)),oM 8 98]) .ret)) (oR [oC 100 .eql 50 5,oM 99 100] (.cond (.t 99) (.seq (.seq (.reg [oF 101 6 6,oL 102 101,oH 103 102,oF 104 6 9,oL 105 104,oH 106 105,oB 107 .neq 103 106,oM 108 107,oG 109 (.load .any true 10 (.t 9)) 108 false,oG 110 (.faddr 7 (.t 6)) 108 false,oP 111 110 108 false,oG 112 (.call .any 184 [(.t 109),(.t 111)]) 108 false,oG 113 (.un .not (.t 112)) 108 false,oS 114 (.pick (.t 108) (.c (.bool true)) (.t 113))]) (.cond (.t 114) (oR [oZ 8 false] .ret) .skip)) (.seq (oR [oJ 12 0] (.block 1 (.loop q4I))) (oR [oZ 8 true] .ret))) (oR [oC 138 .eql 50 6,oM 137 138] (.cond (.t 137) (.seq (.reg [oA 140 10 9,oF 141 4 6,oL 142 141,oS 143 (.call .any 99 [(.t 140),(.t 142)]),oM 139 143,oX 144 139 0,oX 145 139 1,oM 13 144,oM 14 145]) (.seq (oR [oM 146 14] (.cond (.t 146) (.seq (.reg [oF 147 6 6,oL 148 147,oH 149 148,oC 150 .eql 149 1,oM 151 150,oG 152 (.faddr 7 (.t 6)) 151 true,oP 153 152 151 true,oG 154 (.len false (.t 153)) 151 true,oG 155 (.bin .eql false (.t 154) (.c (.int .i64 0))) 151 true,oS 156 (.pick (.t 151) (.t 155) (.c (.bool false))),oM 157 156,oG 158 (.load .any true 1 (.t 4)) 157 true,oG 159 (.faddr 6 (.t 9)) 157 true,oP 160 159 157 true,oG 161 (.mv (.t 13)) 157 true,oG 162 (.iaddr 13 (.t 160) (.t 161)) 157 true,oG 163 (.faddr 2 (.t 162)) 157 true,oP 164 163 157 true,oG 165 (.faddr 6 (.t 6)) 157 true,oP 166 165 157 true,oG 167 (.iaddr 8 (.t 166) (.c (.int .i64 0))) 157 true,oG 168 (.load .any true 8 (.t 167)) 157 true,oG 169 (.mv (.t 3)) 157 true,oG 170 (.call .any 151 [(.t 158),(.t 164),(.t 168),(.t 169)]) 157 true,oS 171 (.pick (.t 157) (.t 170) (.c (.bool false))),oM 8 171]) .ret) .skip)) (.seq (.reg [oF 172 9 9,oL 173 172,oM 174 173,oG 175 (.mv (.t 3)) 174 true,oG 176 (.un .not (.t 175)) 174 true,oS 177 (.pick (.t 174) (.t 176) (.c (.bool false))),oM 178 177,oG 179 (.faddr 4 (.t 6)) 178 true,oP 180 179 178 true,oG 181 (.mv (.t 14)) 178 true,oG 182 (.call .any 183 [(.t 180),(.t 181)]) 178 true,oS 183 (.pick (.t 178) (.t 182) (.c (.bool false))),oM 184 183,oG 185 (.faddr 6 (.t 6)) 184 true,oP 186 185 184 true,oG 187 (.len false (.t 186)) 184 true,oG 188 (.bin .eql false (.t 187) (.c (.int .i64 0))) 184 true,oS 189 (.pick (.t 184) (.t 188) (.c (.bool false))),oM 190 189,oG 191 (.faddr 7 (.t 6)) 190 true,oP 192 191 190 true,oG 193 (.len false (.t 192)) 190 true,oG 194 (.bin .eql false (.t 193) (.c (.int .i64 1))) 190 true,oS 195 (.pick (.t 190) (.t 194) (.c (.bool false))),oM 196 195,oG 197 (.faddr 7 (.t 6)) 196 true,oP 198 197 196 true,oG 199 (.iaddr 2 (.t 198) (.c (.int .i64 0))) 196 true,oG 200 (.faddr 0 (.t 199)) 196 true,oP 201 200 196 true,oG 202 (.faddr 4 (.t 6)) 196 true,oP 203 202 196 true,oG 204 (.bin .eql false (.t 201) (.t 203)) 196 true,oS 205 (.pick (.t 196) (.t 204) (.c (.bool false))),oM 8 205]) .ret))) (oR [oC 207 .eql 50 7,oM 206 207] (.cond (.t 206) (.seq (.reg [oF 208 6 6,oL 209 208,oH 210 209,oF 211 4 9,oL 212 211,oB 213 .leq 210 212,oM 214 213,oG 215 (.load .any true 1 (.t 4)) 214 true,oG 216 (.faddr 8 (.t 9)) 214 true,oP 217 216 214 true,oG 218 (.faddr 6 (.t 6)) 214 true,oP 219 218 214 true,oG 220 (.mv (.t 3)) 214 true,oG 221 (.call .any 185 [(.t 215),(.t 217),(.t 219),(.t 220)]) 214 true,oS 222 (.pick (.t 214) (.t 221) (.c (.bool false))),oM 8 222]) .ret) (oR [oC 224 .eql 50 8,oM 223 224] (.cond (.t 223) (.seq (.seq (.reg [oF 225 5 6,oL 226 225,oH 227 226,oF 228 4 9,oL 229 228,oB 230 .gtr 227 229,oM 231 230,oG 232 (.faddr 6 (.t 6)) 231 false,oP 233 232 231 false,oG 234 (.len false (.t 233)) 231 false,oG 235 (.faddr 5 (.t 6)) 231 false,oP 236 235 231 false,oG 237 (.len false (.t 236)) 231 false,oG 238 (.bin .neq false (.t 234) (.t 237)) 231 false,oS 239 (.pick (.t 231) (.c (.bool true)) (.t 238)),oM 240 239,oG 241 (.load .any true 1 (.t 4)) 240 false,oG 242 (.faddr 7 (.t 9)) 240 false,oP 243 242 240 false,oG 244 (.faddr 5 (.t 6)) 240 false,oP 245 244 240 false,oG 246 (.mv (.t 3)) 240 false,oG 247 (.call .any 185 [(.t 241),(.t 243),(.t 245),(.t 246)]) 240 false,oG 248 (.un .not (.t 247)) 240 false,oS 249 (.pick (.t 240) (.c (.bool true)) (.t 248)),oM 250 249,oG 251 (.load .any true 1 (.t 4)) 250 false,oG 252 (.faddr 8 (.t 9)) 250 false,oP 253 252 250 false,oG 254 (.faddr 6 (.t 6)) 250 false,oP 255 254 250 false,oG 256 (.mv (.t 3)) 250 false,oG 257 (.call .any 185 [(.t 251),(.t 253),(.t 255),(.t 256)]) 250 false,oG 258 (.un .not (.t 257)) 250 false,oS 259 (.pick (.t 250) (.c (.bool true)) (.t 258))]) (.cond (.t 259) (oR [oZ 8 false] .ret) .skip)) (.seq (oR [oJ 15 1] (.block 3 (.loop q4H))) (oR [oZ 8 true] .ret))) .skip)))))))))))))))))) (.seq (.reg [oF 280 6 6,oL 281 280,oH 282 281,oC 283 .leq 282 1,oM 284 283,oG 285 (.load .any true 1 (.t 4)) 284 true,oG 286 (.faddr 8 (.t 9)) 284 true,oP 287 286 284 true,oG 288 (.faddr 6 (.t 6)) 284 true,oP 289 288 284 true,oG 290 (.mv (.t 3)) 284 true,oG 291 (.call .any 185 [(.t 285),(.t 287),(.t 289),(.t 290)]) 284 true,oS 292 (.pick (.t 284) (.t 291) (.c (.bool false))),oM 8 292]) .ret)))))),[(.tmp 8)],4,[]⟩
theorem ok_ref08_fit:FnOk Tryz.prog 151 q08:=⟨fun xs w=>by kernel_rfl,_,Tryz.func151,by kernel_rfl⟩
noncomputable def q7C:FnC:=cF [] Tryz.f152
theorem qaO:FnOk Tryz.prog 152 q7C:=⟨fun xs w=>by kernel_rfl,_,Tryz.func152,by kernel_rfl⟩
noncomputable def q6y:FnC:=cF [] Tryz.f153
theorem q9i:FnOk Tryz.prog 153 q6y:=⟨fun xs w=>by kernel_rfl,_,Tryz.func153,by kernel_rfl⟩
def q4m:FnC:=⟨(oR [oQ 2 10 0,oQ 3 1 1,oJ 4 0,oZ 5 false] (.seq (.reg [oF 7 5 2,oL 8 7,oS 9 (.mkf 193 [(.t 3)]),oS 10 (.call .any 192 [(.t 8),(.t 9)]),oM 6 10]) (.seq (.reg [oM 11 6,oS 12 (.mm true (.t 11) (.c (.int .i64 0))),oM 13 6,oC 14 .geq 13 0,oM 4 12,oM 5 14]) .ret))),[(.tmp 4),(.tmp 5)],2,[]⟩
theorem qaT:FnOk Tryz.prog 154 q4m:=⟨fun xs w=>by kernel_rfl,_,Tryz.func154,by kernel_rfl⟩
def q2z:FnC:=⟨(oR [oQ 5 1 0,oQ 7 8 2,oQ 8 1 3,oY 10 zza,oJ 11 0] (.seq (.seq (.reg [oA 16 1 5,oM 17 1,oA 18 8 7,oA 19 1 8,oM 20 4,oS 21 (.call .any 194 [(.t 16),(.t 17),(.t 18),(.t 19),(.t 20)]),oM 12 21]) (oR [oM 22 12,oC 23 .neq 22 0] (.cond (.t 23) (.seq (.reg [oS 24 (.build zza []),oM 25 12,oV 8 10 24,oM 11 25]) .ret) .skip))) (.seq (.reg [oA 26 1 5,oA 27 1 8,oS 28 (.build zzi [(0,(1,(.t 26))),(1,(1,(.t 27)))]),oQ 29 4 28,oM 13 29]) (.seq (.reg [oM 31 13,oM 32 1,oA 33 8 7,oM 34 4,oS 35 (.callr .any 195 [(.t 31),(.t 32),(.t 33),(.t 34)]),oM 30 35,oX 36 30 0,oX 37 30 1,oY 14 zza,oV 8 14 36,oM 15 37]) (.seq (oR [oM 38 15,oU 39 38] (.cond (.t 39) (.seq (.reg [oS 40 (.build zza []),oV 8 10 40,oJ 11 12]) .ret) .skip)) (oR [oA 41 8 14,oV 8 10 41,oJ 11 0] .ret)))))),[(.cell 10 true 8),(.tmp 11)],5,[71]⟩
theorem q9f:FnOk Tryz.prog 155 q2z:=⟨fun xs w=>by kernel_rfl,_,Tryz.func155,by kernel_rfl⟩
def q1q:FnC:=⟨(oR [oQ 2 8 0,oQ 3 8 1,oZ 4 false] (.seq (.reg [oF 5 0 2,oL 6 5,oF 7 0 3,oL 8 7,oB 9 .eql 6 8,oM 10 9,oG 11 (.faddr 1 (.t 2)) 10 true,oP 12 11 10 true,oG 13 (.faddr 1 (.t 3)) 10 true,oP 14 13 10 true,oG 15 (.bin .eql true (.t 12) (.t 14)) 10 true,oS 16 (.pick (.t 10) (.t 15) (.c (.bool false))),oM 17 16,oG 18 (.faddr 2 (.t 2)) 17 true,oP 19 18 17 true,oG 20 (.faddr 2 (.t 3)) 17 true,oP 21 20 17 true,oG 22 (.bin .eql false (.t 19) (.t 21)) 17 true,oS 23 (.pick (.t 17) (.t 22) (.c (.bool false))),oM 24 23,oG 25 (.faddr 3 (.t 2)) 24 true,oP 26 25 24 true,oG 27 (.faddr 3 (.t 3)) 24 true,oP 28 27 24 true,oG 29 (.bin .eql false (.t 26) (.t 28)) 24 true,oS 30 (.pick (.t 24) (.t 29) (.c (.bool false))),oM 31 30,oG 32 (.faddr 4 (.t 2)) 31 true,oP 33 32 31 true,oG 34 (.faddr 4 (.t 3)) 31 true,oP 35 34 31 true,oG 36 (.bin .eql false (.t 33) (.t 35)) 31 true,oS 37 (.pick (.t 31) (.t 36) (.c (.bool false))),oM 38 37,oG 39 (.faddr 7 (.t 2)) 38 true,oP 40 39 38 true,oG 41 (.faddr 7 (.t 3)) 38 true,oP 42 41 38 true,oG 43 (.call .any 196 [(.t 40),(.t 42)]) 38 true,oS 44 (.pick (.t 38) (.t 43) (.c (.bool false))),oM 45 44,oG 46 (.faddr 5 (.t 2)) 45 true,oP 47 46 45 true,oG 48 (.faddr 5 (.t 3)) 45 true,oP 49 48 45 true,oG 50 (.call .any 197 [(.t 47),(.t 49),(.c (.fn 156 []))]) 45 true,oS 51 (.pick (.t 45) (.t 50) (.c (.bool false))),oM 52 51,oG 53 (.faddr 6 (.t 2)) 52 true,oP 54 53 52 true,oG 55 (.faddr 6 (.t 3)) 52 true,oP 56 55 52 true,oG 57 (.call .any 197 [(.t 54),(.t 56),(.c (.fn 156 []))]) 52 true,oS 58 (.pick (.t 52) (.t 57) (.c (.bool false))),oM 4 58]) .ret)),[(.tmp 4)],2,[]⟩
theorem ok_value_Equal:FnOk Tryz.prog 156 q1q:=⟨fun xs w=>by kernel_rfl,_,Tryz.func156,by kernel_rfl⟩
def q4f:FnC:=⟨(oR [oQ 6 1 0,oQ 8 8 2,oQ 9 1 3,oQ 11 8 5,oZ 12 false] (.seq (.reg [oA 16 1 6,oM 17 1,oA 18 8 8,oA 19 1 9,oM 20 4,oS 21 (.call .any 23 [(.t 16),(.t 17),(.t 18),(.t 19),(.t 20)]),oM 15 21,oX 22 15 0,oX 23 15 1,oY 13 zza,oV 8 13 22,oM 14 23]) (.seq (.reg [oM 24 14,oC 25 .eql 24 0,oM 26 25,oG 27 (.load .any true 8 (.t 13)) 26 true,oG 28 (.load .any true 8 (.t 11)) 26 true,oG 29 (.call .any 191 [(.t 27),(.t 28)]) 26 true,oS 30 (.pick (.t 26) (.t 29) (.c (.bool false))),oM 12 30]) .ret))),[(.tmp 12)],6,[]⟩
theorem ok_ref14_Means:FnOk Tryz.prog 157 q4f:=⟨fun xs w=>by kernel_rfl,_,Tryz.func157,by kernel_rfl⟩
def q1k:C:=oR [oB 9 .lss 8 7] (.seq (.cond (.t 9) .skip (.exit 0)) (.seq (.block 1 (oR [oM 10 8,oM 5 10] (.seq (.reg [oA 11 2 3,oM 12 0,oM 13 5,oI 14 2 12 13,oA 15 2 14,oS 16 (.eqa false [0,0] (.t 11) (.t 15))]) (.cond (.t 16) (oR [oM 17 5,oM 4 17] .ret) .skip)))) (.reg [oC 18 .add 8 1,oM 8 18])))
def q2m:FnC:=⟨(oR [oQ 3 2 1,oJ 4 0] (.seq (oR [oM 6 0,oH 7 6,oJ 8 0] (.block 0 (.loop q1k))) (oR [oJ 4 (-1)] .ret))),[(.tmp 4)],2,[]⟩
theorem q7s:FnOk Tryz.prog 158 q2m:=⟨fun xs w=>by kernel_rfl,_,Tryz.func158,by kernel_rfl⟩
def q0W:C:=oR [oB 9 .lss 8 7] (.seq (.cond (.t 9) .skip (.exit 0)) (.seq (.block 1 (oR [oM 10 8,oM 5 10] (.seq (.reg [oM 11 1,oM 12 0,oM 13 5,oI 14 13 12 13,oA 15 13 14,oS 16 (.callv .any (.t 11) [(.t 15)])]) (.cond (.t 16) (oR [oM 17 5,oM 4 17] .ret) .skip)))) (.reg [oC 18 .add 8 1,oM 8 18])))
def q1d:FnC:=⟨(oR [oJ 4 0] (.seq (oR [oM 6 0,oH 7 6,oJ 8 0] (.block 0 (.loop q0W))) (oR [oJ 4 (-1)] .ret))),[(.tmp 4)],2,[]⟩
theorem q4Z:FnOk Tryz.prog 159 q1d:=⟨fun xs w=>by kernel_rfl,_,Tryz.func159,by kernel_rfl⟩
def q34:FnC:=⟨(oR [oQ 2 13 0,oZ 3 false] (oR [oF 4 0 2,oL 5 4,oL 6 1,oB 7 .eql 5 6,oM 3 7] .ret)),[(.tmp 3)],2,[]⟩
theorem q8D:FnOk Tryz.prog 160 q34:=⟨fun xs w=>by kernel_rfl,_,Tryz.func160,by kernel_rfl⟩
noncomputable def q6v:FnC:=cF [] Tryz.f169
theorem q9d:FnOk Tryz.prog 169 q6v:=⟨fun xs w=>by kernel_rfl,_,Tryz.func169,by kernel_rfl⟩
noncomputable def q6w:FnC:=cF [] Tryz.f170
theorem q9e:FnOk Tryz.prog 170 q6w:=⟨fun xs w=>by kernel_rfl,_,Tryz.func170,by kernel_rfl⟩
def q41:FnC:=⟨(oR [oZ 2 false] (oR [oM 3 0,oM 4 0,oB 5 .neq 3 4,oM 2 5] .ret)),[(.tmp 2)],1,[]⟩
theorem qaz:FnOk Tryz.prog 171 q41:=⟨fun xs w=>by kernel_rfl,_,Tryz.func171,by kernel_rfl⟩
def q4E:FnC:=⟨(oR [oZ 2 false] (oR [oM 3 0,oC 4 .geq 3 7,oM 2 4] .ret)),[(.tmp 2)],1,[]⟩
theorem ok_ref07_hollow:FnOk Tryz.prog 172 q4E:=⟨fun xs w=>by kernel_rfl,_,Tryz.func172,by kernel_rfl⟩
def q3b:FnC:=⟨(oR [oQ 1 1 0,oJ 2 0] (.seq (.seq (.reg [oA 7 1 1,oS 8 (.call .any 203 [(.t 7)]),oM 3 8]) (oR [oM 9 3,oC 10 .neq 9 0] (.cond (.t 10) (oR [oM 11 3,oM 2 11] .ret) .skip))) (.seq (.reg [oA 13 1 1,oS 14 (.call .any 204 [(.t 13)]),oM 12 14,oX 15 12 0,oX 16 12 1,oX 17 12 2,oM 4 15,oM 5 16,oM 6 17]) (oR [oM 18 6,oM 2 18] .ret)))),[(.tmp 2)],1,[]⟩
theorem qaD:FnOk Tryz.prog 173 q3b:=⟨fun xs w=>by kernel_rfl,_,Tryz.func173,by kernel_rfl⟩
def q25:C:=oR [oB 17 .lss 16 15] (.seq (.cond (.t 17) .skip (.exit 2)) (.seq (.block 3 (oR [oM 18 16,oI 19 10 14 16,oA 20 10 19,oY 6 zze,oM 5 18,oV 10 6 20] (.seq (.reg [oA 21 10 6,oM 22 3,oS 23 (.call .any 205 [(.t 21),(.t 22)]),oS 24 (.mm false (.c (.int .i64 2)) (.t 23)),oM 7 24]) (oR [oM 25 7,oM 26 3,oM 27 5,oI 28 1 26 27,oL 29 28,oB 30 .neq 25 29] (.cond (.t 30) (.reg [oM 31 3,oM 32 5,oM 33 7,oI 34 1 31 32,oW 34 33,oZ 4 true]) .skip))))) (.reg [oC 35 .add 16 1,oM 16 35])))
def q3S:C:=.seq (oR [oM 12 4] (.cond (.t 12) .skip (.exit 0))) (.block 1 (oR [oZ 4 false] (oR [oF 13 0 1,oL 14 13,oH 15 14,oJ 16 0] (.block 2 (.loop q25)))))
def q3G:FnC:=⟨(.seq (.reg [oQ 1 1 0,oS 2 (.mv (.c (.sl true [])))]) (.seq (.reg [oF 8 0 1,oL 9 8,oH 10 9,oS 11 (.mks 1 8 [(.int .i64 0)] (.t 10) (.t 10)),oM 3 11]) (.seq (oR [oZ 4 true] (.block 0 (.loop q3S))) (oR [oM 36 3,oM 2 36] .ret)))),[(.tmp 2)],1,[]⟩
theorem q9M:FnOk Tryz.prog 174 q3G:=⟨fun xs w=>by kernel_rfl,_,Tryz.func174,by kernel_rfl⟩
def q4d:FnC:=⟨(oR [oQ 1 1 0,oJ 2 0] (.seq (.seq (.reg [oA 7 1 1,oS 8 (.call .any 150 [(.t 7)]),oM 3 8]) (oR [oM 9 3,oC 10 .neq 9 0] (.cond (.t 10) (oR [oM 11 3,oM 2 11] .ret) .skip))) (.seq (.reg [oA 13 1 1,oS 14 (.call .any 206 [(.t 13)]),oM 12 14,oX 15 12 0,oX 16 12 1,oX 17 12 2,oM 4 15,oM 5 16,oM 6 17]) (oR [oM 18 6,oM 2 18] .ret)))),[(.tmp 2)],1,[]⟩
theorem ok_ref11_Error:FnOk Tryz.prog 175 q4d:=⟨fun xs w=>by kernel_rfl,_,Tryz.func175,by kernel_rfl⟩
def q4w:C:=.seq (oR [oM 18 5,oF 19 0 1,oL 20 19,oH 21 20,oB 22 .lss 18 21] (.cond (.t 22) .skip (.exit 2))) (.seq (.block 3 (.reg [oM 25 3,oM 26 5,oF 27 0 1,oL 28 27,oM 29 5,oI 30 10 28 29,oA 31 10 30,oM 32 3,oS 33 (.call .any 207 [(.t 31),(.t 32)]),oI 34 1 25 26,oW 34 33])) (.reg [oM 23 5,oC 24 .add 23 1,oM 5 24]))
def q4x:C:=.seq (.seq (.reg [oM 10 4,oF 11 0 1,oL 12 11,oH 13 12,oS 14 (.bin .mul false (.c (.int .i64 2)) (.t 13)),oB 15 .leq 10 14]) (.cond (.t 15) .skip (.exit 0))) (.seq (.block 1 (oR [oJ 5 0] (.block 2 (.loop q4w)))) (.reg [oM 16 4,oC 17 .add 16 1,oM 4 17]))
def q4J:FnC:=⟨(.seq (.reg [oQ 1 1 0,oS 2 (.mv (.c (.sl true [])))]) (.seq (.reg [oF 6 0 1,oL 7 6,oH 8 7,oS 9 (.mks 1 8 [(.int .i64 0)] (.t 8) (.t 8)),oM 3 9]) (.seq (oR [oJ 4 0] (.block 0 (.loop q4x))) (oR [oM 35 3,oM 2 35] .ret)))),[(.tmp 2)],1,[]⟩
theorem ok_ref11_Counts:FnOk Tryz.prog 176 q4J:=⟨fun xs w=>by kernel_rfl,_,Tryz.func176,by kernel_rfl⟩
def q5o:FnC:=⟨(oR [oJ 4 0] (.seq (oR [oM 5 1] (.cond (.t 5) (oR [oJ 4 0] .ret) .skip)) (.seq (oR [oM 6 0] (.cond (.t 6) (oR [oJ 4 (-1)] .ret) .skip)) (oR [oJ 4 1] .ret)))),[(.tmp 4)],2,[]⟩
theorem ok_ref08_order:FnOk Tryz.prog 178 q5o:=⟨fun xs w=>by kernel_rfl,_,Tryz.func178,by kernel_rfl⟩
def q3A:FnC:=⟨(.seq (.reg [oS 2 (.mv (.c (.int .u64 0)))]) (.seq (oR [oM 3 0,oC 4 .geq 3 0] (.cond (.t 4) (.seq (.reg [oM 5 0,oS 6 (.conv (.some .u64) (.t 5)),oS 7 (.bin .mul false (.c (.int .u64 2)) (.t 6)),oM 2 7]) .ret) .skip)) (.seq (.reg [oM 8 0,oC 9 .add 8 1,oS 10 (.un .neg (.t 9)),oS 11 (.conv (.some .u64) (.t 10)),oS 12 (.bin .mul false (.c (.int .u64 2)) (.t 11)),oS 13 (.bin .add false (.t 12) (.c (.int .u64 1))),oM 2 13]) .ret))),[(.tmp 2)],1,[]⟩
theorem ok_ref03_Zigzag:FnOk Tryz.prog 179 q3A:=⟨fun xs w=>by kernel_rfl,_,Tryz.func179,by kernel_rfl⟩
def q0c:FnC:=⟨(oR [oQ 1 10 0,oZ 2 false] (.seq (.seq (.reg [oF 3 0 1,oL 4 3,oC 5 .lss 4 1,oM 6 5,oG 7 (.faddr 0 (.t 1)) 6 false,oP 8 7 6 false,oG 9 (.bin .gtr false (.t 8) (.c (.int .i64 9))) 6 false,oS 10 (.pick (.t 6) (.c (.bool true)) (.t 9)),oM 11 10,oG 12 (.load .any true 10 (.t 1)) 11 false,oG 13 (.load .any true 10 (.t 1)) 11 false,oG 14 (.call .any 209 [(.t 13)]) 11 false,oG 15 (.call .any 208 [(.t 12),(.t 14)]) 11 false,oG 16 (.un .not (.t 15)) 11 false,oS 17 (.pick (.t 11) (.c (.bool true)) (.t 16)),oM 18 17,oG 19 (.faddr 0 (.t 1)) 18 false,oP 20 19 18 false,oG 21 (.call .any 88 [(.t 20)]) 18 false,oG 22 (.mv (.t 21)) 18 false,oG 23 (.faddr 1 (.t 1)) 22 true,oP 24 23 22 true,oG 25 (.call .any 210 [(.t 24)]) 22 true,oG 26 (.un .not (.t 25)) 22 true,oG 27 (.pick (.t 22) (.t 26) (.c (.bool false))) 18 false,oS 28 (.pick (.t 18) (.c (.bool true)) (.t 27))]) (.cond (.t 28) (oR [oZ 2 false] .ret) .skip)) (.seq (oR [oF 29 0 1,oL 30 29] (.block 0 (oR [oC 32 .eql 30 2,oM 31 32] (.cond (.t 31) (oR [oF 33 2 1,oL 34 33,oF 35 3 1,oL 36 35,oB 37 .leq 34 36,oM 2 37] .ret) (oR [oC 39 .eql 30 3,oM 38 39] (.cond (.t 38) (.seq (.reg [oF 40 4 1,oL 41 40,oC 42 .geq 41 0,oM 43 42,oG 44 (.faddr 4 (.t 1)) 43 true,oP 45 44 43 true,oG 46 (.bin .leq false (.t 45) (.c (.int .i64 200))) 43 true,oS 47 (.pick (.t 43) (.t 46) (.c (.bool false))),oM 2 47]) .ret) (oR [oC 49 .eql 30 4,oM 48 49] (.cond (.t 48) (.seq (.reg [oF 50 5 1,oL 51 50,oS 52 (.call .any 211 [(.t 51)]),oM 2 52]) .ret) (.seq (oR [oC 54 .eql 30 5,oM 53 54] (.cond (.t 53) .skip (.reg [oC 55 .eql 30 6,oM 53 55]))) (.cond (.t 53) (.seq (.reg [oF 56 6 1,oL 57 56,oF 58 0 1,oL 59 58,oC 60 .eql 59 5,oS 61 (.call .any 212 [(.t 57),(.t 60)]),oM 2 61]) .ret) (.seq (oR [oC 63 .eql 30 7,oM 62 63] (.cond (.t 62) .skip (.reg [oC 64 .eql 30 8,oM 62 64]))) (.cond (.t 62) (.seq (.reg [oF 65 4 1,oL 66 65,oC 67 .geq 66 0,oM 68 67,oG 69 (.faddr 4 (.t 1)) 68 true,oP 70 69 68 true,oG 71 (.bin .leq false (.t 70) (.c (.int .i64 50))) 68 true,oS 72 (.pick (.t 68) (.t 71) (.c (.bool false))),oM 2 72]) .ret) .skip)))))))))))) (oR [oZ 2 true] .ret)))),[(.tmp 2)],1,[]⟩
theorem ok_ref07_own:FnOk Tryz.prog 180 q0c:=⟨fun xs w=>by kernel_rfl,_,Tryz.func180,by kernel_rfl⟩
def q3c:C:=.seq (oR [oM 5 4,oF 6 6 1,oL 7 6,oH 8 7,oB 9 .lss 5 8] (.cond (.t 9) .skip (.exit 0))) (.seq (.block 1 (.reg [oM 12 3,oF 13 6 1,oL 14 13,oM 15 4,oI 16 13 14 15,oF 17 2 16,oL 18 17,oS 19 (.bsl [(.int .i64 0)] 1 [(0,(.t 18))]),oS 20 (.app .any 3 1 8 (.t 12) (.t 19)),oM 3 20])) (.reg [oM 10 4,oC 11 .add 10 1,oM 4 11]))
def q67:FnC:=⟨(.seq (.reg [oQ 1 10 0,oS 2 (.mv (.c (.sl true [])))]) (.seq (.reg [oS 3 (.mv (.c (.sl true [])))]) (.seq (oR [oJ 4 0] (.block 0 (.loop q3c))) (.seq (oR [oF 21 0 1,oL 22 21,oC 23 .eql 22 8] (.cond (.t 23) (.reg [oM 24 3,oF 25 7 1,oL 26 25,oS 27 (.bsl [(.int .i64 0)] 1 [(0,(.t 26))]),oS 28 (.app .any 3 1 8 (.t 24) (.t 27)),oM 3 28]) .skip)) (.seq (.seq (.reg [oF 29 0 1,oL 30 29,oC 31 .eql 30 7,oM 32 31,oG 33 (.faddr 0 (.t 1)) 32 false,oP 34 33 32 false,oG 35 (.bin .eql false (.t 34) (.c (.int .i64 8))) 32 false,oS 36 (.pick (.t 32) (.c (.bool true)) (.t 35)),oM 37 36,oG 38 (.faddr 0 (.t 1)) 37 false,oP 39 38 37 false,oG 40 (.bin .eql false (.t 39) (.c (.int .i64 9))) 37 false,oS 41 (.pick (.t 37) (.c (.bool true)) (.t 40))]) (.cond (.t 41) (.reg [oM 42 3,oF 43 8 1,oL 44 43,oS 45 (.bsl [(.int .i64 0)] 1 [(0,(.t 44))]),oS 46 (.app .any 3 1 8 (.t 42) (.t 45)),oM 3 46]) .skip)) (oR [oM 47 3,oM 2 47] .ret)))))),[(.tmp 2)],1,[]⟩
theorem ok_ref07_uses:FnOk Tryz.prog 181 q67:=⟨fun xs w=>by kernel_rfl,_,Tryz.func181,by kernel_rfl⟩
def q02:FnC:=⟨(oR [oQ 1 8 0,oZ 2 false] (oR [oF 4 0 1,oL 5 4,oM 3 5] (.seq (.reg [oM 6 3,oC 7 .eql 6 1,oM 8 7,oG 9 (.faddr 1 (.t 1)) 8 false,oP 10 9 8 false,oG 11 (.un .not (.t 10)) 8 false,oS 12 (.pick (.t 8) (.c (.bool true)) (.t 11)),oM 13 12,oG 14 (.mv (.t 3)) 13 true,oG 15 (.bin .eql false (.t 14) (.c (.int .i64 2))) 13 true,oG 16 (.mv (.t 15)) 13 true,oG 17 (.faddr 2 (.t 1)) 16 false,oP 18 17 16 false,oG 19 (.bin .eql false (.t 18) (.c (.int .i64 0))) 16 false,oG 20 (.pick (.t 16) (.c (.bool true)) (.t 19)) 13 true,oS 21 (.pick (.t 13) (.t 20) (.c (.bool false))),oM 22 21,oG 23 (.mv (.t 3)) 22 true,oG 24 (.bin .eql false (.t 23) (.c (.int .i64 3))) 22 true,oG 25 (.mv (.t 24)) 22 true,oG 26 (.faddr 3 (.t 1)) 25 false,oP 27 26 25 false,oG 28 (.bin .eql false (.t 27) (.c (.str (ByteArray.mk #[])))) 25 false,oG 29 (.pick (.t 25) (.c (.bool true)) (.t 28)) 22 true,oS 30 (.pick (.t 22) (.t 29) (.c (.bool false))),oM 31 30,oG 32 (.mv (.t 3)) 31 true,oG 33 (.bin .eql false (.t 32) (.c (.int .i64 4))) 31 true,oG 34 (.mv (.t 33)) 31 true,oG 35 (.mv (.t 3)) 34 false,oG 36 (.bin .eql false (.t 35) (.c (.int .i64 6))) 34 false,oG 37 (.pick (.t 34) (.c (.bool true)) (.t 36)) 31 true,oG 38 (.mv (.t 37)) 31 true,oG 39 (.faddr 4 (.t 1)) 38 false,oP 40 39 38 false,oG 41 (.bin .eql false (.t 40) (.c (.int .i64 0))) 38 false,oG 42 (.pick (.t 38) (.c (.bool true)) (.t 41)) 31 true,oS 43 (.pick (.t 31) (.t 42) (.c (.bool false))),oM 44 43,oG 45 (.mv (.t 3)) 44 true,oG 46 (.bin .eql false (.t 45) (.c (.int .i64 8))) 44 true,oG 47 (.mv (.t 46)) 44 true,oG 48 (.faddr 5 (.t 1)) 47 false,oP 49 48 47 false,oG 50 (.len false (.t 49)) 47 false,oG 51 (.bin .eql false (.t 50) (.c (.int .i64 0))) 47 false,oG 52 (.pick (.t 47) (.c (.bool true)) (.t 51)) 44 true,oS 53 (.pick (.t 44) (.t 52) (.c (.bool false))),oM 54 53,oG 55 (.mv (.t 3)) 54 true,oG 56 (.bin .geq false (.t 55) (.c (.int .i64 5))) 54 true,oG 57 (.mv (.t 56)) 54 true,oG 58 (.faddr 6 (.t 1)) 57 false,oP 59 58 57 false,oG 60 (.len false (.t 59)) 57 false,oG 61 (.bin .eql false (.t 60) (.c (.int .i64 0))) 57 false,oG 62 (.pick (.t 57) (.c (.bool true)) (.t 61)) 54 true,oS 63 (.pick (.t 54) (.t 62) (.c (.bool false))),oM 64 63,oG 65 (.mv (.t 3)) 64 true,oG 66 (.bin .eql false (.t 65) (.c (.int .i64 5))) 64 true,oG 67 (.mv (.t 66)) 64 true,oG 68 (.mv (.t 3)) 67 false,oG 69 (.bin .eql false (.t 68) (.c (.int .i64 6))) 67 false,oG 70 (.pick (.t 67) (.c (.bool true)) (.t 69)) 64 true,oG 71 (.mv (.t 70)) 64 true,oG 72 (.faddr 7 (.t 1)) 71 false,oP 73 72 71 false,oG 74 (.len false (.t 73)) 71 false,oG 75 (.bin .eql false (.t 74) (.c (.int .i64 0))) 71 false,oG 76 (.pick (.t 71) (.c (.bool true)) (.t 75)) 64 true,oS 77 (.pick (.t 64) (.t 76) (.c (.bool false))),oM 2 77]) .ret))),[(.tmp 2)],1,[]⟩
theorem ok_ref08_zero:FnOk Tryz.prog 182 q02:=⟨fun xs w=>by kernel_rfl,_,Tryz.func182,by kernel_rfl⟩
noncomputable def c_ref08_id:FnC:=cF [] Tryz.f183
theorem ok_ref08_id:FnOk Tryz.prog 183 c_ref08_id:=⟨fun xs w=>by kernel_rfl,_,Tryz.func183,by kernel_rfl⟩
def q7B:C:=.seq (oR [oM 8 5,oM 9 1,oH 10 9,oB 11 .lss 8 10] (.cond (.t 11) .skip (.exit 0))) (.seq (.block 1 (.seq (.reg [oA 15 10 2,oM 16 1,oM 17 5,oI 18 2 16 17,oF 19 0 18,oL 20 19,oS 21 (.call .any 99 [(.t 15),(.t 20)]),oM 14 21,oX 22 14 0,oX 23 14 1,oM 6 22,oM 7 23]) (.seq (.reg [oM 24 1,oM 25 5,oI 26 2 24 25,oF 27 0 26,oL 28 27,oM 29 7,oS 30 (.call .any 183 [(.t 28),(.t 29)]),oU 31 30,oM 32 31,oG 33 (.mv (.t 5)) 32 false,oG 34 (.bin .gtr false (.t 33) (.c (.int .i64 0))) 32 false,oG 35 (.mv (.t 34)) 32 false,oG 36 (.mv (.t 1)) 35 true,oG 37 (.mv (.t 5)) 35 true,oG 38 (.iaddr 2 (.t 36) (.t 37)) 35 true,oG 39 (.faddr 0 (.t 38)) 35 true,oP 40 39 35 true,oG 41 (.mv (.t 1)) 35 true,oG 42 (.mv (.t 5)) 35 true,oG 43 (.bin .sub false (.t 42) (.c (.int .i64 1))) 35 true,oG 44 (.iaddr 2 (.t 41) (.t 43)) 35 true,oG 45 (.faddr 0 (.t 44)) 35 true,oP 46 45 35 true,oG 47 (.bin .leq false (.t 40) (.t 46)) 35 true,oG 48 (.pick (.t 35) (.t 47) (.c (.bool false))) 32 false,oS 49 (.pick (.t 32) (.c (.bool true)) (.t 48))]) (.cond (.t 49) (oR [oZ 4 false] .ret) .skip)))) (.reg [oM 12 5,oC 13 .add 12 1,oM 5 13]))
def q68:FnC:=⟨(oR [oQ 2 10 0,oZ 4 false] (.seq (oR [oJ 5 0] (.block 0 (.loop q7B))) (oR [oZ 4 true] .ret))),[(.tmp 4)],2,[]⟩
theorem ok_ref08_rest:FnOk Tryz.prog 184 q68:=⟨fun xs w=>by kernel_rfl,_,Tryz.func184,by kernel_rfl⟩
def q4G:C:=.seq (oR [oM 10 9,oM 11 2,oH 12 11,oB 13 .lss 10 12] (.cond (.t 13) .skip (.exit 0))) (.seq (.block 1 (.seq (.reg [oA 16 1 4,oM 17 1,oM 18 2,oM 19 9,oI 20 8 18 19,oA 21 8 20,oM 22 3,oS 23 (.call .any 151 [(.t 16),(.t 17),(.t 21),(.t 22)]),oU 24 23]) (.cond (.t 24) (oR [oZ 8 false] .ret) .skip))) (.reg [oM 14 9,oC 15 .add 14 1,oM 9 15]))
def q6Y:FnC:=⟨(oR [oQ 4 1 0,oZ 8 false] (.seq (oR [oJ 9 0] (.block 0 (.loop q4G))) (oR [oZ 8 true] .ret))),[(.tmp 8)],4,[]⟩
theorem ok_ref08_all:FnOk Tryz.prog 185 q6Y:=⟨fun xs w=>by kernel_rfl,_,Tryz.func185,by kernel_rfl⟩
noncomputable def c_ref03_Big:FnC:=cF [] Tryz.f186
theorem ok_ref03_Big:FnOk Tryz.prog 186 c_ref03_Big:=⟨fun xs w=>by kernel_rfl,_,Tryz.func186,by kernel_rfl⟩
noncomputable def c_ref03_Put:FnC:=cF [] Tryz.f187
theorem ok_ref03_Put:FnOk Tryz.prog 187 c_ref03_Put:=⟨fun xs w=>by kernel_rfl,_,Tryz.func187,by kernel_rfl⟩
noncomputable def qaa:FnC:=cF [] Tryz.f188
theorem ok_ref09_part:FnOk Tryz.prog 188 qaa:=⟨fun xs w=>by kernel_rfl,_,Tryz.func188,by kernel_rfl⟩
def q1v:C:=.seq (oR [oM 48 5,oF 49 7 2,oL 50 49,oH 51 50,oB 52 .lss 48 51] (.cond (.t 52) .skip (.exit 0))) (.seq (.block 1 (.seq (.reg [oF 55 7 2,oL 56 55,oM 57 5,oI 58 2 56 57,oA 59 2 58,oF 60 7 3,oL 61 60,oM 62 5,oI 63 2 61 62,oA 64 2 63,oS 65 (.eqa true [0,1] (.t 59) (.t 64))]) (.cond (.t 65) (oR [oZ 4 false] .ret) .skip))) (.reg [oM 53 5,oC 54 .add 53 1,oM 5 54]))
def q0M:FnC:=⟨(oR [oQ 2 8 0,oQ 3 8 1,oZ 4 false] (.seq (.seq (.reg [oF 6 0 2,oL 7 6,oF 8 0 3,oL 9 8,oB 10 .neq 7 9,oM 11 10,oG 12 (.faddr 1 (.t 2)) 11 false,oP 13 12 11 false,oG 14 (.faddr 1 (.t 3)) 11 false,oP 15 14 11 false,oG 16 (.bin .neq true (.t 13) (.t 15)) 11 false,oS 17 (.pick (.t 11) (.c (.bool true)) (.t 16)),oM 18 17,oG 19 (.faddr 2 (.t 2)) 18 false,oP 20 19 18 false,oG 21 (.faddr 2 (.t 3)) 18 false,oP 22 21 18 false,oG 23 (.bin .neq false (.t 20) (.t 22)) 18 false,oS 24 (.pick (.t 18) (.c (.bool true)) (.t 23)),oM 25 24,oG 26 (.faddr 3 (.t 2)) 25 false,oP 27 26 25 false,oG 28 (.faddr 3 (.t 3)) 25 false,oP 29 28 25 false,oG 30 (.bin .neq false (.t 27) (.t 29)) 25 false,oS 31 (.pick (.t 25) (.c (.bool true)) (.t 30)),oM 32 31,oG 33 (.faddr 4 (.t 2)) 32 false,oP 34 33 32 false,oG 35 (.faddr 4 (.t 3)) 32 false,oP 36 35 32 false,oG 37 (.bin .neq false (.t 34) (.t 36)) 32 false,oS 38 (.pick (.t 32) (.c (.bool true)) (.t 37)),oM 39 38,oG 40 (.faddr 7 (.t 2)) 39 false,oP 41 40 39 false,oG 42 (.len false (.t 41)) 39 false,oG 43 (.faddr 7 (.t 3)) 39 false,oP 44 43 39 false,oG 45 (.len false (.t 44)) 39 false,oG 46 (.bin .neq false (.t 42) (.t 45)) 39 false,oS 47 (.pick (.t 39) (.c (.bool true)) (.t 46))]) (.cond (.t 47) (oR [oZ 4 false] .ret) .skip)) (.seq (oR [oJ 5 0] (.block 0 (.loop q1v))) (.seq (.reg [oF 66 5 2,oL 67 66,oF 68 5 3,oL 69 68,oS 70 (.call .any 213 [(.t 67),(.t 69)]),oM 71 70,oG 72 (.faddr 6 (.t 2)) 71 true,oP 73 72 71 true,oG 74 (.faddr 6 (.t 3)) 71 true,oP 75 74 71 true,oG 76 (.call .any 213 [(.t 73),(.t 75)]) 71 true,oS 77 (.pick (.t 71) (.t 76) (.c (.bool false))),oM 4 77]) .ret)))),[(.tmp 4)],2,[]⟩
theorem q9h:FnOk Tryz.prog 189 q0M:=⟨fun xs w=>by kernel_rfl,_,Tryz.func189,by kernel_rfl⟩
noncomputable def q8X:FnC:=cF [] Tryz.f190
theorem ok_ref09_field:FnOk Tryz.prog 190 q8X:=⟨fun xs w=>by kernel_rfl,_,Tryz.func190,by kernel_rfl⟩
def q5m:FnC:=⟨(oR [oQ 2 8 0,oQ 3 8 1,oZ 4 false] (.seq (.reg [oA 5 8 2,oA 6 8 3,oS 7 (.call .any 189 [(.t 5),(.t 6)]),oM 4 7]) .ret)),[(.tmp 4)],2,[]⟩
theorem ok_ref08_Equal:FnOk Tryz.prog 191 q5m:=⟨fun xs w=>by kernel_rfl,_,Tryz.func191,by kernel_rfl⟩
def q0X:C:=oR [oB 9 .lss 8 7] (.seq (.cond (.t 9) .skip (.exit 0)) (.seq (.block 1 (oR [oM 10 8,oM 5 10] (.seq (.reg [oM 11 1,oM 12 0,oM 13 5,oI 14 2 12 13,oA 15 2 14,oS 16 (.callv .any (.t 11) [(.t 15)])]) (.cond (.t 16) (oR [oM 17 5,oM 4 17] .ret) .skip)))) (.reg [oC 18 .add 8 1,oM 8 18])))
def q1e:FnC:=⟨(oR [oJ 4 0] (.seq (oR [oM 6 0,oH 7 6,oJ 8 0] (.block 0 (.loop q0X))) (oR [oJ 4 (-1)] .ret))),[(.tmp 4)],2,[]⟩
theorem q50:FnOk Tryz.prog 192 q1e:=⟨fun xs w=>by kernel_rfl,_,Tryz.func192,by kernel_rfl⟩
def q35:FnC:=⟨(oR [oQ 2 2 0,oZ 3 false] (oR [oF 4 0 2,oL 5 4,oL 6 1,oB 7 .eql 5 6,oM 3 7] .ret)),[(.tmp 3)],2,[]⟩
theorem q8E:FnOk Tryz.prog 193 q35:=⟨fun xs w=>by kernel_rfl,_,Tryz.func193,by kernel_rfl⟩
def q46:FnC:=⟨(oR [oQ 5 1 0,oQ 7 8 2,oQ 8 1 3,oJ 10 0] (.seq (.seq (.reg [oA 13 1 5,oM 14 1,oS 15 (.call .any 214 [(.t 13),(.t 14)]),oM 11 15]) (oR [oM 16 11,oC 17 .neq 16 0] (.cond (.t 17) (oR [oM 18 11,oM 10 18] .ret) .skip))) (.seq (.seq (.reg [oA 19 1 8,oM 20 4,oS 21 (.call .any 214 [(.t 19),(.t 20)]),oM 12 21]) (oR [oM 22 12,oC 23 .neq 22 0] (.cond (.t 23) (oR [oM 24 12,oM 10 24] .ret) .skip))) (.seq (.seq (.reg [oA 25 1 5,oM 26 1,oA 27 8 7,oS 28 (.call .any 215 [(.t 25),(.t 26),(.t 27)]),oU 29 28]) (.cond (.t 29) (oR [oJ 10 1] .ret) .skip)) (oR [oJ 10 0] .ret))))),[(.tmp 10)],5,[]⟩
theorem qaG:FnOk Tryz.prog 194 q46:=⟨fun xs w=>by kernel_rfl,_,Tryz.func194,by kernel_rfl⟩
def q0j:FnC:=⟨(oR [oQ 6 8 2,oY 8 zza,oZ 9 false] (.seq (.reg [oM 16 0,oK 17 16,oF 18 0 17,oF 19 0 18,oS 20 (.load (.root 0) false 1 (.t 19)),oM 21 1,oI 22 10 20 21,oS 23 (.load .imm true 10 (.t 22)),oM 24 0,oK 25 24,oF 26 1 25,oF 27 0 26,oS 28 (.load (.root 0) false 1 (.t 27)),oM 29 3,oI 30 10 28 29,oS 31 (.load .imm true 10 (.t 30)),oY 10 zze,oY 11 zze,oN (.store (.root 10) true 10 (.t 10) (.t 23)),oN (.store (.root 11) true 10 (.t 11) (.t 31))]) (.seq (oR [oF 32 0 10,oL 33 32,oF 34 0 11,oL 35 34,oB 36 .neq 33 35] (.cond (.t 36) (.seq (.reg [oM 37 0,oS 38 (.callr .any 216 [(.t 37)]),oX 39 38 0,oX 40 38 1,oV 8 8 39,oM 9 40]) .ret) .skip)) (.seq (.reg [oF 41 0 6,oL 42 41,oF 43 1 6,oL 44 43,oF 45 2 6,oL 46 45,oF 47 3 6,oL 48 47,oF 49 4 6,oL 50 49,oS 51 (.build zza [(0,(1,(.t 42))),(1,(1,(.t 44))),(2,(1,(.t 46))),(3,(1,(.t 48))),(4,(1,(.t 50)))]),oY 12 zza,oV 8 12 51]) (oR [oZ 13 true] (.seq (oR [oF 52 0 10,oL 53 52] (.block 0 (oR [oC 55 .eql 53 2,oM 54 55] (.cond (.t 54) (.reg [oF 56 2 6,oL 57 56,oF 58 2 11,oL 59 58,oB 60 .geq 57 59,oM 61 60,oG 62 (.faddr 2 (.t 6)) 61 true,oP 63 62 61 true,oG 64 (.faddr 3 (.t 11)) 61 true,oP 65 64 61 true,oG 66 (.bin .leq false (.t 63) (.t 65)) 61 true,oS 67 (.pick (.t 61) (.t 66) (.c (.bool false))),oM 13 67]) (oR [oC 69 .eql 53 3,oM 68 69] (.cond (.t 68) (.reg [oF 70 3 6,oL 71 70,oS 72 (.len true (.t 71)),oF 73 4 11,oL 74 73,oB 75 .leq 72 74,oM 13 75]) (oR [oC 77 .eql 53 4,oM 76 77] (.cond (.t 76) (.seq (.reg [oA 79 10 11,oF 80 4 6,oL 81 80,oS 82 (.call .any 154 [(.t 79),(.t 81)]),oM 78 82,oX 83 78 0,oX 84 78 1,oM 14 83,oM 15 84]) (.reg [oM 85 15,oM 86 85,oG 87 (.faddr 9 (.t 11)) 86 false,oP 88 87 86 false,oS 89 (.pick (.t 86) (.c (.bool true)) (.t 88)),oM 13 89])) (.seq (oR [oC 91 .eql 53 7,oM 90 91] (.cond (.t 90) .skip (.reg [oC 92 .eql 53 8,oM 90 92]))) (.cond (.t 90) (.reg [oF 93 6 6,oL 94 93,oH 95 94,oF 96 4 11,oL 97 96,oB 98 .leq 95 97,oM 13 98]) .skip)))))))))) (.seq (oR [oM 99 13,oU 100 99] (.cond (.t 100) (.seq (.reg [oM 101 0,oS 102 (.callr .any 216 [(.t 101)]),oX 103 102 0,oX 104 102 1,oV 8 8 103,oM 9 104]) .ret) .skip)) (.seq (oR [oF 105 0 10,oL 106 105] (.block 1 (oR [oC 108 .eql 106 5,oM 107 108] (.cond (.t 107) (.seq (.reg [oM 109 0,oA 110 10 10,oA 111 8 6,oA 112 10 11,oS 113 (.callr .any 217 [(.t 109),(.t 110),(.t 111),(.t 112)]),oX 114 113 0,oX 115 113 1,oV 8 8 114,oM 9 115]) .ret) (oR [oC 117 .eql 106 6,oM 116 117] (.cond (.t 116) (.seq (.reg [oM 118 0,oA 119 10 10,oA 120 8 6,oA 121 10 11,oS 122 (.callr .any 218 [(.t 118),(.t 119),(.t 120),(.t 121)]),oX 123 122 0,oX 124 122 1,oV 8 8 123,oM 9 124]) .ret) (oR [oC 126 .eql 106 8,oM 125 126] (.cond (.t 125) (.seq (.reg [oM 128 0,oF 129 7 10,oL 130 129,oF 131 5 6,oL 132 131,oF 133 7 11,oL 134 133,oS 135 (.callr .any 219 [(.t 128),(.t 130),(.t 132),(.t 134)]),oM 127 135,oX 136 127 0,oX 137 127 1,oF 138 5 12,oW 138 136,oM 13 137]) (oR [oM 139 13,oU 140 139] (.cond (.t 140) (.seq (.reg [oS 141 (.build zza []),oV 8 8 141,oZ 9 false]) .ret) .skip))) .skip)))))))) (.seq (.seq (.reg [oM 143 0,oF 144 8 10,oL 145 144,oF 146 6 6,oL 147 146,oF 148 8 11,oL 149 148,oS 150 (.callr .any 219 [(.t 143),(.t 145),(.t 147),(.t 149)]),oM 142 150,oX 151 142 0,oX 152 142 1,oF 153 6 12,oW 153 151,oM 13 152]) (oR [oM 154 13,oU 155 154] (.cond (.t 155) (.seq (.reg [oS 156 (.build zza []),oV 8 8 156,oZ 9 false]) .ret) .skip))) (oR [oA 157 8 12,oV 8 8 157,oZ 9 true] .ret)))))))))),[(.cell 8 true 8),(.tmp 9)],4,[3000000,77,205,227,245,271,301]⟩
theorem q8f:FnOk Tryz.prog 195 q0j:=⟨fun xs w=>by kernel_rfl,_,Tryz.func195,by kernel_rfl⟩
def q0O:C:=oR [oB 14 .lss 13 12] (.seq (.cond (.t 14) .skip (.exit 0)) (.seq (.block 1 (oR [oM 15 13,oM 5 15] (.seq (.reg [oM 16 0,oM 17 5,oI 18 2 16 17,oA 19 2 18,oM 20 1,oM 21 5,oI 22 2 20 21,oA 23 2 22,oS 24 (.eqa true [0,1] (.t 19) (.t 23))]) (.cond (.t 24) (oR [oZ 4 false] .ret) .skip)))) (.reg [oC 25 .add 13 1,oM 13 25])))
def q1A:FnC:=⟨(oR [oZ 4 false] (.seq (oR [oM 6 0,oH 7 6,oM 8 1,oH 9 8,oB 10 .neq 7 9] (.cond (.t 10) (oR [oZ 4 false] .ret) .skip)) (.seq (oR [oM 11 0,oH 12 11,oJ 13 0] (.block 0 (.loop q0O))) (oR [oZ 4 true] .ret)))),[(.tmp 4)],2,[]⟩
theorem q77:FnOk Tryz.prog 196 q1A:=⟨fun xs w=>by kernel_rfl,_,Tryz.func196,by kernel_rfl⟩
def q0H:C:=oR [oB 18 .lss 17 16] (.seq (.cond (.t 18) .skip (.exit 0)) (.seq (.block 1 (oR [oM 19 17,oI 20 8 15 17,oA 21 8 20,oY 8 zza,oM 7 19,oV 8 8 21] (oR [oM 22 1,oM 23 7,oI 24 8 22 23,oA 25 8 24,oY 9 zza,oV 8 9 25] (.seq (.reg [oM 26 2,oA 27 8 8,oA 28 8 9,oS 29 (.callv .any (.t 26) [(.t 27),(.t 28)]),oU 30 29]) (.cond (.t 30) (oR [oZ 6 false] .ret) .skip))))) (.reg [oC 31 .add 17 1,oM 17 31])))
def q0S:FnC:=⟨(oR [oZ 6 false] (.seq (oR [oM 10 0,oH 11 10,oM 12 1,oH 13 12,oB 14 .neq 11 13] (.cond (.t 14) (oR [oZ 6 false] .ret) .skip)) (.seq (oR [oM 15 0,oH 16 15,oJ 17 0] (.block 0 (.loop q0H))) (oR [oZ 6 true] .ret)))),[(.tmp 6)],3,[]⟩
theorem q5a:FnOk Tryz.prog 197 q0S:=⟨fun xs w=>by kernel_rfl,_,Tryz.func197,by kernel_rfl⟩
def q1D:C:=oR [oB 41 .lss 40 39] (.seq (.cond (.t 41) .skip (.exit 2)) (.seq (.block 3 (oR [oI 42 1 38 40,oL 43 42,oM 7 43] (.seq (.reg [oM 44 7,oC 45 .lss 44 0,oM 46 45,oG 47 (.mv (.t 7)) 46 false,oG 48 (.faddr 0 (.t 1)) 46 false,oP 49 48 46 false,oG 50 (.len false (.t 49)) 46 false,oG 51 (.bin .geq false (.t 47) (.t 50)) 46 false,oS 52 (.pick (.t 46) (.c (.bool true)) (.t 51))]) (.cond (.t 52) (oR [oJ 2 4] .ret) .skip)))) (.reg [oC 53 .add 40 1,oM 40 53])))
def q0F:C:=oR [oB 17 .lss 16 15] (.seq (.cond (.t 17) .skip (.exit 0)) (.seq (.block 1 (oR [oI 18 10 14 16,oA 19 10 18,oY 5 zze,oV 10 5 19] (.seq (.seq (.reg [oA 20 10 5,oS 21 (.call .any 221 [(.t 20)]),oU 22 21,oM 23 22,oG 24 (.faddr 1 (.t 5)) 23 false,oP 25 24 23 false,oG 26 (.bin .neq false (.t 25) (.c (.str (ByteArray.mk #[])))) 23 false,oG 27 (.mv (.t 26)) 23 false,oG 28 (.mv (.t 3)) 27 true,oG 29 (.faddr 1 (.t 5)) 27 true,oP 30 29 27 true,oG 31 (.mget false .none (.bool false) (.t 28) (.t 30)) 27 true,oG 32 (.pick (.t 27) (.t 31) (.c (.bool false))) 23 false,oS 33 (.pick (.t 23) (.c (.bool true)) (.t 32))]) (.cond (.t 33) (oR [oJ 2 1] .ret) .skip)) (.seq (.reg [oM 34 3,oF 35 1 5,oL 36 35,oN (.mset .none (.t 34) (.t 36) (.c (.bool true)))]) (.seq (.seq (.reg [oA 37 10 5,oS 38 (.call .any 222 [(.t 37)]),oH 39 38,oJ 40 0]) (.block 2 (.loop q1D))) (.seq (.reg [oF 54 0 5,oL 55 54,oC 56 .eql 55 8,oM 57 56,oG 58 (.faddr 0 (.t 1)) 57 true,oP 59 58 57 true,oG 60 (.faddr 7 (.t 5)) 57 true,oP 61 60 57 true,oG 62 (.iaddr 10 (.t 59) (.t 61)) 57 true,oG 63 (.faddr 0 (.t 62)) 57 true,oP 64 63 57 true,oG 65 (.bin .lss false (.t 64) (.c (.int .i64 1))) 57 true,oG 66 (.mv (.t 65)) 57 true,oG 67 (.faddr 0 (.t 1)) 66 false,oP 68 67 66 false,oG 69 (.faddr 7 (.t 5)) 66 false,oP 70 69 66 false,oG 71 (.iaddr 10 (.t 68) (.t 70)) 66 false,oG 72 (.faddr 0 (.t 71)) 66 false,oP 73 72 66 false,oG 74 (.bin .gtr false (.t 73) (.c (.int .i64 4))) 66 false,oG 75 (.pick (.t 66) (.c (.bool true)) (.t 74)) 57 true,oS 76 (.pick (.t 57) (.t 75) (.c (.bool false)))]) (.cond (.t 76) (oR [oJ 2 1] .ret) .skip))))))) (.reg [oC 77 .add 16 1,oM 16 77])))
def q3D:FnC:=⟨(oR [oQ 1 1 0,oJ 2 0] (.seq (oR [oF 8 0 1,oL 9 8,oH 10 9,oC 11 .gtr 10 32] (.cond (.t 11) (oR [oJ 2 3] .ret) .skip)) (.seq (.reg [oS 12 (.mkm),oM 3 12]) (.seq (oR [oF 13 0 1,oL 14 13,oH 15 14,oJ 16 0] (.block 0 (.loop q0F))) (oR [oJ 2 0] .ret))))),[(.tmp 2)],1,[]⟩
theorem ok_schema_Valid:FnOk Tryz.prog 203 q3D:=⟨fun xs w=>by kernel_rfl,_,Tryz.func203,by kernel_rfl⟩
def q1h:C:=oR [oB 27 .lss 26 25] (.seq (.cond (.t 27) .skip (.exit 2)) (.seq (.block 3 (oR [oI 28 13 24 26,oA 29 13 28,oY 9 zzh,oV 13 9 29] (.seq (.reg [oF 30 4 9,oL 31 30,oM 32 31,oG 33 (.load .any true 1 (.t 1)) 32 true,oG 34 (.faddr 2 (.t 9)) 32 true,oP 35 34 32 true,oG 36 (.faddr 5 (.t 9)) 32 true,oG 37 (.load .any true 8 (.t 36)) 32 true,oG 38 (.call .any 215 [(.t 33),(.t 35),(.t 37)]) 32 true,oG 39 (.un .not (.t 38)) 32 true,oS 40 (.pick (.t 32) (.t 39) (.c (.bool false)))]) (.cond (.t 40) (oR [oM 41 6,oF 42 0 9,oL 43 42,oM 2 41,oM 3 43,oJ 4 1] .ret) .skip)))) (.reg [oC 44 .add 26 1,oM 26 44])))
def q3V:C:=oR [oB 19 .lss 18 17] (.seq (.cond (.t 19) .skip (.exit 0)) (.seq (.block 1 (oR [oM 20 18,oI 21 10 16 18,oA 22 10 21,oY 7 zze,oM 6 20,oV 10 7 22] (oR [oF 23 6 7,oL 24 23,oH 25 24,oJ 26 0] (.block 2 (.loop q1h))))) (.reg [oC 45 .add 18 1,oM 18 45])))
def q2V:FnC:=⟨(oR [oQ 1 1 0,oJ 2 0,oJ 3 0,oJ 4 0] (.seq (.seq (.reg [oA 10 1 1,oS 11 (.call .any 203 [(.t 10)]),oM 5 11]) (oR [oM 12 5,oC 13 .neq 12 0] (.cond (.t 13) (oR [oM 14 5,oJ 2 0,oJ 3 0,oM 4 14] .ret) .skip))) (.seq (oR [oF 15 0 1,oL 16 15,oH 17 16,oJ 18 0] (.block 0 (.loop q3V))) (oR [oJ 2 0,oJ 3 0,oJ 4 0] .ret)))),[(.tmp 2),(.tmp 3),(.tmp 4)],1,[]⟩
theorem q9X:FnOk Tryz.prog 204 q2V:=⟨fun xs w=>by kernel_rfl,_,Tryz.func204,by kernel_rfl⟩
def q43:C:=oR [oB 55 .lss 54 53] (.seq (.cond (.t 55) .skip (.exit 3)) (.seq (.block 4 (oR [oI 56 13 52 54,oA 57 13 56,oY 10 zzh,oV 13 10 57] (.reg [oM 58 8,oM 59 1,oF 60 2 10,oL 61 60,oI 62 1 59 61,oL 63 62,oB 64 .add 58 63,oM 8 64]))) (.reg [oC 65 .add 54 1,oM 54 65])))
def q44:C:=oR [oB 36 .lss 35 34] (.seq (.cond (.t 36) .skip (.exit 1)) (.seq (.block 2 (oR [oI 37 13 33 35,oA 38 13 37,oY 7 zzh,oV 13 7 38] (.reg [oM 39 5,oM 40 1,oF 41 2 7,oL 42 41,oI 43 1 40 42,oL 44 43,oB 45 .mul 39 44,oS 46 (.mm false (.c (.int .i64 2)) (.t 45)),oM 5 46]))) (.reg [oC 47 .add 35 1,oM 35 47])))
def q09:FnC:=⟨(oR [oQ 2 10 0,oJ 4 0] (.seq (oR [oF 11 0 2,oL 12 11] (.block 0 (oR [oC 14 .eql 12 2,oM 13 14] (.cond (.t 13) (oR [oF 15 2 2,oL 16 15,oF 17 3 2,oL 18 17,oB 19 .eql 16 18] (.cond (.t 19) (oR [oJ 4 1] .ret) .skip)) (oR [oC 21 .eql 12 3,oM 20 21] (.cond (.t 20) (oR [oF 22 4 2,oL 23 22,oC 24 .eql 23 0] (.cond (.t 24) (oR [oJ 4 1] .ret) .skip)) (oR [oC 26 .eql 12 4,oM 25 26] (.cond (.t 25) (oR [oF 27 5 2,oL 28 27,oH 29 28,oM 4 29] .ret) (oR [oC 31 .eql 12 5,oM 30 31] (.cond (.t 30) (oR [oJ 5 1] (.seq (oR [oF 32 6 2,oL 33 32,oH 34 33,oJ 35 0] (.block 1 (.loop q44))) (oR [oM 48 5,oM 4 48] .ret))) (oR [oC 50 .eql 12 6,oM 49 50] (.cond (.t 49) (oR [oJ 8 0] (.seq (oR [oF 51 6 2,oL 52 51,oH 53 52,oJ 54 0] (.block 3 (.loop q43))) (oR [oM 66 8,oM 4 66] .ret))) (oR [oC 68 .eql 12 7,oM 67 68] (.cond (.t 67) (.seq (.reg [oF 69 4 2,oL 70 69,oC 71 .eql 70 0,oM 72 71,oG 73 (.mv (.t 1)) 72 false,oG 74 (.faddr 8 (.t 2)) 72 false,oP 75 74 72 false,oG 76 (.iaddr 1 (.t 73) (.t 75)) 72 false,oP 77 76 72 false,oG 78 (.bin .eql false (.t 77) (.c (.int .i64 0))) 72 false,oS 79 (.pick (.t 72) (.c (.bool true)) (.t 78))]) (.cond (.t 79) (oR [oJ 4 1] .ret) .skip)) (oR [oC 81 .eql 12 8,oM 80 81] (.cond (.t 80) (.seq (.reg [oF 82 4 2,oL 83 82,oC 84 .eql 83 0,oM 85 84,oG 86 (.mv (.t 1)) 85 false,oG 87 (.faddr 8 (.t 2)) 85 false,oP 88 87 85 false,oG 89 (.iaddr 1 (.t 86) (.t 88)) 85 false,oP 90 89 85 false,oG 91 (.bin .eql false (.t 90) (.c (.int .i64 0))) 85 false,oS 92 (.pick (.t 85) (.c (.bool true)) (.t 91)),oM 93 92,oG 94 (.mv (.t 1)) 93 false,oG 95 (.faddr 7 (.t 2)) 93 false,oP 96 95 93 false,oG 97 (.iaddr 1 (.t 94) (.t 96)) 93 false,oP 98 97 93 false,oG 99 (.bin .eql false (.t 98) (.c (.int .i64 0))) 93 false,oS 100 (.pick (.t 93) (.c (.bool true)) (.t 99))]) (.cond (.t 100) (oR [oJ 4 1] .ret) .skip)) (oR [oC 102 .eql 12 9,oM 101 102] (.cond (.t 101) (.seq (.reg [oM 103 1,oF 104 8 2,oL 105 104,oI 106 1 103 105,oL 107 106,oS 108 (.bin .add false (.c (.int .i64 1)) (.t 107)),oM 4 108]) .ret) .skip)))))))))))))))))) (oR [oJ 4 2] .ret))),[(.tmp 4)],2,[]⟩
theorem qaC:FnOk Tryz.prog 205 q09:=⟨fun xs w=>by kernel_rfl,_,Tryz.func205,by kernel_rfl⟩
def q1g:C:=.seq (oR [oM 27 8,oM 28 7,oH 29 28,oB 30 .lss 27 29] (.cond (.t 30) .skip (.exit 2))) (.seq (.block 3 (.seq (.reg [oM 33 7,oM 34 8,oI 35 13 33 34,oF 36 4 35,oL 37 36,oM 38 37,oG 39 (.load .any true 1 (.t 1)) 38 true,oG 40 (.mv (.t 7)) 38 true,oG 41 (.mv (.t 8)) 38 true,oG 42 (.iaddr 13 (.t 40) (.t 41)) 38 true,oG 43 (.faddr 2 (.t 42)) 38 true,oP 44 43 38 true,oG 45 (.mv (.t 7)) 38 true,oG 46 (.mv (.t 8)) 38 true,oG 47 (.iaddr 13 (.t 45) (.t 46)) 38 true,oG 48 (.faddr 5 (.t 47)) 38 true,oG 49 (.load .any true 8 (.t 48)) 38 true,oG 50 (.call .any 121 [(.t 39),(.t 44),(.t 49)]) 38 true,oG 51 (.un .not (.t 50)) 38 true,oS 52 (.pick (.t 38) (.t 51) (.c (.bool false)))]) (.cond (.t 52) (oR [oM 53 6,oM 54 7,oM 55 8,oI 56 13 54 55,oF 57 0 56,oL 58 57,oM 2 53,oM 3 58,oJ 4 1] .ret) .skip))) (.reg [oM 31 8,oC 32 .add 31 1,oM 8 32]))
def q3T:C:=.seq (oR [oM 14 6,oF 15 0 1,oL 16 15,oH 17 16,oB 18 .lss 14 17] (.cond (.t 18) .skip (.exit 0))) (.seq (.block 1 (oR [oF 21 0 1,oL 22 21,oM 23 6,oI 24 10 22 23,oF 25 6 24,oL 26 25,oM 7 26] (oR [oJ 8 0] (.block 2 (.loop q1g))))) (.reg [oM 19 6,oC 20 .add 19 1,oM 6 20]))
def q2S:FnC:=⟨(oR [oQ 1 1 0,oJ 2 0,oJ 3 0,oJ 4 0] (.seq (.seq (.reg [oA 9 1 1,oS 10 (.call .any 150 [(.t 9)]),oM 5 10]) (oR [oM 11 5,oC 12 .neq 11 0] (.cond (.t 12) (oR [oM 13 5,oJ 2 0,oJ 3 0,oM 4 13] .ret) .skip))) (.seq (oR [oJ 6 0] (.block 0 (.loop q3T))) (oR [oJ 2 0,oJ 3 0,oJ 4 0] .ret)))),[(.tmp 2),(.tmp 3),(.tmp 4)],1,[]⟩
theorem q9R:FnOk Tryz.prog 206 q2S:=⟨fun xs w=>by kernel_rfl,_,Tryz.func206,by kernel_rfl⟩
def q53:C:=.seq (oR [oM 53 8,oF 54 6 2,oL 55 54,oH 56 55,oB 57 .lss 53 56] (.cond (.t 57) .skip (.exit 3))) (.seq (.block 4 (.reg [oM 60 7,oM 61 1,oF 62 6 2,oL 63 62,oM 64 8,oI 65 13 63 64,oF 66 2 65,oL 67 66,oI 68 1 61 67,oL 69 68,oB 70 .add 60 69,oS 71 (.mm false (.c (.int .i64 2)) (.t 70)),oM 7 71])) (.reg [oM 58 8,oC 59 .add 58 1,oM 8 59]))
def q54:C:=.seq (oR [oM 31 6,oF 32 6 2,oL 33 32,oH 34 33,oB 35 .lss 31 34] (.cond (.t 35) .skip (.exit 1))) (.seq (.block 2 (.reg [oM 38 5,oM 39 1,oF 40 6 2,oL 41 40,oM 42 6,oI 43 13 41 42,oF 44 2 43,oL 45 44,oI 46 1 39 45,oL 47 46,oB 48 .mul 38 47,oS 49 (.mm false (.c (.int .i64 2)) (.t 48)),oM 5 49])) (.reg [oM 36 6,oC 37 .add 36 1,oM 6 37]))
def q0h:FnC:=⟨(oR [oQ 2 10 0,oJ 4 0] (.seq (oR [oF 9 0 2,oL 10 9] (.block 0 (oR [oC 12 .eql 10 2,oM 11 12] (.cond (.t 11) (oR [oF 13 2 2,oL 14 13,oF 15 3 2,oL 16 15,oB 17 .eql 14 16] (.cond (.t 17) (oR [oJ 4 1] .ret) .skip)) (oR [oC 19 .eql 10 3,oM 18 19] (.cond (.t 18) (oR [oF 20 4 2,oL 21 20,oC 22 .eql 21 0] (.cond (.t 22) (oR [oJ 4 1] .ret) .skip)) (oR [oC 24 .eql 10 4,oM 23 24] (.cond (.t 23) (.seq (.reg [oF 25 5 2,oL 26 25,oH 27 26,oS 28 (.mm false (.c (.int .i64 2)) (.t 27)),oM 4 28]) .ret) (oR [oC 30 .eql 10 5,oM 29 30] (.cond (.t 29) (oR [oJ 5 1] (.seq (oR [oJ 6 0] (.block 1 (.loop q54))) (oR [oM 50 5,oM 4 50] .ret))) (oR [oC 52 .eql 10 6,oM 51 52] (.cond (.t 51) (oR [oJ 7 0] (.seq (oR [oJ 8 0] (.block 3 (.loop q53))) (oR [oM 72 7,oM 4 72] .ret))) (.seq (oR [oC 74 .eql 10 7,oM 73 74] (.cond (.t 73) .skip (.reg [oC 75 .eql 10 8,oM 73 75]))) (.cond (.t 73) (.seq (.reg [oF 76 4 2,oL 77 76,oC 78 .eql 77 0,oM 79 78,oG 80 (.mv (.t 1)) 79 false,oG 81 (.faddr 8 (.t 2)) 79 false,oP 82 81 79 false,oG 83 (.iaddr 1 (.t 80) (.t 82)) 79 false,oP 84 83 79 false,oG 85 (.bin .eql false (.t 84) (.c (.int .i64 0))) 79 false,oS 86 (.pick (.t 79) (.c (.bool true)) (.t 85))]) (.cond (.t 86) (oR [oJ 4 1] .ret) .skip)) (oR [oC 88 .eql 10 9,oM 87 88] (.cond (.t 87) (.seq (.reg [oM 89 1,oF 90 8 2,oL 91 90,oI 92 1 89 91,oL 93 92,oS 94 (.bin .add false (.c (.int .i64 1)) (.t 93)),oS 95 (.mm false (.c (.int .i64 2)) (.t 94)),oM 4 95]) .ret) .skip)))))))))))))))) (oR [oJ 4 2] .ret))),[(.tmp 4)],2,[]⟩
theorem ok_ref11_count:FnOk Tryz.prog 207 q0h:=⟨fun xs w=>by kernel_rfl,_,Tryz.func207,by kernel_rfl⟩
def q28:C:=.seq (oR [oM 97 6,oF 98 6 2,oL 99 98,oH 100 99,oB 101 .lss 97 100] (.cond (.t 101) .skip (.exit 2))) (.seq (.block 3 (.seq (.reg [oF 104 6 2,oL 105 104,oM 106 6,oI 107 13 105 106,oA 108 13 107,oF 109 6 3,oL 110 109,oM 111 6,oI 112 13 110 111,oA 113 13 112,oS 114 (.call .any 223 [(.t 108),(.t 113)]),oU 115 114]) (.cond (.t 115) (oR [oZ 4 false] .ret) .skip))) (.reg [oM 102 6,oC 103 .add 102 1,oM 6 103]))
def q1C:C:=.seq (oR [oM 79 5,oF 80 5 2,oL 81 80,oH 82 81,oB 83 .lss 79 82] (.cond (.t 83) .skip (.exit 0))) (.seq (.block 1 (.seq (.reg [oF 86 5 2,oL 87 86,oM 88 5,oI 89 2 87 88,oA 90 2 89,oF 91 5 3,oL 92 91,oM 93 5,oI 94 2 92 93,oA 95 2 94,oS 96 (.eqa true [0,1] (.t 90) (.t 95))]) (.cond (.t 96) (oR [oZ 4 false] .ret) .skip))) (.reg [oM 84 5,oC 85 .add 84 1,oM 5 85]))
def q0t:FnC:=⟨(oR [oQ 2 10 0,oQ 3 10 1,oZ 4 false] (.seq (.seq (.reg [oF 7 0 2,oL 8 7,oF 9 0 3,oL 10 9,oB 11 .neq 8 10,oM 12 11,oG 13 (.faddr 1 (.t 2)) 12 false,oP 14 13 12 false,oG 15 (.faddr 1 (.t 3)) 12 false,oP 16 15 12 false,oG 17 (.bin .neq false (.t 14) (.t 16)) 12 false,oS 18 (.pick (.t 12) (.c (.bool true)) (.t 17)),oM 19 18,oG 20 (.faddr 2 (.t 2)) 19 false,oP 21 20 19 false,oG 22 (.faddr 2 (.t 3)) 19 false,oP 23 22 19 false,oG 24 (.bin .neq false (.t 21) (.t 23)) 19 false,oS 25 (.pick (.t 19) (.c (.bool true)) (.t 24)),oM 26 25,oG 27 (.faddr 3 (.t 2)) 26 false,oP 28 27 26 false,oG 29 (.faddr 3 (.t 3)) 26 false,oP 30 29 26 false,oG 31 (.bin .neq false (.t 28) (.t 30)) 26 false,oS 32 (.pick (.t 26) (.c (.bool true)) (.t 31)),oM 33 32,oG 34 (.faddr 4 (.t 2)) 33 false,oP 35 34 33 false,oG 36 (.faddr 4 (.t 3)) 33 false,oP 37 36 33 false,oG 38 (.bin .neq false (.t 35) (.t 37)) 33 false,oS 39 (.pick (.t 33) (.c (.bool true)) (.t 38)),oM 40 39,oG 41 (.faddr 7 (.t 2)) 40 false,oP 42 41 40 false,oG 43 (.faddr 7 (.t 3)) 40 false,oP 44 43 40 false,oG 45 (.bin .neq false (.t 42) (.t 44)) 40 false,oS 46 (.pick (.t 40) (.c (.bool true)) (.t 45)),oM 47 46,oG 48 (.faddr 8 (.t 2)) 47 false,oP 49 48 47 false,oG 50 (.faddr 8 (.t 3)) 47 false,oP 51 50 47 false,oG 52 (.bin .neq false (.t 49) (.t 51)) 47 false,oS 53 (.pick (.t 47) (.c (.bool true)) (.t 52)),oM 54 53,oG 55 (.faddr 9 (.t 2)) 54 false,oP 56 55 54 false,oG 57 (.faddr 9 (.t 3)) 54 false,oP 58 57 54 false,oG 59 (.bin .neq true (.t 56) (.t 58)) 54 false,oS 60 (.pick (.t 54) (.c (.bool true)) (.t 59)),oM 61 60,oG 62 (.faddr 5 (.t 2)) 61 false,oP 63 62 61 false,oG 64 (.len false (.t 63)) 61 false,oG 65 (.faddr 5 (.t 3)) 61 false,oP 66 65 61 false,oG 67 (.len false (.t 66)) 61 false,oG 68 (.bin .neq false (.t 64) (.t 67)) 61 false,oS 69 (.pick (.t 61) (.c (.bool true)) (.t 68)),oM 70 69,oG 71 (.faddr 6 (.t 2)) 70 false,oP 72 71 70 false,oG 73 (.len false (.t 72)) 70 false,oG 74 (.faddr 6 (.t 3)) 70 false,oP 75 74 70 false,oG 76 (.len false (.t 75)) 70 false,oG 77 (.bin .neq false (.t 73) (.t 76)) 70 false,oS 78 (.pick (.t 70) (.c (.bool true)) (.t 77))]) (.cond (.t 78) (oR [oZ 4 false] .ret) .skip)) (.seq (oR [oJ 5 0] (.block 0 (.loop q1C))) (.seq (oR [oJ 6 0] (.block 2 (.loop q28))) (oR [oZ 4 true] .ret))))),[(.tmp 4)],2,[]⟩
theorem q9Q:FnOk Tryz.prog 208 q0t:=⟨fun xs w=>by kernel_rfl,_,Tryz.func208,by kernel_rfl⟩
def q4b:FnC:=⟨(oR [oQ 1 10 0,oY 2 zze] (.seq (oR [oF 3 0 1,oL 4 3] (.block 0 (oR [oC 6 .eql 4 1,oM 5 6] (.cond (.t 5) (.seq (.reg [oF 7 0 1,oL 8 7,oS 9 (.build zze [(0,(1,(.t 8)))]),oV 10 2 9]) .ret) (oR [oC 11 .eql 4 2,oM 10 11] (.cond (.t 10) (.seq (.reg [oF 12 0 1,oL 13 12,oF 14 2 1,oL 15 14,oF 16 3 1,oL 17 16,oS 18 (.build zze [(0,(1,(.t 13))),(2,(1,(.t 15))),(3,(1,(.t 17)))]),oV 10 2 18]) .ret) (oR [oC 20 .eql 4 3,oM 19 20] (.cond (.t 19) (.seq (.reg [oF 21 0 1,oL 22 21,oF 23 4 1,oL 24 23,oS 25 (.build zze [(0,(1,(.t 22))),(4,(1,(.t 24)))]),oV 10 2 25]) .ret) (oR [oC 27 .eql 4 4,oM 26 27] (.cond (.t 26) (.seq (.reg [oF 28 0 1,oL 29 28,oF 30 1 1,oL 31 30,oF 32 5 1,oL 33 32,oF 34 9 1,oL 35 34,oS 36 (.build zze [(0,(1,(.t 29))),(1,(1,(.t 31))),(5,(1,(.t 33))),(9,(1,(.t 35)))]),oV 10 2 36]) .ret) (oR [oC 38 .eql 4 5,oM 37 38] (.cond (.t 37) (.seq (.reg [oF 39 0 1,oL 40 39,oF 41 1 1,oL 42 41,oF 43 6 1,oL 44 43,oS 45 (.build zze [(0,(1,(.t 40))),(1,(1,(.t 42))),(6,(1,(.t 44)))]),oV 10 2 45]) .ret) (oR [oC 47 .eql 4 6,oM 46 47] (.cond (.t 46) (.seq (.reg [oF 48 0 1,oL 49 48,oF 50 1 1,oL 51 50,oF 52 6 1,oL 53 52,oF 54 9 1,oL 55 54,oS 56 (.build zze [(0,(1,(.t 49))),(1,(1,(.t 51))),(6,(1,(.t 53))),(9,(1,(.t 55)))]),oV 10 2 56]) .ret) (oR [oC 58 .eql 4 7,oM 57 58] (.cond (.t 57) (.seq (.reg [oF 59 0 1,oL 60 59,oF 61 4 1,oL 62 61,oF 63 8 1,oL 64 63,oS 65 (.build zze [(0,(1,(.t 60))),(4,(1,(.t 62))),(8,(1,(.t 64)))]),oV 10 2 65]) .ret) (oR [oC 67 .eql 4 8,oM 66 67] (.cond (.t 66) (.seq (.reg [oF 68 0 1,oL 69 68,oF 70 4 1,oL 71 70,oF 72 7 1,oL 73 72,oF 74 8 1,oL 75 74,oS 76 (.build zze [(0,(1,(.t 69))),(4,(1,(.t 71))),(7,(1,(.t 73))),(8,(1,(.t 75)))]),oV 10 2 76]) .ret) .skip)))))))))))))))))) (.seq (.reg [oF 77 0 1,oL 78 77,oF 79 8 1,oL 80 79,oS 81 (.build zze [(0,(1,(.t 78))),(8,(1,(.t 80)))]),oV 10 2 81]) .ret))),[(.cell 2 true 10)],1,[]⟩
theorem ok_ref07_plain:FnOk Tryz.prog 209 q4b:=⟨fun xs w=>by kernel_rfl,_,Tryz.func209,by kernel_rfl⟩
def q23:C:=.seq (.seq (.reg [oM 17 3,oM 18 0,oS 19 (.len true (.t 18)),oB 20 .lss 17 19]) (.cond (.t 20) .skip (.exit 0))) (.seq (.block 1 (.seq (.reg [oM 23 0,oM 24 3,oS 25 (.index (.t 23) (.t 24)),oS 26 (.call .any 224 [(.t 25)]),oU 27 26,oM 28 27,oG 29 (.mv (.t 0)) 28 true,oG 30 (.mv (.t 3)) 28 true,oG 31 (.index (.t 29) (.t 30)) 28 true,oG 32 (.call .any 225 [(.t 31)]) 28 true,oG 33 (.un .not (.t 32)) 28 true,oS 34 (.pick (.t 28) (.t 33) (.c (.bool false)))]) (.cond (.t 34) (oR [oZ 2 false] .ret) .skip))) (.reg [oM 21 3,oC 22 .add 21 1,oM 3 22]))
def q2r:FnC:=⟨(oR [oZ 2 false] (.seq (.seq (.reg [oM 4 0,oS 5 (.bin .eql false (.t 4) (.c (.str (ByteArray.mk #[])))),oM 6 5,oG 7 (.mv (.t 0)) 6 false,oG 8 (.len true (.t 7)) 6 false,oG 9 (.bin .gtr false (.t 8) (.c (.int .i64 24))) 6 false,oS 10 (.pick (.t 6) (.c (.bool true)) (.t 9)),oM 11 10,oG 12 (.mv (.t 0)) 11 false,oG 13 (.index (.t 12) (.c (.int .i64 0))) 11 false,oG 14 (.call .any 224 [(.t 13)]) 11 false,oG 15 (.un .not (.t 14)) 11 false,oS 16 (.pick (.t 11) (.c (.bool true)) (.t 15))]) (.cond (.t 16) (oR [oZ 2 false] .ret) .skip)) (.seq (oR [oJ 3 0] (.block 0 (.loop q23))) (oR [oZ 2 true] .ret)))),[(.tmp 2)],1,[]⟩
theorem ok_ref06_IsName:FnOk Tryz.prog 210 q2r:=⟨fun xs w=>by kernel_rfl,_,Tryz.func210,by kernel_rfl⟩
def q33:C:=.seq (oR [oM 29 5,oM 30 4,oB 31 .lss 29 30] (.cond (.t 31) .skip (.exit 2))) (.seq (.block 3 (oR [oM 34 0,oM 35 5,oI 36 2 34 35,oF 37 1 36,oL 38 37,oM 39 0,oM 40 4,oI 41 2 39 40,oF 42 1 41,oL 43 42,oB 44 .eql 38 43] (.cond (.t 44) (oR [oZ 2 false] .ret) .skip))) (.reg [oM 32 5,oC 33 .add 32 1,oM 5 33]))
def q2h:C:=.seq (oR [oM 6 4,oM 7 0,oH 8 7,oB 9 .lss 6 8] (.cond (.t 9) .skip (.exit 0))) (.seq (.block 1 (.seq (.seq (.reg [oM 12 3,oM 13 0,oM 14 4,oI 15 2 13 14,oF 16 0 15,oL 17 16,oS 18 (.call .any 226 [(.t 12),(.t 17)]),oU 19 18,oM 20 19,oG 21 (.mv (.t 0)) 20 false,oG 22 (.mv (.t 4)) 20 false,oG 23 (.iaddr 2 (.t 21) (.t 22)) 20 false,oG 24 (.faddr 1 (.t 23)) 20 false,oP 25 24 20 false,oG 26 (.call .any 210 [(.t 25)]) 20 false,oG 27 (.un .not (.t 26)) 20 false,oS 28 (.pick (.t 20) (.c (.bool true)) (.t 27))]) (.cond (.t 28) (oR [oZ 2 false] .ret) .skip)) (.seq (oR [oJ 5 0] (.block 2 (.loop q33))) (.reg [oM 45 0,oM 46 4,oI 47 2 45 46,oF 48 0 47,oL 49 48,oM 3 49])))) (.reg [oM 10 4,oC 11 .add 10 1,oM 4 11]))
def q4c:FnC:=⟨(oR [oZ 2 false] (oR [oJ 3 0] (.seq (oR [oJ 4 0] (.block 0 (.loop q2h))) (.seq (.reg [oM 50 0,oH 51 50,oC 52 .geq 51 1,oM 53 52,oG 54 (.mv (.t 0)) 53 true,oG 55 (.len false (.t 54)) 53 true,oG 56 (.bin .leq false (.t 55) (.c (.int .i64 16))) 53 true,oS 57 (.pick (.t 53) (.t 56) (.c (.bool false))),oM 2 57]) .ret)))),[(.tmp 2)],1,[]⟩
theorem qaM:FnOk Tryz.prog 211 q4c:=⟨fun xs w=>by kernel_rfl,_,Tryz.func211,by kernel_rfl⟩
def q2g:C:=.seq (oR [oM 60 8,oM 61 6,oB 62 .lss 60 61] (.cond (.t 62) .skip (.exit 2))) (.seq (.block 3 (oR [oM 65 0,oM 66 8,oI 67 13 65 66,oF 68 1 67,oL 69 68,oF 70 1 7,oL 71 70,oB 72 .eql 69 71] (.cond (.t 72) (oR [oZ 4 false] .ret) .skip))) (.reg [oM 63 8,oC 64 .add 63 1,oM 8 64]))
def q1N:C:=.seq (oR [oM 9 6,oM 10 0,oH 11 10,oB 12 .lss 9 11] (.cond (.t 12) .skip (.exit 0))) (.seq (.block 1 (oR [oM 15 0,oM 16 6,oI 17 13 15 16,oA 18 13 17,oY 7 zzh,oV 13 7 18] (.seq (.seq (.reg [oM 19 5,oF 20 0 7,oL 21 20,oS 22 (.call .any 226 [(.t 19),(.t 21)]),oU 23 22,oM 24 23,oG 25 (.faddr 1 (.t 7)) 24 false,oP 26 25 24 false,oG 27 (.call .any 210 [(.t 26)]) 24 false,oG 28 (.un .not (.t 27)) 24 false,oS 29 (.pick (.t 24) (.c (.bool true)) (.t 28)),oM 30 29,oG 31 (.faddr 3 (.t 7)) 30 false,oP 32 31 30 false,oG 33 (.mv (.t 32)) 30 false,oG 34 (.faddr 4 (.t 7)) 33 true,oP 35 34 33 true,oG 36 (.pick (.t 33) (.t 35) (.c (.bool false))) 30 false,oS 37 (.pick (.t 30) (.c (.bool true)) (.t 36)),oM 38 37,oG 39 (.mv (.t 1)) 38 false,oG 40 (.un .not (.t 39)) 38 false,oG 41 (.mv (.t 40)) 38 false,oG 42 (.faddr 3 (.t 7)) 41 true,oP 43 42 41 true,oG 44 (.mv (.t 43)) 41 true,oG 45 (.faddr 4 (.t 7)) 44 false,oP 46 45 44 false,oG 47 (.pick (.t 44) (.c (.bool true)) (.t 46)) 41 true,oG 48 (.pick (.t 41) (.t 47) (.c (.bool false))) 38 false,oS 49 (.pick (.t 38) (.c (.bool true)) (.t 48))]) (.cond (.t 49) (oR [oZ 4 false] .ret) .skip)) (.seq (.seq (.reg [oF 50 4 7,oL 51 50,oU 52 51,oM 53 52,oG 54 (.faddr 5 (.t 7)) 53 true,oG 55 (.load .any true 8 (.t 54)) 53 true,oG 56 (.build zza []) 53 true,oG 57 (.call .any 189 [(.t 55),(.t 56)]) 53 true,oG 58 (.un .not (.t 57)) 53 true,oS 59 (.pick (.t 53) (.t 58) (.c (.bool false)))]) (.cond (.t 59) (oR [oZ 4 false] .ret) .skip)) (.seq (oR [oJ 8 0] (.block 2 (.loop q2g))) (.reg [oF 73 0 7,oL 74 73,oM 5 74])))))) (.reg [oM 13 6,oC 14 .add 13 1,oM 6 14]))
def q4a:FnC:=⟨(oR [oZ 4 false] (oR [oJ 5 0] (.seq (oR [oJ 6 0] (.block 0 (.loop q1N))) (.seq (.reg [oM 75 0,oH 76 75,oC 77 .leq 76 16,oM 78 77,oG 79 (.mv (.t 1)) 78 true,oG 80 (.mv (.t 79)) 78 true,oG 81 (.mv (.t 0)) 80 false,oG 82 (.len false (.t 81)) 80 false,oG 83 (.bin .geq false (.t 82) (.c (.int .i64 1))) 80 false,oG 84 (.pick (.t 80) (.c (.bool true)) (.t 83)) 78 true,oS 85 (.pick (.t 78) (.t 84) (.c (.bool false))),oM 4 85]) .ret)))),[(.tmp 4)],2,[]⟩
theorem qaL:FnOk Tryz.prog 212 q4a:=⟨fun xs w=>by kernel_rfl,_,Tryz.func212,by kernel_rfl⟩
def q1H:C:=.seq (oR [oM 11 5,oM 12 0,oH 13 12,oB 14 .lss 11 13] (.cond (.t 14) .skip (.exit 0))) (.seq (.block 1 (.seq (.reg [oM 17 0,oM 18 5,oI 19 8 17 18,oA 20 8 19,oM 21 1,oM 22 5,oI 23 8 21 22,oA 24 8 23,oS 25 (.call .any 189 [(.t 20),(.t 24)]),oU 26 25]) (.cond (.t 26) (oR [oZ 4 false] .ret) .skip))) (.reg [oM 15 5,oC 16 .add 15 1,oM 5 16]))
def q2f:FnC:=⟨(oR [oZ 4 false] (.seq (oR [oM 6 0,oH 7 6,oM 8 1,oH 9 8,oB 10 .neq 7 9] (.cond (.t 10) (oR [oZ 4 false] .ret) .skip)) (.seq (oR [oJ 5 0] (.block 0 (.loop q1H))) (oR [oZ 4 true] .ret)))),[(.tmp 4)],2,[]⟩
theorem q8z:FnOk Tryz.prog 213 q2f:=⟨fun xs w=>by kernel_rfl,_,Tryz.func213,by kernel_rfl⟩
def q3I:FnC:=⟨(oR [oQ 2 1 0,oJ 4 0] (.seq (.seq (.reg [oA 6 1 2,oS 7 (.call .any 203 [(.t 6)]),oM 5 7]) (oR [oM 8 5,oC 9 .neq 8 0] (.cond (.t 9) (oR [oM 10 5,oM 4 10] .ret) .skip))) (.seq (.seq (.reg [oM 11 1,oC 12 .lss 11 0,oM 13 12,oG 14 (.mv (.t 1)) 13 false,oG 15 (.faddr 0 (.t 2)) 13 false,oP 16 15 13 false,oG 17 (.len false (.t 16)) 13 false,oG 18 (.bin .geq false (.t 14) (.t 17)) 13 false,oS 19 (.pick (.t 13) (.c (.bool true)) (.t 18))]) (.cond (.t 19) (oR [oJ 4 4] .ret) .skip)) (oR [oJ 4 0] .ret)))),[(.tmp 4)],2,[]⟩
theorem q9P:FnOk Tryz.prog 214 q3I:=⟨fun xs w=>by kernel_rfl,_,Tryz.func214,by kernel_rfl⟩
def q5t:FnC:=⟨(oR [oQ 3 1 0,oQ 5 8 2,oZ 6 false] (.seq (.reg [oA 7 1 3,oM 8 1,oA 9 8 5,oS 10 (.call .any 227 [(.t 7),(.t 8),(.t 9),(.c (.bool true))]),oM 6 10]) .ret)),[(.tmp 6)],3,[]⟩
theorem ok_value_Plain:FnOk Tryz.prog 215 q5t:=⟨fun xs w=>by kernel_rfl,_,Tryz.func215,by kernel_rfl⟩
def q2J:FnC:=⟨(oR [oY 2 zza,oZ 3 false] (.seq (.reg [oM 4 0,oM 5 0,oK 6 5,oF 7 2 6,oL 8 7,oS 9 (.call .any 228 [(.t 8)]),oK 10 4,oF 11 3 10,oW 11 9]) (.seq (.reg [oS 12 (.build zza []),oV 8 2 12,oZ 3 false]) .ret))),[(.cell 2 true 8),(.tmp 3)],1,[3000000]⟩
theorem q8d:FnOk Tryz.prog 216 q2J:=⟨fun xs w=>by kernel_rfl,_,Tryz.func216,by kernel_rfl⟩
noncomputable def q4R:FnC:=cF [] Tryz.f217
theorem q7o:FnOk Tryz.prog 217 q4R:=⟨fun xs w=>by kernel_rfl,_,Tryz.func217,by kernel_rfl⟩
noncomputable def q5e:FnC:=cF [] Tryz.f218
theorem q7U:FnOk Tryz.prog 218 q5e:=⟨fun xs w=>by kernel_rfl,_,Tryz.func218,by kernel_rfl⟩
def q47:C:=oR [oB 18 .lss 17 16] (.seq (.cond (.t 18) .skip (.exit 0)) (.seq (.block 1 (oR [oM 19 17,oI 20 8 15 17,oA 21 8 20,oY 12 zza,oM 11 19,oV 8 12 21] (.seq (.reg [oM 23 0,oM 24 11,oM 25 1,oA 26 8 12,oM 27 3,oS 28 (.callr .any 231 [(.t 23),(.t 24),(.t 25),(.t 26),(.t 27)]),oM 22 28,oX 29 22 0,oX 30 22 1,oY 13 zza,oV 8 13 29,oM 14 30]) (.seq (oR [oM 31 14,oU 32 31] (.cond (.t 32) (.seq (.reg [oS 8 (.mv (.c (.sl true []))),oZ 9 false]) .ret) .skip)) (.reg [oM 33 10,oA 34 8 13,oS 35 (.bsl zza 1 [(0,(.t 34))]),oS 36 (.app .any 40 8 120 (.t 33) (.t 35)),oM 10 36]))))) (.reg [oC 37 .add 17 1,oM 17 37])))
def q2w:FnC:=⟨(.seq (.reg [oS 8 (.mv (.c (.sl true []))),oZ 9 false]) (.seq (.reg [oS 10 (.mv (.c (.sl true [])))]) (.seq (oR [oM 15 2,oH 16 15,oJ 17 0] (.block 0 (.loop q47))) (oR [oM 38 10,oM 8 38,oZ 9 true] .ret)))),[(.tmp 8),(.tmp 9)],4,[3000000,57]⟩
theorem q7T:FnOk Tryz.prog 219 q2w:=⟨fun xs w=>by kernel_rfl,_,Tryz.func219,by kernel_rfl⟩
def q07:FnC:=⟨(oR [oQ 1 10 0,oZ 2 false] (oR [oA 5 10 1,oY 3 zze,oV 10 3 5] (.seq (.reg [oF 6 0 3,oN (.store .any false 1 (.t 6) (.c (.int .i64 0)))]) (oR [oZ 4 true] (.seq (oR [oF 7 0 1,oL 8 7] (.block 0 (oR [oC 10 .eql 8 1,oM 9 10] (.cond (.t 9) .skip (oR [oC 12 .eql 8 2,oM 11 12] (.cond (.t 11) (oR [oF 13 2 1,oL 14 13,oF 15 3 1,oL 16 15,oB 17 .leq 14 16,oM 4 17] (.reg [oF 18 2 3,oN (.store .any false 1 (.t 18) (.c (.int .i64 0))),oF 19 3 3,oN (.store .any false 1 (.t 19) (.c (.int .i64 0)))])) (oR [oC 21 .eql 8 3,oM 20 21] (.cond (.t 20) (.seq (.reg [oF 22 4 1,oL 23 22,oC 24 .geq 23 0,oM 25 24,oG 26 (.faddr 4 (.t 1)) 25 true,oP 27 26 25 true,oG 28 (.bin .leq false (.t 27) (.c (.int .i64 200))) 25 true,oS 29 (.pick (.t 25) (.t 28) (.c (.bool false))),oM 4 29]) (.reg [oF 30 4 3,oN (.store .any false 1 (.t 30) (.c (.int .i64 0)))])) (oR [oC 32 .eql 8 4,oM 31 32] (.cond (.t 31) (.seq (.reg [oF 33 1 1,oL 34 33,oS 35 (.call .any 234 [(.t 34)]),oM 36 35,oG 37 (.faddr 5 (.t 1)) 36 true,oP 38 37 36 true,oG 39 (.call .any 235 [(.t 38)]) 36 true,oS 40 (.pick (.t 36) (.t 39) (.c (.bool false))),oM 4 40]) (.reg [oF 41 1 3,oN (.store .any false 1 (.t 41) (.c (.str (ByteArray.mk #[])))),oF 42 5 3,oN (.store .any false 1 (.t 42) (.c (.sl true []))),oF 43 9 3,oN (.store .any false 1 (.t 43) (.c (.bool false)))])) (.seq (oR [oC 45 .eql 8 5,oM 44 45] (.cond (.t 44) .skip (.reg [oC 46 .eql 8 6,oM 44 46]))) (.cond (.t 44) (.seq (.reg [oF 47 1 1,oL 48 47,oS 49 (.call .any 234 [(.t 48)]),oM 50 49,oG 51 (.load .any true 10 (.t 1)) 50 true,oG 52 (.call .any 236 [(.t 51)]) 50 true,oS 53 (.pick (.t 50) (.t 52) (.c (.bool false))),oM 4 53]) (.seq (.reg [oF 54 1 3,oN (.store .any false 1 (.t 54) (.c (.str (ByteArray.mk #[])))),oF 55 6 3,oN (.store .any false 1 (.t 55) (.c (.sl true [])))]) (.reg [oF 56 9 1,oL 57 56,oM 58 57,oG 59 (.faddr 0 (.t 1)) 58 true,oP 60 59 58 true,oG 61 (.bin .eql false (.t 60) (.c (.int .i64 5))) 58 true,oS 62 (.pick (.t 58) (.t 61) (.c (.bool false))),oF 63 9 3,oW 63 62]))) (.seq (oR [oC 65 .eql 8 7,oM 64 65] (.cond (.t 64) .skip (.reg [oC 66 .eql 8 8,oM 64 66]))) (.cond (.t 64) (.seq (.reg [oF 67 4 1,oL 68 67,oC 69 .geq 68 0,oM 70 69,oG 71 (.faddr 4 (.t 1)) 70 true,oP 72 71 70 true,oG 73 (.bin .leq false (.t 72) (.c (.int .i64 50))) 70 true,oS 74 (.pick (.t 70) (.t 73) (.c (.bool false))),oM 4 74]) (.seq (.reg [oF 75 4 3,oN (.store .any false 1 (.t 75) (.c (.int .i64 0))),oF 76 8 3,oN (.store .any false 1 (.t 76) (.c (.int .i64 0)))]) (oR [oF 77 0 1,oL 78 77,oC 79 .eql 78 8] (.cond (.t 79) (.reg [oF 80 7 3,oN (.store .any false 1 (.t 80) (.c (.int .i64 0)))]) .skip)))) (oR [oC 82 .eql 8 9,oM 81 82] (.cond (.t 81) (.reg [oF 83 8 3,oN (.store .any false 1 (.t 83) (.c (.int .i64 0)))]) (oR [oZ 2 false] .ret))))))))))))))))) (.seq (.reg [oM 84 4,oM 85 84,oG 86 (.load .any true 10 (.t 3)) 85 true,oG 87 (.build zze []) 85 true,oG 88 (.call .any 237 [(.t 86),(.t 87)]) 85 true,oS 89 (.pick (.t 85) (.t 88) (.c (.bool false))),oM 2 89]) .ret)))))),[(.tmp 2)],1,[]⟩
theorem ok_schema_form:FnOk Tryz.prog 221 q07:=⟨fun xs w=>by kernel_rfl,_,Tryz.func221,by kernel_rfl⟩
def q2T:C:=oR [oB 10 .lss 9 8] (.seq (.cond (.t 10) .skip (.exit 0)) (.seq (.block 1 (oR [oI 11 13 7 9,oA 12 13 11,oY 5 zzh,oV 13 5 12] (.reg [oM 13 3,oF 14 2 5,oL 15 14,oS 16 (.bsl [(.int .i64 0)] 1 [(0,(.t 15))]),oS 17 (.app .any 3 1 8 (.t 13) (.t 16)),oM 3 17]))) (.reg [oC 18 .add 9 1,oM 9 18])))
def q5s:FnC:=⟨(.seq (.reg [oQ 1 10 0,oS 2 (.mv (.c (.sl true [])))]) (.seq (.reg [oS 3 (.mv (.c (.sl true [])))]) (.seq (oR [oF 6 6 1,oL 7 6,oH 8 7,oJ 9 0] (.block 0 (.loop q2T))) (.seq (oR [oF 19 0 1,oL 20 19,oC 21 .eql 20 8] (.cond (.t 21) (.reg [oM 22 3,oF 23 7 1,oL 24 23,oS 25 (.bsl [(.int .i64 0)] 1 [(0,(.t 24))]),oS 26 (.app .any 3 1 8 (.t 22) (.t 25)),oM 3 26]) .skip)) (.seq (oR [oF 27 0 1,oL 28 27,oC 29 .geq 28 7] (.cond (.t 29) (.reg [oM 30 3,oF 31 8 1,oL 32 31,oS 33 (.bsl [(.int .i64 0)] 1 [(0,(.t 32))]),oS 34 (.app .any 3 1 8 (.t 30) (.t 33)),oM 3 34]) .skip)) (oR [oM 35 3,oM 2 35] .ret)))))),[(.tmp 2)],1,[]⟩
theorem ok_schema_uses:FnOk Tryz.prog 222 q5s:=⟨fun xs w=>by kernel_rfl,_,Tryz.func222,by kernel_rfl⟩
def q0R:FnC:=⟨(oR [oQ 2 13 0,oQ 3 13 1,oZ 4 false] (.seq (.reg [oF 5 0 2,oL 6 5,oF 7 0 3,oL 8 7,oB 9 .eql 6 8,oM 10 9,oG 11 (.faddr 1 (.t 2)) 10 true,oP 12 11 10 true,oG 13 (.faddr 1 (.t 3)) 10 true,oP 14 13 10 true,oG 15 (.bin .eql false (.t 12) (.t 14)) 10 true,oS 16 (.pick (.t 10) (.t 15) (.c (.bool false))),oM 17 16,oG 18 (.faddr 2 (.t 2)) 17 true,oP 19 18 17 true,oG 20 (.faddr 2 (.t 3)) 17 true,oP 21 20 17 true,oG 22 (.bin .eql false (.t 19) (.t 21)) 17 true,oS 23 (.pick (.t 17) (.t 22) (.c (.bool false))),oM 24 23,oG 25 (.faddr 3 (.t 2)) 24 true,oP 26 25 24 true,oG 27 (.faddr 3 (.t 3)) 24 true,oP 28 27 24 true,oG 29 (.bin .eql true (.t 26) (.t 28)) 24 true,oS 30 (.pick (.t 24) (.t 29) (.c (.bool false))),oM 31 30,oG 32 (.faddr 4 (.t 2)) 31 true,oP 33 32 31 true,oG 34 (.faddr 4 (.t 3)) 31 true,oP 35 34 31 true,oG 36 (.bin .eql true (.t 33) (.t 35)) 31 true,oS 37 (.pick (.t 31) (.t 36) (.c (.bool false))),oM 38 37,oG 39 (.faddr 5 (.t 2)) 38 true,oG 40 (.load .any true 8 (.t 39)) 38 true,oG 41 (.faddr 5 (.t 3)) 38 true,oG 42 (.load .any true 8 (.t 41)) 38 true,oG 43 (.call .any 189 [(.t 40),(.t 42)]) 38 true,oS 44 (.pick (.t 38) (.t 43) (.c (.bool false))),oM 4 44]) .ret)),[(.tmp 4)],2,[]⟩
theorem q8A:FnOk Tryz.prog 223 q0R:=⟨fun xs w=>by kernel_rfl,_,Tryz.func223,by kernel_rfl⟩
def q4B:FnC:=⟨(oR [oZ 2 false] (.seq (.reg [oM 3 0,oS 4 (.bin .geq false (.t 3) (.c (.int .u8 97))),oM 5 4,oG 6 (.mv (.t 0)) 5 true,oG 7 (.bin .leq false (.t 6) (.c (.int .u8 122))) 5 true,oS 8 (.pick (.t 5) (.t 7) (.c (.bool false))),oM 9 8,oG 10 (.mv (.t 0)) 9 false,oG 11 (.bin .geq false (.t 10) (.c (.int .u8 65))) 9 false,oG 12 (.mv (.t 11)) 9 false,oG 13 (.mv (.t 0)) 12 true,oG 14 (.bin .leq false (.t 13) (.c (.int .u8 90))) 12 true,oG 15 (.pick (.t 12) (.t 14) (.c (.bool false))) 9 false,oS 16 (.pick (.t 9) (.c (.bool true)) (.t 15)),oM 17 16,oG 18 (.mv (.t 0)) 17 false,oG 19 (.bin .eql false (.t 18) (.c (.int .u8 95))) 17 false,oS 20 (.pick (.t 17) (.c (.bool true)) (.t 19)),oM 2 20]) .ret)),[(.tmp 2)],1,[]⟩
theorem ok_ref06_letter:FnOk Tryz.prog 224 q4B:=⟨fun xs w=>by kernel_rfl,_,Tryz.func224,by kernel_rfl⟩
def q5j:FnC:=⟨(oR [oZ 2 false] (.seq (.reg [oM 3 0,oS 4 (.bin .geq false (.t 3) (.c (.int .u8 48))),oM 5 4,oG 6 (.mv (.t 0)) 5 true,oG 7 (.bin .leq false (.t 6) (.c (.int .u8 57))) 5 true,oS 8 (.pick (.t 5) (.t 7) (.c (.bool false))),oM 2 8]) .ret)),[(.tmp 2)],1,[]⟩
theorem ok_ref06_digit:FnOk Tryz.prog 225 q5j:=⟨fun xs w=>by kernel_rfl,_,Tryz.func225,by kernel_rfl⟩
def q80:FnC:=⟨(oR [oZ 4 false] (.seq (.reg [oM 5 1,oM 6 0,oB 7 .gtr 5 6,oM 8 7,oG 9 (.mv (.t 1)) 8 true,oG 10 (.bin .geq false (.t 9) (.c (.int .i64 1))) 8 true,oS 11 (.pick (.t 8) (.t 10) (.c (.bool false))),oM 12 11,oG 13 (.mv (.t 1)) 12 true,oG 14 (.bin .leq false (.t 13) (.c (.int .i64 1000))) 12 true,oS 15 (.pick (.t 12) (.t 14) (.c (.bool false))),oM 4 15]) .ret)),[(.tmp 4)],2,[]⟩
theorem ok_ref07_id:FnOk Tryz.prog 226 q80:=⟨fun xs w=>by kernel_rfl,_,Tryz.func226,by kernel_rfl⟩
def q4p:C:=.seq (oR [oM 281 20,oF 282 5 6,oL 283 282,oH 284 283,oB 285 .lss 281 284] (.cond (.t 285) .skip (.exit 5))) (.seq (.block 6 (.seq (.reg [oF 288 5 6,oL 289 288,oM 290 20,oC 291 .sub 290 1,oI 292 8 289 291,oA 293 8 292,oF 294 5 6,oL 295 294,oM 296 20,oI 297 8 295 296,oA 298 8 297,oS 299 (.call .any 241 [(.t 293),(.t 298)]),oC 300 .geq 299 0]) (.cond (.t 300) (oR [oZ 8 false] .ret) .skip))) (.reg [oM 286 20,oC 287 .add 286 1,oM 20 287]))
def q4q:C:=oR [oB 153 .lss 152 151] (.seq (.cond (.t 153) .skip (.exit 3)) (.seq (.block 4 (oR [oM 154 152,oI 155 13 150 152,oA 156 13 155,oY 17 zzh,oM 16 154,oV 13 17 156] (.seq (.reg [oA 157 1 4,oF 158 2 17,oL 159 158,oF 160 6 6,oL 161 160,oM 162 16,oI 163 8 161 162,oA 164 8 163,oM 165 3,oS 166 (.call .any 227 [(.t 157),(.t 159),(.t 164),(.t 165)]),oU 167 166]) (.cond (.t 167) (oR [oZ 8 false] .ret) .skip)))) (.reg [oC 168 .add 152 1,oM 152 168])))
def q7G:C:=oR [oB 114 .lss 113 112] (.seq (.cond (.t 114) .skip (.exit 1)) (.seq (.block 2 (oR [oM 115 113,oI 116 2 111 113,oA 117 2 116,oY 13 zzc,oM 12 115,oV 2 13 117] (.seq (.reg [oA 119 10 9,oF 120 0 13,oL 121 120,oS 122 (.call .any 137 [(.t 119),(.t 121)]),oM 118 122,oX 123 118 0,oX 124 118 1,oM 14 123,oM 15 124]) (.seq (.reg [oM 125 15,oM 126 125,oG 127 (.faddr 0 (.t 13)) 126 false,oP 128 127 126 false,oG 129 (.call .any 239 [(.t 128)]) 126 false,oG 130 (.un .not (.t 129)) 126 false,oS 131 (.pick (.t 126) (.c (.bool true)) (.t 130)),oM 132 131,oG 133 (.mv (.t 12)) 132 false,oG 134 (.bin .gtr false (.t 133) (.c (.int .i64 0))) 132 false,oG 135 (.mv (.t 134)) 132 false,oG 136 (.faddr 0 (.t 13)) 135 true,oP 137 136 135 true,oG 138 (.faddr 7 (.t 6)) 135 true,oP 139 138 135 true,oG 140 (.mv (.t 12)) 135 true,oG 141 (.bin .sub false (.t 140) (.c (.int .i64 1))) 135 true,oG 142 (.iaddr 2 (.t 139) (.t 141)) 135 true,oG 143 (.faddr 0 (.t 142)) 135 true,oP 144 143 135 true,oG 145 (.bin .leq false (.t 137) (.t 144)) 135 true,oG 146 (.pick (.t 135) (.t 145) (.c (.bool false))) 132 false,oS 147 (.pick (.t 132) (.c (.bool true)) (.t 146))]) (.cond (.t 147) (oR [oZ 8 false] .ret) .skip))))) (.reg [oC 148 .add 113 1,oM 113 148])))
def q06:FnC:=⟨(oR [oQ 4 1 0,oQ 6 8 2,oZ 8 false] (.seq (.seq (.reg [oM 21 1,oC 22 .lss 21 0,oM 23 22,oG 24 (.mv (.t 1)) 23 false,oG 25 (.faddr 0 (.t 4)) 23 false,oP 26 25 23 false,oG 27 (.len false (.t 26)) 23 false,oG 28 (.bin .geq false (.t 24) (.t 27)) 23 false,oS 29 (.pick (.t 23) (.c (.bool true)) (.t 28))]) (.cond (.t 29) (oR [oZ 8 false] .ret) .skip)) (oR [oF 30 0 4,oL 31 30,oM 32 1,oI 33 10 31 32,oA 34 10 33,oY 9 zze,oV 10 9 34] (.seq (.seq (.reg [oF 35 0 6,oL 36 35,oF 37 0 9,oL 38 37,oB 39 .neq 36 38,oM 40 39,oG 41 (.load .any true 8 (.t 6)) 40 false,oG 42 (.call .any 238 [(.t 41)]) 40 false,oG 43 (.un .not (.t 42)) 40 false,oS 44 (.pick (.t 40) (.c (.bool true)) (.t 43))]) (.cond (.t 44) (oR [oZ 8 false] .ret) .skip)) (.seq (oR [oF 45 0 9,oL 46 45] (.block 0 (oR [oC 48 .eql 46 2,oM 47 48] (.cond (.t 47) (.seq (.reg [oF 49 2 6,oL 50 49,oF 51 2 9,oL 52 51,oB 53 .geq 50 52,oM 54 53,oG 55 (.faddr 2 (.t 6)) 54 true,oP 56 55 54 true,oG 57 (.faddr 3 (.t 9)) 54 true,oP 58 57 54 true,oG 59 (.bin .leq false (.t 56) (.t 58)) 54 true,oS 60 (.pick (.t 54) (.t 59) (.c (.bool false))),oM 8 60]) .ret) (oR [oC 62 .eql 46 3,oM 61 62] (.cond (.t 61) (.seq (.reg [oF 63 3 6,oL 64 63,oS 65 (.len true (.t 64)),oF 66 4 9,oL 67 66,oB 68 .leq 65 67,oM 8 68]) .ret) (oR [oC 70 .eql 46 4,oM 69 70] (.cond (.t 69) (.seq (.reg [oA 72 10 9,oF 73 4 6,oL 74 73,oS 75 (.call .any 154 [(.t 72),(.t 74)]),oM 71 75,oX 76 71 0,oX 77 71 1,oM 10 76,oM 11 77]) (.seq (.reg [oM 78 11,oM 79 78,oG 80 (.faddr 9 (.t 9)) 79 false,oP 81 80 79 false,oG 82 (.mv (.t 81)) 79 false,oG 83 (.mv (.t 3)) 82 true,oG 84 (.un .not (.t 83)) 82 true,oG 85 (.pick (.t 82) (.t 84) (.c (.bool false))) 79 false,oG 86 (.mv (.t 85)) 79 false,oG 87 (.faddr 4 (.t 6)) 86 true,oP 88 87 86 true,oG 89 (.call .any 239 [(.t 88)]) 86 true,oG 90 (.pick (.t 86) (.t 89) (.c (.bool false))) 79 false,oS 91 (.pick (.t 79) (.c (.bool true)) (.t 90)),oM 8 91]) .ret)) (oR [oC 93 .eql 46 5,oM 92 93] (.cond (.t 92) (.seq (.seq (.reg [oF 94 6 6,oL 95 94,oH 96 95,oF 97 6 9,oL 98 97,oH 99 98,oB 100 .neq 96 99,oM 101 100,oG 102 (.mv (.t 3)) 101 false,oG 103 (.mv (.t 102)) 101 false,oG 104 (.faddr 7 (.t 6)) 103 true,oP 105 104 103 true,oG 106 (.len false (.t 105)) 103 true,oG 107 (.bin .gtr false (.t 106) (.c (.int .i64 0))) 103 true,oG 108 (.pick (.t 103) (.t 107) (.c (.bool false))) 101 false,oS 109 (.pick (.t 101) (.c (.bool true)) (.t 108))]) (.cond (.t 109) (oR [oZ 8 false] .ret) .skip)) (.seq (oR [oF 110 7 6,oL 111 110,oH 112 111,oJ 113 0] (.block 1 (.loop q7G))) (oR [oF 149 6 9,oL 150 149,oH 151 150,oJ 152 0] (.block 3 (.loop q4q))))) (oR [oC 170 .eql 46 6,oM 169 170] (.cond (.t 169) (.seq (.seq (.reg [oA 172 10 9,oF 173 4 6,oL 174 173,oS 175 (.call .any 137 [(.t 172),(.t 174)]),oM 171 175,oX 176 171 0,oX 177 171 1,oM 18 176,oM 19 177]) (oR [oM 178 19] (.cond (.t 178) (.seq (.reg [oF 179 6 6,oL 180 179,oH 181 180,oC 182 .eql 181 1,oM 183 182,oG 184 (.faddr 7 (.t 6)) 183 true,oP 185 184 183 true,oG 186 (.len false (.t 185)) 183 true,oG 187 (.bin .eql false (.t 186) (.c (.int .i64 0))) 183 true,oS 188 (.pick (.t 183) (.t 187) (.c (.bool false))),oM 189 188,oG 190 (.load .any true 1 (.t 4)) 189 true,oG 191 (.faddr 6 (.t 9)) 189 true,oP 192 191 189 true,oG 193 (.mv (.t 18)) 189 true,oG 194 (.iaddr 13 (.t 192) (.t 193)) 189 true,oG 195 (.faddr 2 (.t 194)) 189 true,oP 196 195 189 true,oG 197 (.faddr 6 (.t 6)) 189 true,oP 198 197 189 true,oG 199 (.iaddr 8 (.t 198) (.c (.int .i64 0))) 189 true,oG 200 (.load .any true 8 (.t 199)) 189 true,oG 201 (.mv (.t 3)) 189 true,oG 202 (.call .any 227 [(.t 190),(.t 196),(.t 200),(.t 201)]) 189 true,oS 203 (.pick (.t 189) (.t 202) (.c (.bool false))),oM 8 203]) .ret) .skip))) (.seq (.reg [oF 204 9 9,oL 205 204,oM 206 205,oG 207 (.mv (.t 3)) 206 true,oG 208 (.un .not (.t 207)) 206 true,oS 209 (.pick (.t 206) (.t 208) (.c (.bool false))),oM 210 209,oG 211 (.faddr 4 (.t 6)) 210 true,oP 212 211 210 true,oG 213 (.call .any 239 [(.t 212)]) 210 true,oS 214 (.pick (.t 210) (.t 213) (.c (.bool false))),oM 215 214,oG 216 (.faddr 6 (.t 6)) 215 true,oP 217 216 215 true,oG 218 (.len false (.t 217)) 215 true,oG 219 (.bin .eql false (.t 218) (.c (.int .i64 0))) 215 true,oS 220 (.pick (.t 215) (.t 219) (.c (.bool false))),oM 221 220,oG 222 (.faddr 7 (.t 6)) 221 true,oP 223 222 221 true,oG 224 (.len false (.t 223)) 221 true,oG 225 (.bin .eql false (.t 224) (.c (.int .i64 1))) 221 true,oS 226 (.pick (.t 221) (.t 225) (.c (.bool false))),oM 227 226,oG 228 (.faddr 7 (.t 6)) 227 true,oP 229 228 227 true,oG 230 (.iaddr 2 (.t 229) (.c (.int .i64 0))) 227 true,oG 231 (.faddr 0 (.t 230)) 227 true,oP 232 231 227 true,oG 233 (.faddr 4 (.t 6)) 227 true,oP 234 233 227 true,oG 235 (.bin .eql false (.t 232) (.t 234)) 227 true,oS 236 (.pick (.t 227) (.t 235) (.c (.bool false))),oM 8 236]) .ret)) (oR [oC 238 .eql 46 7,oM 237 238] (.cond (.t 237) (.seq (.reg [oF 239 6 6,oL 240 239,oH 241 240,oF 242 4 9,oL 243 242,oB 244 .leq 241 243,oM 245 244,oG 246 (.load .any true 1 (.t 4)) 245 true,oG 247 (.faddr 8 (.t 9)) 245 true,oP 248 247 245 true,oG 249 (.faddr 6 (.t 6)) 245 true,oP 250 249 245 true,oG 251 (.mv (.t 3)) 245 true,oG 252 (.call .any 240 [(.t 246),(.t 248),(.t 250),(.t 251)]) 245 true,oS 253 (.pick (.t 245) (.t 252) (.c (.bool false))),oM 8 253]) .ret) (oR [oC 255 .eql 46 8,oM 254 255] (.cond (.t 254) (.seq (.seq (.reg [oF 256 5 6,oL 257 256,oH 258 257,oF 259 4 9,oL 260 259,oB 261 .gtr 258 260,oM 262 261,oG 263 (.faddr 6 (.t 6)) 262 false,oP 264 263 262 false,oG 265 (.len false (.t 264)) 262 false,oG 266 (.faddr 5 (.t 6)) 262 false,oP 267 266 262 false,oG 268 (.len false (.t 267)) 262 false,oG 269 (.bin .neq false (.t 265) (.t 268)) 262 false,oS 270 (.pick (.t 262) (.c (.bool true)) (.t 269)),oM 271 270,oG 272 (.load .any true 1 (.t 4)) 271 false,oG 273 (.faddr 7 (.t 9)) 271 false,oP 274 273 271 false,oG 275 (.faddr 5 (.t 6)) 271 false,oP 276 275 271 false,oG 277 (.mv (.t 3)) 271 false,oG 278 (.call .any 240 [(.t 272),(.t 274),(.t 276),(.t 277)]) 271 false,oG 279 (.un .not (.t 278)) 271 false,oS 280 (.pick (.t 271) (.c (.bool true)) (.t 279))]) (.cond (.t 280) (oR [oZ 8 false] .ret) .skip)) (.seq (oR [oJ 20 1] (.block 5 (.loop q4p))) (.seq (.reg [oA 301 1 4,oF 302 8 9,oL 303 302,oF 304 6 6,oL 305 304,oM 306 3,oS 307 (.call .any 240 [(.t 301),(.t 303),(.t 305),(.t 306)]),oM 8 307]) .ret))) (oR [oC 309 .eql 46 9,oM 308 309] (.cond (.t 308) (.seq (.reg [oF 310 6 6,oL 311 310,oH 312 311,oC 313 .leq 312 1,oM 314 313,oG 315 (.load .any true 1 (.t 4)) 314 true,oG 316 (.faddr 8 (.t 9)) 314 true,oP 317 316 314 true,oG 318 (.faddr 6 (.t 6)) 314 true,oP 319 318 314 true,oG 320 (.mv (.t 3)) 314 true,oG 321 (.call .any 240 [(.t 315),(.t 317),(.t 319),(.t 320)]) 314 true,oS 322 (.pick (.t 314) (.t 321) (.c (.bool false))),oM 8 322]) .ret) .skip)))))))))))))))))) (oR [oZ 8 true] .ret)))))),[(.tmp 8)],4,[]⟩
theorem ok_value_fits:FnOk Tryz.prog 227 q06:=⟨fun xs w=>by kernel_rfl,_,Tryz.func227,by kernel_rfl⟩
def q37:FnC:=⟨(.seq (.reg [oS 2 (.mv (.c (.sl true [])))]) (.seq (.seq (.reg [oM 3 0,oS 4 (.eqn false false (.t 3) (.c (.sl true [])))]) (.cond (.t 4) (.seq (.reg [oS 2 (.mv (.c (.sl true [])))]) .ret) .skip)) (.seq (.reg [oS 5 (.bsl [(.int .i64 0)] 0 []),oM 6 0,oS 7 (.app .any 3 1 8 (.t 5) (.t 6)),oM 2 7]) .ret))),[(.tmp 2)],1,[]⟩
theorem q8I:FnOk Tryz.prog 228 q37:=⟨fun xs w=>by kernel_rfl,_,Tryz.func228,by kernel_rfl⟩
end Go.Proofs.YtbnlmgncbgaepaaGreat
