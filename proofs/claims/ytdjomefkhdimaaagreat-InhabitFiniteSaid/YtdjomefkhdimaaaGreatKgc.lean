/- Part of the proof: the machine, the code of functions, and what it computes. -/
import Derived.Test.YtdjomefkhdimaaaGreatKgb
import Derived.LoopN
import Derived.Deep.Slices
import Derived.Deep.Fields
import Derived.ChangeSame
import Derived.OpenShut
import Derived.Carry
import Derived.ChangeOld
import Derived.Test.YtdjomefkhdimaaaGreatChecked
import Derived.Lib.Builder
import Derived.Lib.UnsafeStr
import Derived.Shelf.RegionOpenPlain
set_option linter.unusedSimpArgs false
set_option linter.unusedVariables false
set_option linter.unusedSectionVars false
set_option maxRecDepth 100000
set_option maxHeartbeats 8000000
namespace Go.Proofs.YtdjomefkhdimaaaGreat
open Go
section
open Go Go.RowKit
section
variable {P:Program} {O:Objs} {nt B:Nat} {F0:Own} {av0:Av} {w0:World} {s s':MSt} {a:Act} {w w':World} {call:q1l} {lp:LH}
def exOf:Ex->Exit
 | .nrm=>.normal
 | .exit id=>.exit id
 | .ret=>.ret
def LpOk (P:Program) (O:Objs) (N:Nat) (lp:LpT):Prop :=
 ∀ (boxes:List Nat) (nt B:Nat) (F0:Own) (av0:Av) (w0:World) (code:Code) (b:C) (s:MSt) (k:Ex->MSt->Option RV) (r:RV) (a:Act) (w:World) (Q:Exit->Act->World->Prop),comp P boxes nt code=some b->lp b s k=some r->RelE P O nt B F0 av0 w0 (fun _=>False) s a w →
  (∀ e s' a' w',RelE P O nt B F0 av0 w0 (fun _=>False) s' a' w'->k e s'=some r->Q (exOf e) a' w')->Code.rounds P code Q N a w
theorem q2r (hm:P.follows .mixedOrders=true) (hcall:∀ f args S r,call f args S=some r->q1C P O f args S r) {N:Nat} (hlp:LpOk P O N lp.l) (hhp:HpOk P O lp.h) {boxes:List Nat} :
  ∀ (code:Code) (c:C) (s:MSt) (k:Ex->MSt->Option RV) (r:RV) (a:Act) (w:World) (Q:Exit->Act->World->Prop),comp P boxes nt code=some c->c.run call lp s k=some r->RelE P O nt B F0 av0 w0 (fun _=>False) s a w →
   (∀ e s' a' w',RelE P O nt B F0 av0 w0 (fun _=>False) s' a' w'->k e s'=some r->Q (exOf e) a' w')->code.wp P Q a w
 | .skip,c,s,k,r,a,w,Q,hc,hr,R,hk=>by
  injection hc with hc
  subst hc
  exact wp_skip (hk .nrm s a w R hr)
 | .seq x y,c,s,k,r,a,w,Q,hc,hr,R,hk=>by
  unfold comp at hc
  split at hc
  ·rename_i cx cy hx hy
   injection hc with hc
   subst hc
   refine wp_seq (q2r hm hcall hlp hhp x cx s _ r a w _ hx hr R fun e s' a' w' R' he=>?_)
   cases e with
   | nrm=>exact q2r hm hcall hlp hhp y cy s' k r a' w' Q hy he R' hk
   | exit id=>exact hk _ _ _ _ R' he
   | ret=>exact hk _ _ _ _ R' he
  ·cases hc
 | .region id ops draw,c,s,k,r,a,w,Q,hc,hr,R,hk=>by
  unfold comp at hc
  split at hc
  ·rename_i cs hcs
   split at hc
   ·rename_i hok
    injection hc with hc
    subst hc
    simp only [Bool.and_eq_true,Bool.or_eq_true] at hok
    simp only [C.run] at hr
    exact region_sound hm hcall hhp hcs hok.1 (fun h=>by rcases hok.2 with h' | h'; rw [h] at h'; cases h'; exact h') R hr fun s' a' w' R' hk'=>hk .nrm _ _ _ R' hk'
   ·cases hc
  ·cases hc
 | .cond x t e,c,s,k,r,a,w,Q,hc,hr,R,hk=>by
  unfold comp at hc
  split at hc
  ·rename_i cx ct ce hx ht he
   injection hc with hc
   subst hc
   simp only [C.run] at hr
   split at hr
   ·rename_i b hb
    have hv:a.eval x=.bool b:=by
     obtain ⟨ι,Θ,R⟩:=R
     have:=(R.opd hx).1
     rwa [hb,q0L] at this
    cases b with
    | true=>exact wp_cond_true hv (q2r hm hcall hlp hhp t ct s k r a w Q ht (by simpa using hr) R hk)
    | false=>exact wp_cond_false hv (q2r hm hcall hlp hhp e ce s k r a w Q he (by simpa using hr) R hk)
   ·cases hr
  ·cases hc
 | .block id b,c,s,k,r,a,w,Q,hc,hr,R,hk=>by
  unfold comp at hc
  obtain ⟨cb,hb,rfl⟩:=Option.map_eq_some_iff.1 hc
  refine wp_block (q2r hm hcall hlp hhp b cb s _ r a w _ hb hr R fun e s' a' w' R' he=>?_)
  cases e with
  | nrm=>exact hk _ _ _ _ R' he
  | ret=>exact hk _ _ _ _ R' he
  | exit j =>
   simp only at he
   show Exit.inBlock id Q (.exit j) a' w'
   unfold Exit.inBlock
   split at he
   ·rename_i e; simp only [e,if_true]; exact hk _ _ _ _ R' he
   ·rename_i e; simp only [e,if_false]; exact hk _ _ _ _ R' he
 | .loop b,c,s,k,r,a,w,Q,hc,hr,R,hk=>by
  unfold comp at hc
  obtain ⟨cb,hb,rfl⟩:=Option.map_eq_some_iff.1 hc
  exact wp_loop_rounds N (hlp boxes nt B F0 av0 w0 b cb s k r a w Q hb hr R hk)
 | .exit id,c,s,k,r,a,w,Q,hc,hr,R,hk=>by
  injection hc with hc
  subst hc
  exact wp_exit (hk (.exit id) s a w R hr)
 | .ret,c,s,k,r,a,w,Q,hc,hr,R,hk=>by
  injection hc with hc
  subst hc
  exact wp_ret (hk .ret s a w R hr)
 | .scope b,c,s,k,r,a,w,Q,hc,hr,R,hk=>by
  unfold comp at hc
  refine wp_scope_straight (q2r hm hcall hlp hhp b c s k r a w _ hc hr R fun e s' a' w' R' he=>?_)
  have:=hk _ _ _ _ R' he
  cases e <;> exact this
 | .rangeFunc ..,_,_,_,_,_,_,_,hc,_,_,_=>by cases hc
 | .label _,_,_,_,_,_,_,_,hc,_,_,_=>by cases hc
 | .goto _,_,_,_,_,_,_,_,hc,_,_,_=>by cases hc
 | .refuse _,_,_,_,_,_,_,_,hc,_,_,_=>by cases hc
theorem rep_of_S {ι:Ix} {av:Av} {x:AV} {v:Value} (h:RepS ι av (fun _ _=>False) w x v) (hx:x.free=true):Rep av w x v:=by
  cases x <;> first
    | exact h
    | (simp [AV.free,AV.free0] at hx; done)
    | (obtain ⟨us,hv,hc⟩:=h
       exact ⟨us,hv,q3C hc fun y hy=>List.all_eq_true.1 hx y hy⟩)
theorem RepT_length {av:Av}:∀ {xs:List AV} {us:List Value},RepT av w xs us->us.length=xs.length
 | [],_,h=>by simp only [RepT] at h; subst h; rfl
 | x :: r,_,h=>by
  simp only [RepT] at h
  obtain ⟨u,us',rfl,_,h⟩:=h
  simp [RepT_length h]
theorem q8J {p:Nat} {av:Av}:∀ {xs:List AV} {us:List Value},q7h p av w xs us->us.length=xs.length
 | [],_,h=>by simp only [q7h] at h; subst h; rfl
 | x :: r,_,h=>by
  simp only [q7h] at h
  obtain ⟨u,us',rfl,_,h⟩:=h
  simp [q8J h]
def q8f (ι:Ix) (av avb:Av) (w:World):List AV->List Value->Prop
 | [],us=>us=[]
 | x :: r,us=>∃ u us',us=u :: us'/\RepS ι av avb w x u/\q8f ι av avb w r us'
theorem RepS.toRep {ι:Ix} {av av' avb:Av} {x:AV} {v:Value} (h:RepS ι av avb w x v) (hx:x.free=true) (hav:∀ b o,av' b o->av b o):Rep av' w x v :=
 Rep.held (Held.less hav) _ _ (rep_of_S (free_rep (ι':=ι) h hx) hx)
theorem q8f.toT {ι:Ix} {av av' avb:Av} (hav:∀ b o,av' b o->av b o):∀ {xs:List AV} {us:List Value},q8f ι av avb w xs us->(∀ v∈xs,v.free=true)->RepT av' w xs us
 | [],_,h,_=>h
 | x :: r,_,h,hf=>by
  simp only [q8f] at h
  obtain ⟨u,us',rfl,h0,h⟩:=h
  exact ⟨u,us',rfl,h0.toRep (hf x List.mem_cons_self) hav,h.toT hav fun v hv=>hf v (List.mem_cons_of_mem _ hv)⟩
theorem unname_ptr {t n:Nat} {x:AV} (h:(q5f t n x).isObj=true):x=.ptr t n 0:=by
 cases x with
 | ptr t' n' o =>
  simp only [q5f] at h
  split at h
  ·rename_i e; obtain ⟨rfl,rfl,rfl⟩:=e; rfl
  ·cases h
 | _=>cases h
theorem unname_free {t n:Nat} {x:AV} (h:(q5f t n x).free=true):q5f t n x=x:=by
 cases x with
 | ptr t' n' o =>
  simp only [q5f] at h
  split at h <;> cases h
 | _=>rfl
theorem q8f.toO {ι:Ix} {av av' avb:Av} {t n p:Nat} (hp:ι t n=some p) (hav:∀ b o,av' b o->av b o):∀ {xs:List AV} {us:List Value},q8f ι av avb w xs us->(∀ v∈xs,((q5f t n v).free||(q5f t n v).isObj)=true)->q7h p av' w (xs.map (q5f t n)) us
 | [],_,h,_=>h
 | x :: r,_,h,hf=>by
  simp only [q8f] at h
  obtain ⟨u,us',rfl,h0,h⟩:=h
  refine ⟨u,us',rfl,?_,h.toO hp hav fun v hv=>hf v (List.mem_cons_of_mem _ hv)⟩
  have h1:=hf x List.mem_cons_self
  unfold RepO
  split
  ·rename_i ho
   have:=unname_ptr ho
   subst this
   obtain ⟨b,hb,hv⟩:=h0
   rw [hp] at hb
   injection hb with hb
   rw [hv,hb]
  ·rename_i ho
   have hfr:(q5f t n x).free=true:=by
    rcases Bool.or_eq_true_iff.1 h1 with h | h
    ·exact h
    ·exact absurd h ho
   have hsame:=unname_free hfr
   rw [hsame] at hfr ⊢
   exact h0.toRep hfr hav
def avF (s:MSt) (av:Av) (ι:Ix):Av:=fun b o=>av b o/\¬ ∃ t n r,s.mem t n=some r/\ι t n=some b
theorem RepC.frz1 {D:Nat->Prop} {ι:Ix} {Θ:Fam} (R:Rel P O nt B F0 av0 w0 D s a w ι Θ) {x:AV} {u:Value} (h:RepC ι (avA av0 ι Θ) w x u):RepC ι (avF s (avA av0 ι Θ) ι) w (x.frz1 s) u:=by
 have less:Held (avA av0 ι Θ) (avF s (avA av0 ι Θ) ι) w w:=Held.less fun b o h=>h.1
 have same:=RepC.held (Ix.Le.refl ι) less x u h
 cases x with
 | ref t n sz off len c =>
  simp only [AV.frz1]
  split
  ·rename_i l hl
   obtain ⟨r,hm,hl⟩:=Option.bind_eq_some_iff.1 hl
   obtain ⟨b,hb,hle,cc,hcc,hz,hv⟩:=h
   obtain ⟨hno,b',cur,ty,hb',hheap,hrow,_⟩:=R.rows t n r hm
   rw [hb] at hb'
   injection hb' with hb'
   subst hb'
   obtain ⟨h1,h2,us,hL,hus⟩:=q4I hrow hheap hl
   subst h1
   show Rep _ w (.sl false l) u
   simp only [Rep]
   refine ⟨_,cc,hv,Nat.le_trans hle hcc,fun x hx y hy=>(h2 x hx).trans (h2 y hy).symm,(fun h=>by cases h),fun _=>⟨fun h=>(by cases h),fun _=>⟨b,off,rfl,?_⟩⟩⟩
   rw [q2C]
   exact q56 (RepL.held less _ _ hL) fun j u hj=>⟨hus j u hj,fun h=>h.2 ⟨t,n,r,hm,hb⟩⟩
  ·exact same
 | _=>exact same
theorem q0p.frz1 {D:Nat->Prop} {ι:Ix} {Θ:Fam} (R:Rel P O nt B F0 av0 w0 D s a w ι Θ):∀ {xs:List AV} {us:List Value},q0p ι (avA av0 ι Θ) w xs us->q0p ι (avF s (avA av0 ι Θ) ι) w (xs.map (AV.frz1 s)) us
 | [],_,h=>h
 | x :: r,_,h=>by
  simp only [q0p] at h
  obtain ⟨u,us',rfl,h0,h1,h⟩:=h
  exact ⟨u,us',rfl,h0.frz1 R,h1,h.frz1 R⟩
theorem RepC.frz {D:Nat->Prop} {ι:Ix} {Θ:Fam} (R:Rel P O nt B F0 av0 w0 D s a w ι Θ) {x:AV} {u:Value} (h:RepC ι (avA av0 ι Θ) w x u):RepC ι (avF s (avA av0 ι Θ) ι) w (x.frz0 s) u:=by
 have less:Held (avA av0 ι Θ) (avF s (avA av0 ι Θ) ι) w w:=Held.less fun b o h=>h.1
 have same:=RepC.held (Ix.Le.refl ι) less x u h
 cases x with
 | ref t n sz off len c =>
  simp only [AV.frz0]
  split
  ·rename_i l hl
   obtain ⟨r,hm,hl⟩:=Option.bind_eq_some_iff.1 hl
   obtain ⟨b,hb,hle,cc,hcc,hz,hv⟩:=h
   obtain ⟨hno,b',cur,ty,hb',hheap,hrow,_⟩:=R.rows t n r hm
   rw [hb] at hb'
   injection hb' with hb'
   subst hb'
   obtain ⟨h1,h2,us,hL,hus⟩:=q4I hrow hheap hl
   subst h1
   show Rep _ w (.sl false l) u
   simp only [Rep]
   refine ⟨_,cc,hv,Nat.le_trans hle hcc,fun x hx y hy=>(h2 x hx).trans (h2 y hy).symm,(fun h=>by cases h),fun _=>⟨fun h=>(by cases h),fun _=>⟨b,off,rfl,?_⟩⟩⟩
   rw [q2C]
   exact q56 (RepL.held less _ _ hL) fun j u hj=>⟨hus j u hj,fun h=>h.2 ⟨t,n,r,hm,hb⟩⟩
  ·split
   ·rename_i l hl
    obtain ⟨r,hm,hl⟩:=Option.bind_eq_some_iff.1 hl
    obtain ⟨l0,hl0,hl⟩:=Option.bind_eq_some_iff.1 hl
    split at hl
    ·rename_i hfree
     injection hl with hl
     subst hl
     obtain ⟨b,hb,hle,cc,hcc,hz,hv⟩:=h
     obtain ⟨hno,b',cur,ty,hb',hheap,hrow,_⟩:=R.rows t n r hm
     rw [hb] at hb'
     injection hb' with hb'
     subst hb'
     obtain ⟨h1,h2,us,hL,hus⟩:=q73 hrow hheap hl0
     subst h1
     have hL1:=q0p.frz1 R hL
     rw [List.map_flatten] at hL1
     have hL2:=q3C hL1 fun x hx=>List.all_eq_true.1 hfree x hx
     show Rep _ w (.sl false _) u
     simp only [Rep]
     refine ⟨_,cc,by rw [List.length_map]; exact hv,by rw [List.length_map]; exact Nat.le_trans hle hcc,fun x hx y hy=>?_,(fun h=>by cases h),fun _=>⟨fun h=>(by cases h),fun _=>⟨b,off,rfl,?_⟩⟩⟩
     ·obtain ⟨x',hx',rfl⟩:=List.mem_map.1 hx
      obtain ⟨y',hy',rfl⟩:=List.mem_map.1 hy
      rw [List.length_map,List.length_map,h2 x' hx',h2 y' hy']
     ·rw [q2C]
      exact q56 hL2 fun j u hj=>⟨hus j u hj,fun h=>h.2 ⟨t,n,r,hm,hb⟩⟩
    ·cases hl
   ·exact same
 | _=>exact same
theorem q0p.frz {D:Nat->Prop} {ι:Ix} {Θ:Fam} (R:Rel P O nt B F0 av0 w0 D s a w ι Θ):∀ {xs:List AV} {us:List Value},q0p ι (avA av0 ι Θ) w xs us->q0p ι (avF s (avA av0 ι Θ) ι) w (xs.map (AV.frz0 s)) us
 | [],_,h=>h
 | x :: r,_,h=>by
  simp only [q0p] at h
  obtain ⟨u,us',rfl,h0,h1,h⟩:=h
  exact ⟨u,us',rfl,h0.frz R,h1,h.frz R⟩
theorem RepS.frz {D:Nat->Prop} {ι:Ix} {Θ:Fam} (R:Rel P O nt B F0 av0 w0 D s a w ι Θ) {x:AV} {u:Value} (h:RepS ι (avA av0 ι Θ) (avB ι Θ) w x u):RepS ι (avF s (avA av0 ι Θ) ι) (avB ι Θ) w (x.frz s) u:=by
 have less:Held (avA av0 ι Θ) (avF s (avA av0 ι Θ) ι) w w:=Held.less fun b o h=>h.1
 have same:=RepS.held (Ix.Le.refl ι) less (Held.refl _ _) x u h
 cases x with
 | agg cs=>obtain ⟨us,hv,hc⟩:=h; exact ⟨us,hv,hc.frz R⟩
 | ref t n sz off len c =>
  have:=RepC.frz R (x:=.ref t n sz off len c) h
  show RepS _ _ _ w (AV.frz0 s (.ref t n sz off len c)) u
  generalize hy:AV.frz0 s (.ref t n sz off len c)=y at this ⊢
  simp only [AV.frz0] at hy
  split at hy
  ·subst hy; exact this
  ·split at hy <;> (subst hy; exact this)
 | _=>exact same
theorem q8f.frz {D:Nat->Prop} {ι:Ix} {Θ:Fam} (R:Rel P O nt B F0 av0 w0 D s a w ι Θ):∀ {xs:List AV} {us:List Value},q8f ι (avA av0 ι Θ) (avB ι Θ) w xs us->q8f ι (avF s (avA av0 ι Θ) ι) (avB ι Θ) w (xs.map (AV.frz s)) us
 | [],_,h=>h
 | x :: r,_,h=>by
  simp only [q8f] at h
  obtain ⟨u,us',rfl,h0,h⟩:=h
  exact ⟨u,us',rfl,h0.frz R,h.frz R⟩
def packV (us:List Value):Value:=if h:us.toArray.size=1 then us.toArray[0] else .tuple us.toArray
theorem pack_rep {av:Av}:∀ {xs:List AV} {us:List Value},RepT av w xs us->Rep av w (pack xs) (packV us)
 | [],us,h=>by simp only [RepT] at h; subst h; exact ⟨#[],rfl,rfl⟩
 | [x],us,h=>by
  simp only [RepT] at h
  obtain ⟨u,us',rfl,h0,rfl⟩:=h
  exact h0
 | x :: y :: r,us,h=>by
  have hl:=RepT_length h
  have:¬ us.toArray.size=1:=by simp; simp at hl; omega
  unfold packV
  rw [dif_neg this]
  exact ⟨_,rfl,h⟩
theorem pack_repN {p:Nat} {av:Av}:∀ {xs:List AV} {us:List Value},q7h p av w xs us->(∀ v∈xs,(v.free||v.isObj)=true)->RepN p av w (pack xs) (packV us)
 | [],us,h,_=>by simp only [q7h] at h; subst h; exact ⟨#[],rfl,rfl⟩
 | [x],us,h,hf=>by
  simp only [q7h] at h
  obtain ⟨u,us',rfl,h0,rfl⟩:=h
  have:=hf x List.mem_cons_self
  cases x with
  | tup vs=>cases this
  | _=>exact h0
 | x :: y :: r,us,h,_=>by
  have hl:=q8J h
  have:¬ us.toArray.size=1:=by simp; simp at hl; omega
  unfold packV
  rw [dif_neg this]
  exact ⟨_,rfl,h⟩
def q7D (tmps:Array Value):ResultVar->Sem Value
 | .tmp t=>pure (tmps.getD t undef)
 | .cell b t=>do loadVar t (<- asAddr (tmps.getD b undef))
theorem res_run {D:Nat->Prop} {ι:Ix} {Θ:Fam} (R:Rel P O nt B F0 av0 w0 D s a w ι Θ):∀ {rs:List ResultVar} {cs:List ResC} {vs:List AV},q5P P rs=some cs->resC s cs=some vs →
  ∃ us,(rs.mapM (q7D a.tmps)).run P w=Result.ok us w/\q8f ι (avA av0 ι Θ) (avB ι Θ) w vs us
 | [],cs,vs,h,hr=>by
  injection h with h
  subst h
  injection hr with hr
  subst hr
  exact ⟨[],by simp,rfl⟩
 | .tmp t :: rs,cs,vs,h,hr=>by
  unfold q5P at h
  obtain ⟨l,hl,rfl⟩:=Option.map_eq_some_iff.1 h
  simp only [resC] at hr
  obtain ⟨vs',hv,rfl⟩:=Option.map_eq_some_iff.1 hr
  obtain ⟨us,hu,hT⟩:=res_run R hl hv
  refine ⟨a.tmps.getD t undef :: us,by rw [List.mapM_cons]; simp only [q7D,Sem.run_bind,Sem.run_pure,Result.andThen_ok,hu],_,us,rfl,R.env t,hT⟩
 | .cell b t :: rs,cs,vs,h,hr=>by
  unfold q5P at h
  split at h
  ·rename_i ag z l hA hz hl
   injection h with h
   subst h
   simp only [resC] at hr
   split at hr
   ·rename_i t' n off hb
    cases hm:s.mem t' n with
    | none=>rw [hm] at hr; cases hr
    | some row =>
     rw [hm,Option.bind_some] at hr
     obtain ⟨x,hx,hr⟩:=Option.bind_eq_some_iff.1 hr
     obtain ⟨vs',hv,rfl⟩:=Option.map_eq_some_iff.1 hr
     obtain ⟨us,hu,hT⟩:=res_run R hl hv
     have hv:=R.env b
     rw [hb,q2A] at hv
     obtain ⟨bb,hbb,hv⟩:=hv
     obtain ⟨hnob,b',cur,ty,hb',hheap,hrow,_⟩:=R.rows t' n row hm
     rw [hbb] at hb'
     injection hb' with hb'
     subst hb'
     have hcell:∀ (j:Nat) (u:Value),((cur.toList.take row.length).drop off)[j]?=some u->w.cell? ⟨bb,off + j,none⟩=some u:=fun j u hu=>by
      rw [cell_of_row w bb (off + j) cur ty (0,0) hheap]
      rw [List.getElem?_drop,List.getElem?_take] at hu
      split at hu
      ·simpa using hu
      ·cases hu
     have hrep:=q2t off hrow.rep
     have hi:q4k ag z ((row.map (·.v)).drop off)=some x.v:=by
      cases ag with
      | true =>
       simp only [q0C,if_true] at hx
       split at hx
       ·rename_i hle
        injection hx with hx
        subst hx
        simp only [q4k,if_true,List.length_drop,List.length_map]
        rw [if_pos (by omega)]
        simp [List.map_take,List.map_drop]
       ·cases hx
      | false =>
       simp only [q0C,Bool.false_eq_true,if_false] at hx
       simp [q4k,List.getElem?_drop,hx]
     obtain ⟨u,hrun,hS,_⟩:=q7V (P:=P) (avb:=avB ι Θ) hA hz hrep hcell hi
     refine ⟨u :: us,by rw [List.mapM_cons]; simp only [q7D,Sem.run_bind,hv,asAddr,Sem.run_pure,Result.andThen_ok,hrun,hu],_,us,rfl,hS,hT⟩
   ·cases hr
  ·cases h
structure FnOk (P:Program) (f:FuncId) (c:FnC):Prop where
 enter:∀ xs w,(callFunc f xs).run P w=.ok (.enter f xs) w
 fn:∃ fn,P.funcs[f]?=some fn/\q25 P c.mu fn=some c
theorem RepA_length {ι:Ix} {av avl:Av}:∀ {xs:List AV} {us:List Value},RepA ι av avl w xs us->us.length=xs.length
 | [],_,h=>by simp only [RepA] at h; subst h; rfl
 | x :: r,_,h=>by
  simp only [RepA] at h
  obtain ⟨u,us',rfl,_,h⟩:=h
  simp [RepA_length h]
theorem RepA_get {ι:Ix} {av avl:Av}:∀ {xs:List AV} {us:List Value} (_:RepA ι av avl w xs us) (t:Nat),RepS ι av avl w (xs.getD t .undef) (us.getD t undef)
 | [],_,_,_=>by simp [RepS]
 | x :: r,_,h,t=>by
  simp only [RepA] at h
  obtain ⟨u,us',rfl,h0,h⟩:=h
  cases t with
  | zero=>simpa using h0
  | succ t=>simpa using RepA_get h t
theorem init_size {vs:List Value} {args:List AV} {ι:Ix} {av avl:Av} {np:Nat} (h:RepA ι av avl w args vs) (hl:args.length=np) (hn:np<=nt):(vs.toArray++Array.replicate (nt - vs.toArray.size) undef).size=nt:=by
 have:=RepA_length h
 simp
 omega
theorem init_env {vs:List Value} {args:List AV} {ι ι':Ix} {av av' avb avl:Av} {S0:Option AV} (h:RepA ι av avl w args vs) (hι:Ix.Le ι ι') (hA:Held av av' w w) (hB:Held avl avb w w) (t:Nat) :
  RepS ι' av' avb w ((MSt.init args S0).env t).v ((vs.toArray++Array.replicate (nt - vs.toArray.size) undef).getD t undef):=by
 have h1:=RepS.held hι hA hB _ _ (RepA_get h t)
 have h2:(vs.toArray++Array.replicate (nt - vs.toArray.size) undef).getD t undef=vs.getD t undef:=by
  simp only [Array.getD_eq_getD_getElem?,List.getD_eq_getElem?_getD,Array.getElem?_append,List.size_toArray,List.getElem?_toArray]
  split
  ·rfl
  ·rename_i hge
   rw [List.getElem?_eq_none (by omega)]
   simp only [Array.getElem?_replicate]
   split <;> rfl
 rw [h2]
 exact h1
theorem init_none {vs:List Value} {args:List AV} {av:Av} {np:Nat} (h:RepA Ix.none av (fun _ _=>False) w args vs) (hav:∀ b o,av b o->b<w.heap.size) (hl:args.length=np) (hn:np<=nt) :
  RelE P O nt w.heap.size ⟨fun _=>False,none,fun _=>False,0,fun _=>undef⟩ av w (fun _=>False) (MSt.init args none) { tmps:=vs.toArray++Array.replicate (nt - vs.toArray.size) undef,defers:=[] } w:=by
 have hB0:∀ b o,avB Ix.none (fun _=>none) b o->False:=fun b o h=>by rcases h with (⟨t,n,h⟩ | ⟨t,n,H,h,_⟩) | ⟨k,ow,h,_⟩ <;> cases h
 have hA:Held av (avA av Ix.none (fun _=>none)) w w:=Held.less fun b o h=>h.resolve_right (hB0 b o)
 have hB:Held (fun _ _=>False) (avB Ix.none (fun _=>none)) w w:=Held.less fun b o h=>hB0 b o h
 exact ⟨Ix.none,fun _=>none,rfl,init_size h hl hn,fun t=>init_env h (Ix.Le.refl _) hA hB t,fun t=>trivial,fun t n r h=>(by cases h),fun t n b h=>(by cases h),fun _ _ _ _ _ h=>(by cases h),fun _ _ h=>(by cases h),fun _ _ _ _ h=>(by cases h),fun _ _ _ _ h=>(by cases h),hav,fun _ h=>(by cases h),Keep.refl _ _,rfl,fun t n S h=>(by simp [MSt.init] at h),fun t n H h=>(by cases h),fun _=>trivial,fun _=>trivial⟩
theorem init_some {vs:List Value} {args:List AV} {av:Av} {np p:Nat} {H:Nat->Prop} {S:AV} (h:RepA (Ix.one p) av (fun b _=>H b) w args vs) (hav:∀ b o,av b o->b<w.heap.size) (hH:∀ b o,H b->av b o) (hat:O.at_ S H p w) (hl:args.length=np) (hn:np<=nt) :
  RelE P O nt w.heap.size ⟨H,some p,fun _=>False,0,fun _=>undef⟩ av w (fun _=>False) (MSt.init args (some S)) { tmps:=vs.toArray++Array.replicate (nt - vs.toArray.size) undef,defers:=[] } w:=by
 obtain ⟨ι,hι⟩:∃ ι:Ix,ι=⟨fun t n=>if t=0/\n=0 then some p else none,fun t n=>if t=0/\n=0 then some H else none,fun _=>0⟩:=⟨_,rfl⟩
 have hf:∀ t n b,ι t n=some b->t=0/\n=0/\b=p:=fun t n b h=>by
  subst hι
  have h':(if t=0/\n=0 then some p else none)=some b:=h
  split at h'
  ·rename_i e; injection h' with h'; exact ⟨e.1,e.2,h'.symm⟩
  ·cases h'
 have ho:∀ t n H1,ι.ob t n=some H1->t=0/\n=0/\H1=H:=fun t n b h=>by
  subst hι
  simp only at h
  split at h
  ·rename_i e; injection h with h'; exact ⟨e.1,e.2,h'.symm⟩
  ·cases h
 have h0:ι 0 0=some p:=by subst hι; rfl
 have h1:ι.ob 0 0=some H:=by subst hι; rfl
 have hsub:∀ t n b,Ix.one p t n=some b->ι t n=some b:=fun t n b h=>by subst hι; exact h
 have hle:Ix.Le (Ix.one p) ι:=⟨hsub,fun _ _ _ _=>by subst hι; rfl⟩
 clear hι
 have hpH:=O.main hat
 have hB0:∀ b o,avB ι (fun _=>none) b o->H b:=fun b o h=>by
  rcases h with (⟨t,n,h⟩ | ⟨t,n,H1,h,hb⟩) | ⟨k,ow,h,_⟩
  ·rw [(hf _ _ _ h).2.2]; exact hpH
  ·rw [(ho _ _ _ h).2.2] at hb; exact hb
  ·cases h
 have hA:Held av (avA av ι (fun _=>none)) w w:=Held.less fun b o h=>h.elim id fun h=>hH b o (hB0 b o h)
 refine ⟨ι,fun _=>none,rfl,init_size h hl hn,fun t=>?_,fun t=>trivial,fun t n r h=>(by cases h),fun t n b h=>?_,fun t n t' n' b h h'=>?_,fun _ _ h=>(by cases h),fun _ _ _ _ h=>(by cases h),fun _ _ _ _ h=>(by cases h),hav,fun q h=>?_,Keep.refl _ _,rfl,fun t n S1 h=>?_,fun t n H1 h=>?_,fun _=>trivial,fun _=>trivial⟩
 ·exact init_env h hle hA (Held.less fun b o h=>hB0 b o h) t
 ·obtain ⟨rfl,rfl,rfl⟩:=hf _ _ _ h
  exact ⟨.inr hpH,O.lt hat hpH,.inl (by simp [MSt.init])⟩
 ·obtain ⟨rfl,rfl,_⟩:=hf _ _ _ h
  obtain ⟨rfl,rfl,_⟩:=hf _ _ _ h'
  exact ⟨rfl,rfl⟩
 ·injection h with h
  subst h
  exact ⟨h0,.inr ⟨H,h1⟩⟩
 ·simp only [MSt.init] at h
  split at h
  ·rename_i e
   injection h with h
   subst h
   exact ⟨p,H,by rw [e.1,e.2]; exact h0,by rw [e.1,e.2]; exact h1,hat⟩
  ·cases h
 ·obtain ⟨rfl,rfl,rfl⟩:=ho _ _ _ h
  refine ⟨fun b hb=>⟨.inr hb,O.lt hat hb,fun t' n' h=>?_,fun _ _ h=>(by cases h),fun t' n' H' h _=>?_⟩,.inl (by simp [MSt.init])⟩
  ·obtain ⟨rfl,rfl,_⟩:=hf _ _ _ h; exact ⟨rfl,rfl⟩
  ·obtain ⟨rfl,rfl,_⟩:=ho _ _ _ h; exact ⟨rfl,rfl⟩
theorem init_row {vs:List Value} {args cs:List AV} {av:Av} {np p:Nat} {cur:Array Value} {ty:TypeId} (h:RepA (Ix.row p cur.size) av (fun b _=>b=p) w args vs) (hav:∀ b o,av b o->b<w.heap.size) (hap:∀ o,av p o) (hheap:w.heap[p]?=some (.cells cur ty (0,0))) (hcs:cs.length<=cur.size) (hrep:RepL av w cs (cur.toList.take cs.length)) (hl:args.length=np) (hn:np<=nt) :
  RelE P O nt w.heap.size ⟨fun b=>b=p,some p,fun b=>b=p,cur.size,fun _=>undef⟩ av w (fun _=>False) (MSt.initR args cs) { tmps:=vs.toArray++Array.replicate (nt - vs.toArray.size) undef,defers:=[] } w:=by
 have hf:∀ t n b,(Ix.row p cur.size) t n=some b->t=0/\n=0/\b=p:=fun t n b h=>by
  have h':(if t=0/\n=0 then some p else none)=some b:=h
  split at h'
  ·rename_i e; injection h' with h'; exact ⟨e.1,e.2,h'.symm⟩
  ·cases h'
 have hB0:∀ b o,avB (Ix.row p cur.size) (fun _=>none) b o->b=p:=fun b o h=>by
  rcases h with (⟨t,n,h⟩ | ⟨t,n,H1,h,hb⟩) | ⟨k,ow,h,_⟩
  ·exact (hf _ _ _ h).2.2
  ·cases h
  ·cases h
 have hA:Held av (avA av (Ix.row p cur.size) (fun _=>none)) w w:=Held.less fun b o h=>h.elim id fun h=>hB0 b o h ▸ hap o
 refine ⟨Ix.row p cur.size,fun _=>none,rfl,init_size h hl hn,fun t=>?_,fun t=>trivial,fun t n r h=>?_,fun t n b h=>?_,fun t n t' n' b h h'=>?_,fun _ _ h=>(by cases h),fun _ _ _ _ h=>(by cases h),fun _ _ _ _ h=>(by cases h),hav,fun q h=>?_,Keep.refl _ _,rfl,fun t n S1 h=>(by cases h),fun t n H1 h=>(by cases h),fun _=>trivial,fun _=>trivial⟩
 ·exact init_env (S0:=none) h (Ix.Le.refl _) hA (Held.less fun b o h=>hB0 b o h) t
 ·simp only [MSt.initR] at h
  split at h
  ·rename_i e
   injection h with h
   subst h
   refine ⟨rfl,p,cur,ty,by rw [e.1,e.2]; rfl,hheap,row_ofz (RepL.held hA _ _ hrep) fun j u hu=>?_,.inr rfl,rfl⟩
   have hj:j<cs.length:=by
    have:=(List.getElem?_eq_some_iff.1 hu).1
    rw [List.length_take] at this
    omega
   rw [List.getElem?_take_of_lt hj] at hu
   simpa using hu
  ·cases h
 ·obtain ⟨rfl,rfl,rfl⟩:=hf _ _ _ h
  exact ⟨.inr rfl,q0g hheap,.inl (by simp [MSt.initR])⟩
 ·obtain ⟨rfl,rfl,_⟩:=hf _ _ _ h
  obtain ⟨rfl,rfl,_⟩:=hf _ _ _ h'
  exact ⟨rfl,rfl⟩
 ·injection h with h
  subst h
  exact ⟨rfl,.inl ⟨rfl,rfl⟩⟩
theorem Rel.drop0 {D:Nat->Prop} {ι:Ix} {Θ:Fam} (R:Rel P O nt B F0 av0 w0 D s a w ι Θ):Rel P O nt B F0 av0 w0 D s.drop0 a w ι Θ :=
 ⟨R.defers,R.size,R.env,R.ann,fun t n r h=>by
  simp only [MSt.drop0] at h
  split at h
  ·cases h
  ·exact R.rows t n r h,R.mine,R.inj,R.tok,R.tinj,R.apart,R.out,R.pin,R.kept,R.base,R.objs,R.obs,R.gen,R.gann⟩
theorem row_sound (hm:P.follows .mixedOrders=true) {call:q1l} {lp:LH} {N:Nat} (hcall:∀ f args S r,call f args S=some r->q1C P O f args S r) (hlp:LpOk P O N lp.l) (hhp:HpOk P O lp.h) {f:FuncId} {fn:Func} {c:FnC} (henter:∀ xs w,(callFunc f xs).run P w=.ok (.enter f xs) w) (hfn:P.funcs[f]?=some fn) (hcF:q25 P c.mu fn=some c) {rest cs:List AV} {r:RV} (hlen:rest.length=c.np)
  (h:c.code.run call lp (MSt.initR rest cs) (finR c cs.length)=some r):CallRow P f rest (some (.agg cs)) r:=by
 unfold q25 at hcF
 split at hcF
 ·cases hcF
 ·rename_i code hbody
  split at hcF
  ·rename_i cc rr hcc hrr
   split at hcF
   ·rename_i hcond
    injection hcF with hcF
    obtain ⟨mu,hmu⟩:∃ mu,mu=c.mu:=⟨_,rfl⟩
    rw [<- hmu] at hcF hcc
    clear hmu
    subst hcF
    have hnp:fn.params.size + fn.nfree<=fn.ntmps:=hcond
    refine ⟨henter,?_⟩
    obtain ⟨r1,r2⟩:=r
    match r2,h with
    | some (.agg cs'),h =>
     intro av w vs p cur ty hav hap hheap hle hrep hargs
     refine calls_of_wp hfn hbody ?_
     refine q2r hm hcall hlp hhp code cc _ _ _ _ w _ hcc h (init_row hargs hav hap hheap hle hrep hlen hnp) fun e s' a' w' R' he=>?_
     have hfin:e=.nrm\/e=.ret:=by
      cases e with
      | nrm=>exact .inl rfl
      | ret=>exact .inr rfl
      | exit id=>cases he
     have he':∃ xs,resC s' rr=some xs/\finVR cs.length s' (xs.map (AV.frz s'.drop0))=some (r1,some (.agg cs')):=by
      rcases hfin with rfl | rfl <;> exact Option.bind_eq_some_iff.1 he
     obtain ⟨xs,hxs,hfv⟩:=he'
     obtain ⟨ι,Θ,R'⟩:=R'
     obtain ⟨us,hus,hT'⟩:=res_run R' hrr hxs
     have hres:(results fn a'.tmps).run P w'=.ok (packV us) w':=by
      have he:results fn a'.tmps=(do let vs <- fn.results.mapM (q7D a'.tmps); pure (if h:vs.size=1 then vs[0] else .tuple vs)):=rfl
      rw [he,Array.mapM_eq_mapM_toList]
      simp only [Sem.run_bind,Sem.run_map,hus,Result.andThen_ok,Sem.run_pure]
      rfl
     have hs:=hT'.frz R'.drop0
     unfold finVR at hfv
     split at hfv
     ·rename_i hall
      obtain ⟨row,hrow0,hfv⟩:=Option.bind_eq_some_iff.1 hfv
      split at hfv
      ·rename_i hcond
       injection hfv with hfv
       injection hfv with hfv1 hfv2
       injection hfv2 with hfv2
       injection hfv2 with hfv2
       subst hfv1
       subst hfv2
       obtain ⟨hno,b,cur',ty',hb,hheap',hrow,_,hz⟩:=R'.rows 0 0 row hrow0
       obtain ⟨hpp,hpz⟩:=R'.pin p rfl
       rw [hpp] at hb
       injection hb with hb
       subst hb
       have hz':ι.z p=cur.size:=by
        rcases hpz with ⟨_,h⟩ | ⟨H,h⟩
        ·exact h
        ·rw [h] at hno; cases hno
       have hsub:∀ b o,av b o->avF s'.drop0 (avA av ι Θ) ι b o:=fun b o h=>⟨.inl h,fun ⟨t,n,r,hm,hb⟩=>by
        simp only [MSt.drop0] at hm
        split at hm
        ·cases hm
        ·rename_i hn
         obtain ⟨_,b',_,_,hb',_,_,hBb,_⟩:=R'.rows t n r hm
         rw [hb] at hb'
         injection hb' with hb'
         subst hb'
         rcases hBb with hBb | hBb
         ·have:=hav _ _ h; omega
         ·have:b=p:=hBb
          subst this
          exact hn (R'.inj _ _ _ _ _ hb hpp)⟩
       have post:a'.defers=[]/\∃ v,(results fn a'.tmps).run P w'=.ok v w'/\∃ v' cur'' ty'',Ending.returned v=.returned v'/\Rep av w' (pack (xs.map (AV.frz s'.drop0))) v'/\w'.heap[p]?=some (.cells cur'' ty'' (0,0))/\cur''.size=cur.size/\RepL av w' (row.map fun x=>AV.frz0 s'.drop0 x.v) (cur''.toList.take (row.map fun x=>AV.frz0 s'.drop0 x.v).length)/\Keep (fun b=>b=p) w w':=by
        refine ⟨R'.defers,_,hres,_,cur',ty',rfl,pack_rep (hs.toT hsub fun v hv=>List.all_eq_true.1 hall v hv),hheap',hz.trans hz',?_,R'.kept⟩
        have h1:=hrow.rep.frz R'.drop0
        rw [List.map_map] at h1
        have h2:=q3C h1 fun x hx=>List.all_eq_true.1 hcond.1 x hx
        rw [List.length_map]
        exact RepL.held (Held.less hsub) _ _ h2
       rcases hfin with rfl | rfl <;> exact post
      ·cases hfv
     ·cases hfv
    | none,h=>trivial
    | some (.int ..),h=>trivial
    | some (.bool _),h=>trivial
    | some (.str _),h=>trivial
    | some .nilP,h=>trivial
    | some (.ptr ..),h=>trivial
    | some (.ip _),h=>trivial
    | some (.bp _),h=>trivial
    | some (.sl ..),h=>trivial
    | some (.bl _),h=>trivial
    | some (.ref ..),h=>trivial
    | some (.mp ..),h=>trivial
    | some (.fn ..),h=>trivial
    | some (.tup _),h=>trivial
    | some .undef,h=>trivial
   ·cases hcF
  ·cases hcF
theorem resS_run {D:Nat->Prop} {ι:Ix} {Θ:Fam} (R:Rel P O nt B F0 av0 w0 D s a w ι Θ):∀ {rs:List ResultVar} {cs:List ResC} {vs:List Slot},q5P P rs=some cs->resS s cs=some vs →
  ∃ us,(rs.mapM (q7D a.tmps)).run P w=Result.ok us w/\q50 ι Θ (avA av0 ι Θ) (avB ι Θ) w vs us
 | [],cs,vs,h,hr=>by
  injection h with h
  subst h
  injection hr with hr
  subst hr
  exact ⟨[],by simp,rfl⟩
 | .tmp t :: rs,cs,vs,h,hr=>by
  unfold q5P at h
  obtain ⟨l,hl,rfl⟩:=Option.map_eq_some_iff.1 h
  simp only [resS] at hr
  obtain ⟨vs',hv,rfl⟩:=Option.map_eq_some_iff.1 hr
  obtain ⟨us,hu,hT⟩:=resS_run R hl hv
  refine ⟨a.tmps.getD t undef :: us,by rw [List.mapM_cons]; simp only [q7D,Sem.run_bind,Sem.run_pure,Result.andThen_ok,hu],_,us,rfl,R.env t,R.ann t,hT⟩
 | .cell b t :: rs,cs,vs,h,hr=>by
  unfold q5P at h
  split at h
  ·rename_i ag z l hA hz hl
   injection h with h
   subst h
   simp only [resS] at hr
   split at hr
   ·rename_i t' n off hb
    cases hm:s.mem t' n with
    | none=>rw [hm] at hr; cases hr
    | some row =>
     rw [hm,Option.bind_some] at hr
     obtain ⟨x,hx,hr⟩:=Option.bind_eq_some_iff.1 hr
     obtain ⟨vs',hv,rfl⟩:=Option.map_eq_some_iff.1 hr
     obtain ⟨us,hu,hT⟩:=resS_run R hl hv
     have hv:=R.env b
     rw [hb,q2A] at hv
     obtain ⟨bb,hbb,hv⟩:=hv
     obtain ⟨hnob,b',cur,ty,hb',hheap,hrow,_⟩:=R.rows t' n row hm
     rw [hbb] at hb'
     injection hb' with hb'
     subst hb'
     have hcell:∀ (j:Nat) (u:Value),((cur.toList.take row.length).drop off)[j]?=some u->w.cell? ⟨bb,off + j,none⟩=some u:=fun j u hu=>by
      rw [cell_of_row w bb (off + j) cur ty (0,0) hheap]
      rw [List.getElem?_drop,List.getElem?_take] at hu
      split at hu
      ·simpa using hu
      ·cases hu
     have hrep:=q2t off hrow.rep
     have hi:q4k ag z ((row.map (·.v)).drop off)=some x.v:=by
      cases ag with
      | true =>
       simp only [q0C,if_true] at hx
       split at hx
       ·rename_i hle
        injection hx with hx
        subst hx
        simp only [q4k,if_true,List.length_drop,List.length_map]
        rw [if_pos (by omega)]
        simp [List.map_take,List.map_drop]
       ·cases hx
      | false =>
       simp only [q0C,Bool.false_eq_true,if_false] at hx
       simp [q4k,List.getElem?_drop,hx]
     obtain ⟨u,hrun,hS,_⟩:=q7V (P:=P) (avb:=avB ι Θ) hA hz hrep hcell hi
     refine ⟨u :: us,by rw [List.mapM_cons]; simp only [q7D,Sem.run_bind,hv,asAddr,Sem.run_pure,Result.andThen_ok,hrun,hu],u,us,rfl,hS,trivial,hT⟩
   ·cases hr
  ·cases h
theorem q6h {ι:Ix} {Θ:Fam} {av avb:Av}:∀ {xs:List Slot} {us:List Value},q50 ι Θ av avb w xs us->us.length=xs.length
 | [],_,h=>by simp only [q50] at h; subst h; rfl
 | x :: r,_,h=>by
  simp only [q50] at h
  obtain ⟨u,us',rfl,_,_,h⟩:=h
  simp [q6h h]
theorem RepSs_get {ι:Ix} {Θ:Fam} {av avb:Av}:∀ {xs:List Slot} {us:List Value} (_:q50 ι Θ av avb w xs us) (t:Nat),RepS ι av avb w (xs.getD t ⟨.undef,.no⟩).v (us.getD t undef)/\AnOk Θ (xs.getD t ⟨.undef,.no⟩).a (us.getD t undef)
 | [],_,_,_=>by simp [RepS,AnOk]
 | x :: r,_,h,t=>by
  simp only [q50] at h
  obtain ⟨u,us',rfl,h0,h1,h⟩:=h
  cases t with
  | zero=>simpa using ⟨h0,h1⟩
  | succ t=>simpa using RepSs_get h t
theorem RepU_ofS {ι:Ix} {av avb:Av} {x:AV} {v:Value} (h:RepS ι av avb w x v) (hx:x.tupOk=true):RepU ι av w x v:=by
 cases x <;> first
  | exact h
  | (cases hx; done)
theorem RepCT_ofSs {ι:Ix} {Θ:Fam} {av avb:Av}:∀ {xs:List Slot} {us:List Value},q50 ι Θ av avb w xs us->xs.all (fun x=>x.v.tupOk)=true->q4D ι av w (xs.map (·.v)) us
 | [],_,h,_=>h
 | x :: r,_,h,hf=>by
  simp only [q50] at h
  obtain ⟨u,us',rfl,h0,_,h⟩:=h
  simp only [List.all_cons,Bool.and_eq_true] at hf
  exact ⟨u,us',rfl,RepU_ofS h0 hf.1,RepCT_ofSs h hf.2⟩
theorem packS_rep {ι:Ix} {Θ:Fam} {av avb:Av}:∀ {xs:List Slot} {us:List Value} {y:Slot},q50 ι Θ av avb w xs us->packS xs=some y->RepS ι av avb w y.v (packV us)/\AnOk Θ y.a (packV us)
 | [],us,y,h,hp=>by
  simp only [q50] at h
  subst h
  injection hp with hp
  subst hp
  exact ⟨⟨#[],rfl,rfl⟩,trivial⟩
 | [x],us,y,h,hp=>by
  simp only [q50] at h
  obtain ⟨u,us',rfl,h0,h1,rfl⟩:=h
  injection hp with hp
  subst hp
  exact ⟨h0,h1⟩
 | x :: z :: r,us,y,h,hp=>by
  have hl:=q6h h
  have:¬ us.toArray.size=1:=by simp; simp at hl; omega
  unfold packV
  rw [dif_neg this]
  unfold packS at hp
  split at hp
  ·rename_i e; cases e
  ·split at hp
   ·rename_i hall
    injection hp with hp
    subst hp
    exact ⟨⟨_,rfl,RepCT_ofSs h hall⟩,trivial⟩
   ·cases hp
theorem initH_rel {B:Nat} {F0:Own} {av0:Av} {w0 w:World} {ι:Ix} {Θ:Fam} {xs:List Slot} {us:List Value} (R:RelG P O B F0 av0 w0 s w ι Θ) (h:q50 ι Θ (avA av0 ι Θ) (avB ι Θ) w xs us) {np:Nat} (hl:xs.length=np) (hn:np<=nt) :
  Rel P O nt B F0 av0 w0 (fun _=>False) (s.initH xs) { tmps:=us.toArray++Array.replicate (nt - us.toArray.size) undef,defers:=[] } w ι Θ:=by
 have hg:∀ t,(us.toArray++Array.replicate (nt - us.toArray.size) undef).getD t undef=us.getD t undef:=fun t=>by
  simp only [Array.getD_eq_getD_getElem?,List.getD_eq_getElem?_getD,Array.getElem?_append,List.size_toArray,List.getElem?_toArray]
  split
  ·rfl
  ·rename_i hge
   rw [List.getElem?_eq_none (by omega)]
   simp only [Array.getElem?_replicate]
   split <;> rfl
 have hsz:(us.toArray++Array.replicate (nt - us.toArray.size) undef).size=nt:=by
  have:=q6h h
  simp
  omega
 exact ⟨rfl,hsz,fun t=>by simp only [MSt.initH]; rw [hg]; exact (RepSs_get h t).1,fun t=>by simp only [MSt.initH]; rw [hg]; exact (RepSs_get h t).2,R.rows,R.mine,R.inj,R.tok,R.tinj,R.apart,R.out,R.pin,R.kept,R.base,R.objs,R.obs,R.gen,R.gann⟩
theorem Rel.bare {D:Nat->Prop} {ι:Ix} {Θ:Fam} (R:Rel P O nt B F0 av0 w0 (fun _=>False) s a w ι Θ):RelG P O B F0 av0 w0 s w ι Θ :=
 ⟨rfl,rfl,fun _=>trivial,fun _=>trivial,R.rows,R.mine,R.inj,R.tok,R.tinj,R.apart,R.out,R.pin,R.kept,R.base,R.objs,R.obs,R.gen,R.gann⟩
theorem heap_sound (hm:P.follows .mixedOrders=true) {call:q1l} {lp:LH} {N:Nat} (hcall:∀ f args S r,call f args S=some r->q1C P O f args S r) (hlp:LpOk P O N lp.l) (hhp:HpOk P O lp.h) {f:FuncId} {fn:Func} {c:FnC} (henter:∀ xs w,(callFunc f xs).run P w=.ok (.enter f xs) w) (hfn:P.funcs[f]?=some fn) (hcF:q25 P c.mu fn=some c) {xs:List Slot} {k:Slot->MSt->Option RV} {r:RV} (hlen:xs.length=c.np)
  (h:c.code.run call lp (s.initH xs) (finH c k)=some r):(∀ vs w,(callFunc f vs).run P w=.ok (.enter f vs) w) ∧
 ∀ (B:Nat) (F0:Own) (av0:Av) (w0 w:World) (ι:Ix) (Θ:Fam) (us:List Value) (E:Ending->World->Prop),RelG P O B F0 av0 w0 s w ι Θ->q50 ι Θ (avA av0 ι Θ) (avB ι Θ) w xs us →
  (∀ y s' w' ι' Θ' v,RelG P O B F0 av0 w0 s' w' ι' Θ'->RepS ι' (avA av0 ι' Θ') (avB ι' Θ') w' y.v v->AnOk Θ' y.a v->k y s'=some r->E (.returned v) w')->Calls P f us.toArray w E:=by
 unfold q25 at hcF
 split at hcF
 ·cases hcF
 ·rename_i code hbody
  split at hcF
  ·rename_i cc rr hcc hrr
   split at hcF
   ·rename_i hcond
    injection hcF with hcF
    obtain ⟨mu,hmu⟩:∃ mu,mu=c.mu:=⟨_,rfl⟩
    rw [<- hmu] at hcF hcc
    clear hmu
    subst hcF
    have hnp:fn.params.size + fn.nfree<=fn.ntmps:=hcond
    refine ⟨henter,fun B F0 av0 w0 w ι Θ us E R hxs hE=>?_⟩
    refine calls_of_wp hfn hbody ?_
    refine q2r hm hcall hlp hhp code cc _ _ _ _ w _ hcc h ⟨ι,Θ,initH_rel R hxs hlen hnp⟩ fun e s' a' w' R' he=>?_
    have hfin:e=.nrm\/e=.ret:=by
     cases e with
     | nrm=>exact .inl rfl
     | ret=>exact .inr rfl
     | exit id=>cases he
    have he':∃ y,(resS s' rr).bind packS=some y/\k y s'=some r:=by
     rcases hfin with rfl | rfl <;> exact Option.bind_eq_some_iff.1 he
    obtain ⟨y,hy,hk⟩:=he'
    obtain ⟨l,hl,hp⟩:=Option.bind_eq_some_iff.1 hy
    obtain ⟨ι',Θ',R'⟩:=R'
    obtain ⟨vs,hvs,hT'⟩:=resS_run R' hrr hl
    have hres:(results fn a'.tmps).run P w'=.ok (packV vs) w':=by
     have he:results fn a'.tmps=(do let vs <- fn.results.mapM (q7D a'.tmps); pure (if h:vs.size=1 then vs[0] else .tuple vs)):=rfl
     rw [he,Array.mapM_eq_mapM_toList]
     simp only [Sem.run_bind,Sem.run_map,hvs,Result.andThen_ok,Sem.run_pure]
     rfl
    obtain ⟨hr1,hr2⟩:=packS_rep hT' hp
    have post:a'.defers=[]/\∃ v,(results fn a'.tmps).run P w'=.ok v w'/\E (.returned v) w':=⟨R'.defers,_,hres,hE y s' w' ι' Θ' _ (Rel.bare (D:=fun _=>False) R') hr1 hr2 hk⟩
    rcases hfin with rfl | rfl <;> exact post
   ·cases hcF
  ·cases hcF
theorem markR_some {args rest:List AV} (h:markR args=some rest):args=.undef :: .undef :: rest:=by
 unfold markR at h
 split at h
 ·injection h with h; subst h; rfl
 ·cases h
theorem call_sound (hm:P.follows .mixedOrders=true) {T:Nat->Option FnC} {ext:q1l} (hT:∀ f c,T f=some c->FnOk P f c) (hext:∀ f args S r,ext f args S=some r->q1C P O f args S r) :
  ∀ N,(∀ f args S r,q2S T ext N f args S=some r->q1C P O f args S r)/\LpOk P O N (lpN T ext N)/\HpOk P O (hpN T ext N)
 | 0=>by
  refine ⟨fun f args S r h=>?_,fun _ _ _ _ _ _ _ _ _ _ _ _ _ _ _ h _ _=>(by cases h),fun _ _ _ _ _ h=>(by cases h)⟩
  unfold q2S at h
  split at h
  ·exact hext f args S r h
  ·cases h
 | N + 1=>by
  obtain ⟨ih1,ih2,ih3⟩:=call_sound hm hT hext N
  refine ⟨fun f args S0 r h=>?_,fun boxes nt B F0 av0 w0 code b s k r a w Q hc h R hk=>?_,fun f xs s k r h=>?_⟩
  ·unfold q2S at h
   split at h
   ·exact hext f args S0 r h
   ·rename_i c hTc
    obtain ⟨henter,fn,hfn,hcF⟩:=hT f c hTc
    cases hmk:markR args with
    | some rest =>
     rw [hmk] at h
     match S0,h with
     | some (.agg cs),h =>
      simp only at h
      split at h
      ·rename_i hl
       rw [markR_some hmk]
       exact row_sound (lp:=⟨lpN T ext N,hpN T ext N⟩) hm ih1 ih2 ih3 henter hfn hcF hl.1 h
      ·cases h
     | none,h=>cases h
     | some (.int ..),h=>cases h
     | some (.bool _),h=>cases h
     | some (.str _),h=>cases h
     | some .nilP,h=>cases h
     | some (.ptr ..),h=>cases h
     | some (.ip _),h=>cases h
     | some (.bp _),h=>cases h
     | some (.sl ..),h=>cases h
     | some (.bl _),h=>cases h
     | some (.ref ..),h=>cases h
     | some (.mp ..),h=>cases h
     | some (.fn ..),h=>cases h
     | some (.tup _),h=>cases h
     | some .undef,h=>cases h
    | none =>
    rw [hmk] at h
    simp only at h
    split at h
    ·rename_i hlm
     obtain ⟨hlen,hmark⟩:=hlm
     unfold q25 at hcF
     split at hcF
     ·cases hcF
     ·rename_i code hbody
      split at hcF
      ·rename_i cc rr hcc hrr
       split at hcF
       ·rename_i hcond
        injection hcF with hcF
        obtain ⟨mu,hmu⟩:∃ mu,mu=c.mu:=⟨_,rfl⟩
        rw [<- hmu] at hcF hcc
        clear hmu
        subst hcF
        have hnp:fn.params.size + fn.nfree<=fn.ntmps:=hcond
        have ending:∀ {F0:Own} {av:Av} {w:World} {vs:List Value} {E:Ending->World->Prop},
          RelE P O fn.ntmps w.heap.size F0 av w (fun _=>False) (MSt.init args S0) { tmps:=vs.toArray++Array.replicate (fn.ntmps - vs.toArray.size) undef,defers:=[] } w →
          (∀ (s':MSt) (a':Act) (w':World) (ι:Ix) (Θ:Fam) (us:List Value) (xs:List AV),Rel P O fn.ntmps w.heap.size F0 av w (fun _=>False) s' a' w' ι Θ->q8f ι (avF s' (avA av ι Θ) ι) (avB ι Θ) w' xs us->finV S0 s' xs=some r->E (.returned (packV us)) w')->Calls P f vs.toArray w E:=fun {F0 av w vs E} R hE=>by
         refine calls_of_wp hfn hbody ?_
         refine q2r (lp:=⟨lpN T ext N,hpN T ext N⟩) hm ih1 ih2 ih3 code cc _ _ r _ w _ hcc h R fun e s' a' w' R' he=>?_
         have hfin:e=.nrm\/e=.ret:=by
          cases e with
          | nrm=>exact .inl rfl
          | ret=>exact .inr rfl
          | exit id=>cases he
         have he':∃ xs,resC s' rr=some xs/\finV S0 s' (xs.map (AV.frz s'))=some r:=by
          rcases hfin with rfl | rfl <;> exact Option.bind_eq_some_iff.1 he
         obtain ⟨xs,hxs,hfv⟩:=he'
         obtain ⟨ι,Θ,R'⟩:=R'
         obtain ⟨us,hus,hT'⟩:=res_run R' hrr hxs
         have hres:(results fn a'.tmps).run P w'=.ok (packV us) w':=by
          have he:results fn a'.tmps=(do let vs <- fn.results.mapM (q7D a'.tmps); pure (if h:vs.size=1 then vs[0] else .tuple vs)):=rfl
          rw [he,Array.mapM_eq_mapM_toList]
          simp only [Sem.run_bind,Sem.run_map,hus,Result.andThen_ok,Sem.run_pure]
          rfl
         have post:a'.defers=[]/\∃ v,(results fn a'.tmps).run P w'=.ok v w'/\E (.returned v) w':=⟨R'.defers,_,hres,hE s' a' w' ι Θ us _ R' (hT'.frz R') hfv⟩
         rcases hfin with rfl | rfl <;> exact post
        refine (q1C.of hmark).2 ⟨henter,?_⟩
        obtain ⟨r1,r2⟩:=r
        cases S0 with
        | none =>
         cases r2 with
         | none =>
          intro av w vs hav hargs
          refine ending (init_none hargs hav hlen hnp) fun s' a' w' ι Θ us xs R' hs hfv=>?_
          refine ⟨_,rfl,?_,R'.kept.below⟩
          simp only [finV] at hfv
          split at hfv
          ·rename_i hall
           injection hfv with hfv
           injection hfv with hfv
           subst hfv
           exact pack_rep (hs.toT (fun b o h=>⟨.inl h,fun ⟨t,n,r,hm,hb⟩=>by
            obtain ⟨_,b',cur,ty,hb',_,_,hBb,_⟩:=R'.rows t n r hm
            rw [hb] at hb'
            injection hb' with hb'
            subst hb'
            have:=hav _ _ h
            have:=hBb.elim id False.elim
            omega⟩) fun v hv=>List.all_eq_true.1 hall v hv)
          ·split at hfv
           ·split at hfv
            ·split at hfv <;> cases hfv
            ·cases hfv
           ·cases hfv
         | some S' =>
          intro av w vs hav hargs
          refine ending (init_none hargs hav hlen hnp) fun s' a' w' ι Θ us xs R' hs hfv=>?_
          simp only [finV] at hfv
          split at hfv
          ·cases hfv
          ·split at hfv
           ·rename_i t n _
            split at hfv
            ·rename_i S hS
             split at hfv
             ·rename_i hall
              injection hfv with hfv
              injection hfv with hfv1 hfv2
              injection hfv2 with hfv2
              subst hfv1
              subst hfv2
              obtain ⟨p,H,hp,hob,hat⟩:=R'.objs t n S hS
              refine ⟨_,p,H,rfl,?_,hat,fun b hb=>(((R'.obs t n H hob).1 b hb).1).elim id False.elim,R'.kept.below⟩
              have hall':∀ v∈xs,((q5f t n v).free||(q5f t n v).isObj)=true:=fun v hv=>List.all_eq_true.1 hall _ (List.mem_map_of_mem hv)
              refine pack_repN (hs.toO hp (fun b o h=>?_) hall') fun v hv=>List.all_eq_true.1 hall v hv
              refine ⟨?_,fun ⟨t',n',r,hm,hb⟩=>?_⟩
              ·rcases h with h | h
               ·exact .inl h
               ·exact .inr (.inl (.inr ⟨t,n,H,hob,h⟩))
              ·obtain ⟨hno,b',cur,ty,hb',_,_,hBb,_⟩:=R'.rows t' n' r hm
               rw [hb] at hb'
               injection hb' with hb'
               subst hb'
               rcases h with h | h
               ·have:=hav _ _ h
                have:=hBb.elim id False.elim
                omega
               ·have e:=((R'.obs t n H hob).1 b h).2.2.1 t' n' hb
                rw [e.1,e.2,hob] at hno
                cases hno
             ·cases hfv
            ·cases hfv
           ·cases hfv
        | some S =>
         cases r2 with
         | none =>
          trivial
         | some S' =>
          intro av w vs p H hav hH hat hargs
          refine ending (init_some hargs hav hH hat hlen hnp) fun s' a' w' ι Θ us xs R' hs hfv=>?_
          simp only [finV] at hfv
          split at hfv
          ·rename_i hall
           obtain ⟨S1,hS1,hfv⟩:=Option.map_eq_some_iff.1 hfv
           injection hfv with hfv1 hfv2
           injection hfv2 with hfv2
           subst hfv1
           subst hfv2
           obtain ⟨p',H',hp,hob,hat'⟩:=R'.objs 0 0 S1 hS1
           have hpp:=(R'.pin p rfl).1
           rw [hpp] at hp
           injection hp with hp
           subst hp
           refine ⟨_,H',rfl,pack_rep (hs.toT (fun b o h=>?_) fun v hv=>List.all_eq_true.1 hall v hv),hat',fun b hb=>(((R'.obs 0 0 H' hob).1 b hb).1).symm,R'.kept⟩
           refine ⟨?_,fun ⟨t',n',r,hm,hb⟩=>?_⟩
           ·rcases h with h | h
            ·exact .inl h
            ·exact .inr (.inl (.inr ⟨0,0,H',hob,h⟩))
           ·obtain ⟨hno,b',cur,ty,hb',_,_,hBb,_⟩:=R'.rows t' n' r hm
            rw [hb] at hb'
            injection hb' with hb'
            subst hb'
            rcases h with h | h
            ·have:=hav _ _ h
             have:=hBb.elim id False.elim
             omega
            ·have e:=((R'.obs 0 0 H' hob).1 b h).2.2.1 t' n' hb
             rw [e.1,e.2,hob] at hno
             cases hno
          ·cases hfv
       ·cases hcF
      ·cases hcF
    ·cases h
  ·unfold lpN at h
   rw [rounds_succ]
   refine q2r (lp:=⟨lpN T ext N,hpN T ext N⟩) hm ih1 ih2 ih3 code b s _ r a w _ hc h R fun e s' a' w' R' he=>?_
   cases e with
   | nrm=>exact ih2 boxes nt B F0 av0 w0 code b s' k r a' w' Q hc he R' hk
   | exit id=>exact hk _ _ _ _ R' he
   | ret=>exact hk _ _ _ _ R' he
  ·unfold hpN at h
   split at h
   ·cases h
   ·rename_i c hTc
    obtain ⟨henter,fn,hfn,hcF⟩:=hT f c hTc
    split at h
    ·rename_i hlen
     exact heap_sound (lp:=⟨lpN T ext N,hpN T ext N⟩) hm ih1 ih2 ih3 henter hfn hcF hlen h
    ·cases h
end
end
section
section
variable {α:Type}
def Late (p:Nat->Prop):Prop:=∃ n,∀ m,n<=m->p m
theorem Late.and {p q:Nat->Prop} (h:Late p) (h':Late q):Late fun m=>p m/\q m:=by
 obtain ⟨n,h⟩:=h
 obtain ⟨n',h'⟩:=h'
 exact ⟨max n n',fun m hm=>⟨h m (by omega),h' m (by omega)⟩⟩
theorem Late.imp {p q:Nat->Prop} (h:Late p) (hi:∀ m,p m->q m):Late q:=by
 obtain ⟨n,h⟩:=h
 exact ⟨n,fun m hm=>hi m (h m hm)⟩
theorem Late.now {p:Prop} (h:p):Late fun _=>p:=⟨0,fun _ _=>h⟩
theorem Late.succ {p:Nat->Prop} (h:Late p):Late fun m=>p (m + 1):=by
 obtain ⟨n,h⟩:=h
 exact ⟨n,fun m hm=>h (m + 1) (by omega)⟩
theorem Late.pred {p:Nat->Prop} (h:Late fun m=>p (m + 1)):Late p:=by
 obtain ⟨n,h⟩:=h
 exact ⟨n + 1,fun m hm=>by have:=h (m - 1) (by omega); simp only at this; rwa [show m - 1 + 1=m from by omega] at this⟩
theorem Late.some {p:Nat->Prop} (h:Late p):∃ m,p m:=by
 obtain ⟨n,h⟩:=h
 exact ⟨n,h n (Nat.le_refl _)⟩
theorem run_late {s:MSt} {callA:q1l} {callB:Nat->q1l} (hc:∀ f args S r,callA f args S=some r->Late fun m=>callB m f args S=some r) (k:K) {xe:Slot × Eff} (h:k.run callA s=some xe):Late fun m=>k.run (callB m) s=some xe:=by
 cases k with
 | call cl f xs =>
  simp only [K.run] at h ⊢
  cases hl:q2k s cl xs with
  | none=>rw [hl] at h; cases h
  | some vs =>
   rw [hl] at h
   simp only [Option.bind_some] at h ⊢
   split at h
   ·obtain ⟨r,hr,h⟩:=Option.bind_eq_some_iff.1 h
    exact (hc f vs _ r hr).imp fun m hm=>by rw [hm]; exact h
   ·obtain ⟨r,hr,h⟩:=Option.bind_eq_some_iff.1 h
    exact (hc f vs _ r hr).imp fun m hm=>by rw [hm]; exact h
   ·cases h
 | callf cl f z xs =>
  simp only [K.run] at h ⊢
  cases hl:q2k s cl xs with
  | none=>rw [hl] at h; cases h
  | some vs =>
   rw [hl] at h
   simp only [Option.bind_some] at h ⊢
   split at h
   ·obtain ⟨r,hr,h⟩:=Option.bind_eq_some_iff.1 h
    exact (hc f (.undef :: vs) _ r hr).imp fun m hm=>by rw [hm]; exact h
   ·cases h
 | callv cl x xs =>
  simp only [K.run] at h ⊢
  split at h
  ·rename_i f cs hx
   try simp only [hx]
   split at h
   ·rename_i vs ws hl hw ho
    try simp only [hl,hw,ho]
    obtain ⟨r,hr,h⟩:=Option.bind_eq_some_iff.1 h
    exact (hc f (vs++ws) _ r hr).imp fun m hm=>by rw [hm]; exact h
   ·cases h
  ·cases h
 | callr cl f xs =>
  simp only [K.run] at h ⊢
  split at h
  ·rename_i t n hp
   try simp only [hp]
   split at h
   ·rename_i hok
    simp only [if_pos hok]
    split at h
    ·rename_i r vs hr hv
     try simp only [hr,hv]
     split at h
     ·rename_i hall
      simp only [if_pos hall]
      obtain ⟨q,hq,h⟩:=Option.bind_eq_some_iff.1 h
      exact (hc f _ _ q hq).imp fun m hm=>by rw [hm]; exact h
     ·cases h
    ·cases h
   ·cases h
  ·cases h
 | _=>exact Late.now h
theorem step_late {s s1:MSt} {callA:q1l} {callB:Nat->q1l} (hc:∀ f args S r,callA f args S=some r->Late fun m=>callB m f args S=some r) (o:OpC) (h1:o.step callA s=some s1):Late fun m=>o.step (callB m) s=some s1:=by
 unfold OpC.step at h1 ⊢
 cases hg:o.guard with
 | none =>
  rw [hg] at h1
  simp only at h1 ⊢
  obtain ⟨xe,hx,he⟩:=Option.bind_eq_some_iff.1 h1
  exact (run_late hc o.op hx).imp fun m hm=>by rw [hm]; exact he
 | some p =>
  obtain ⟨t,want⟩:=p
  rw [hg] at h1
  simp only at h1 ⊢
  cases hv:(s.env t).v with
  | bool b =>
   rw [hv] at h1
   simp only at h1 ⊢
   by_cases hb:b=want
   ·rw [if_pos hb] at h1
    simp only [if_pos hb]
    obtain ⟨xe,hx,he⟩:=Option.bind_eq_some_iff.1 h1
    exact (run_late hc o.op hx).imp fun m hm=>by rw [hm]; exact he
   ·rw [if_neg hb] at h1
    simp only [if_neg hb]
    exact Late.now h1
  | tup l=>rw [hv] at h1; cases l with
   | nil=>exact Late.now h1
   | cons=>cases h1
  | _=>rw [hv] at h1; cases h1
def HLate (hA:HpT) (hB:Nat->HpT):Prop:=∀ f xs s k r (km:Nat->Slot->MSt->Option RV),(∀ y s' r',k y s'=some r'->Late fun m=>km m y s'=some r')->hA f xs s k=some r->Late fun m=>hB m f xs s (km m)=some r
theorem hstep_late {s:MSt} {lhA:LH} {lhB:Nat->LH} (hh:HLate lhA.h fun m=>(lhB m).h) (d:Option Nat) (nt:Nat) (x:Opd) (xs:List Opd) {k:MSt->Option RV} {r:RV} {km:Nat->MSt->Option RV} (hk:∀ s' r',k s'=some r'->Late fun m=>km m s'=some r') (h:q8h lhA d nt x xs s k=some r):Late fun m=>q8h (lhB m) d nt x xs s (km m)=some r:=by
 unfold q8h at h ⊢
 split at h
 ·rename_i f cs hx
  try simp only [hx]
  exact hh _ _ _ _ _ (fun m y s'=>km m ((s'.leave nt).put d y)) (fun y s' r' h'=>hk _ _ h') h
 ·cases h
theorem stepK_late {s:MSt} {callA:q1l} {callB:Nat->q1l} {lhA:LH} {lhB:Nat->LH} (hc:∀ f args S r,callA f args S=some r->Late fun m=>callB m f args S=some r) (hh:HLate lhA.h fun m=>(lhB m).h) (o:OpC) {k:MSt->Option RV} {r:RV} {km:Nat->MSt->Option RV} (hk:∀ s' r',k s'=some r'->Late fun m=>km m s'=some r') (h:o.stepK callA lhA s k=some r):Late fun m=>o.stepK (callB m) (lhB m) s (km m)=some r:=by
 obtain ⟨d,op,g⟩:=o
 by_cases hop:isH op=true
 ·cases op with
  | callh nt x xs =>
   simp only [OpC.stepK,q7S] at h ⊢
   cases g with
   | none=>exact hstep_late hh d nt x xs hk h
   | some p =>
    obtain ⟨t,want⟩:=p
    simp only at h ⊢
    cases hv:(s.env t).v with
    | bool b =>
     rw [hv] at h
     simp only at h ⊢
     by_cases hb:b=want
     ·rw [if_pos hb] at h
      simp only [if_pos hb]
      exact hstep_late hh d nt x xs hk h
     ·rw [if_neg hb] at h
      simp only [if_neg hb]
      exact hk _ _ h
    | tup l=>rw [hv] at h; cases l with
     | nil=>exact hk _ _ h
     | cons=>cases h
    | _=>rw [hv] at h; cases h
  | _=>cases hop
 ·have hop:isH op=false:=by simpa using hop
  rw [q3O hop] at h
  obtain ⟨s1,h1,h2⟩:=Option.bind_eq_some_iff.1 h
  exact ((step_late hc ⟨d,op,g⟩ h1).and (hk _ _ h2)).imp fun m hm=>by rw [q3O hop,hm.1]; exact hm.2
theorem ops_late {callA:q1l} {callB:Nat->q1l} {lhA:LH} {lhB:Nat->LH} (hc:∀ f args S r,callA f args S=some r->Late fun m=>callB m f args S=some r) (hh:HLate lhA.h fun m=>(lhB m).h):∀ (ops:List OpC) {s:MSt} {k:MSt->Option RV} {r:RV} {km:Nat->MSt->Option RV},(∀ s' r',k s'=some r'->Late fun m=>km m s'=some r')->q3I callA lhA ops s k=some r->Late fun m=>q3I (callB m) (lhB m) ops s (km m)=some r
 | [],s,k,r,km,hk,h=>hk _ _ h
 | o :: l,s,k,r,km,hk,h=>stepK_late hc hh o (km:=fun m s=>q3I (callB m) (lhB m) l s (km m)) (fun s' r' h'=>ops_late hc hh l hk h') h
theorem q1K {callA:q1l} {lpA:LH} {callB:Nat->q1l} {lpB:Nat->LH} (hc:∀ f args S r,callA f args S=some r->Late fun m=>callB m f args S=some r) (hh:HLate lpA.h fun m=>(lpB m).h)
  (hl:∀ b s k r (km:Nat->Ex->MSt->Option RV),(∀ e s' r',k e s'=some r'->Late fun m=>km m e s'=some r')->lpA b s k=some r->Late fun m=>lpB m b s (km m)=some r) :
  ∀ (c:C) (s:MSt) (k:Ex->MSt->Option RV) (r:RV) (km:Nat->Ex->MSt->Option RV),(∀ e s' r',k e s'=some r'->Late fun m=>km m e s'=some r')->c.run callA lpA s k=some r->Late fun m=>c.run (callB m) (lpB m) s (km m)=some r
 | .skip,s,k,r,km,hk,h=>hk _ _ _ h
 | .exit id,s,k,r,km,hk,h=>hk _ _ _ h
 | .ret,s,k,r,km,hk,h=>hk _ _ _ h
 | .seq a b,s,k,r,km,hk,h=>by
  refine q1K hc hh hl a s _ r (fun m e s'=>match e with | .nrm=>b.run (callB m) (lpB m) s' (km m) | e=>km m e s') (fun e s' r' h'=>?_) h
  cases e with
  | nrm=>exact q1K hc hh hl b s' k r' km hk h'
  | exit id=>exact hk _ _ _ h'
  | ret=>exact hk _ _ _ h'
 | .reg ops,s,k,r,km,hk,h=>by
  simp only [C.run] at h ⊢
  exact ops_late hc hh ops (km:=fun m s=>km m .nrm { s with next:=s.next + 1 }) (fun s' r' h'=>hk _ _ _ h') h
 | .cond x t e,s,k,r,km,hk,h=>by
  simp only [C.run] at h ⊢
  cases hv:x.get s with
  | bool b =>
   rw [hv] at h
   cases b with
   | true=>exact q1K hc hh hl t s k r km hk (by simpa using h)
   | false=>exact q1K hc hh hl e s k r km hk (by simpa using h)
  | _=>rw [hv] at h; cases h
 | .block id b,s,k,r,km,hk,h=>by
  refine q1K hc hh hl b s _ r (fun m e s'=>match e with | .exit j=>if j=id then km m .nrm s' else km m (.exit j) s' | e=>km m e s') (fun e s' r' h'=>?_) h
  cases e with
  | nrm=>exact hk _ _ _ h'
  | ret=>exact hk _ _ _ h'
  | exit j =>
   simp only at h' ⊢
   by_cases e:j=id
   ·rw [if_pos e] at h'; simp only [if_pos e]; exact hk _ _ _ h'
   ·rw [if_neg e] at h'; simp only [if_neg e]; exact hk _ _ _ h'
 | .loop b,s,k,r,km,hk,h=>hl b s k r km hk h
variable {T:Nat->Option FnC} {ext:q1l}
theorem N_mono {ext':q1l} (hx:∀ f args S r,ext f args S=some r->ext' f args S=some r):∀ N,(∀ f args S r,q2S T ext N f args S=some r->Late fun m=>q2S T ext' m f args S=some r) ∧
  (∀ b s k r (km:Nat->Ex->MSt->Option RV),(∀ e s' r',k e s'=some r'->Late fun m=>km m e s'=some r')->lpN T ext N b s k=some r->Late fun m=>lpN T ext' m b s (km m)=some r) ∧
  HLate (hpN T ext N) (hpN T ext')
 | 0=>by
  refine ⟨fun f args S r h=>⟨0,fun m _=>?_⟩,fun b s k r km _ h=>(by cases h),fun f xs s k r km _ h=>(by cases h)⟩
  unfold q2S at h
  cases hT:T f with
  | none=>rw [hT] at h; cases m <;> (unfold q2S; rw [hT]; exact hx _ _ _ _ h)
  | some c=>rw [hT] at h; cases h
 | N + 1=>by
  obtain ⟨ih1,ih2,ih3⟩:=N_mono hx N
  refine ⟨?_,?_,?_⟩
  ·intro f args S0 r h
   unfold q2S at h
   cases hT:T f with
   | none=>rw [hT] at h; exact ⟨0,fun m _=>by cases m <;> (unfold q2S; rw [hT]; exact hx _ _ _ _ h)⟩
   | some c =>
    rw [hT] at h
    cases hm:markR args with
    | some rest =>
     cases S0 with
     | none=>rw [hm] at h; cases h
     | some S =>
      cases S with
      | agg cs =>
       rw [hm] at h
       simp only at h
       split at h
       ·rename_i hl
        refine Late.pred ((q1K (lpA:=⟨lpN T ext N,hpN T ext N⟩) (lpB:=fun m=>⟨lpN T ext' m,hpN T ext' m⟩) ih1 ih3 ih2 c.code _ _ r (fun _=>finR c cs.length) (fun e s' r' h'=>Late.now h') h).imp fun m hm'=>?_)
        unfold q2S
        rw [hT]
        simp only [hm]
        rw [if_pos hl]
        exact hm'
       ·cases h
      | _=>rw [hm] at h; cases h
    | none =>
     rw [hm] at h
     simp only at h
     split at h
     ·rename_i hl
      refine Late.pred ((q1K (lpA:=⟨lpN T ext N,hpN T ext N⟩) (lpB:=fun m=>⟨lpN T ext' m,hpN T ext' m⟩) ih1 ih3 ih2 c.code _ _ r (fun _=>fin c S0) (fun e s' r' h'=>Late.now h') h).imp fun m hm'=>?_)
      unfold q2S
      rw [hT]
      simp only [hm]
      rw [if_pos hl]
      exact hm'
     ·cases h
  ·intro b s k r km hk h
   unfold lpN at h
   refine Late.pred ((q1K (lpA:=⟨lpN T ext N,hpN T ext N⟩) (lpB:=fun m=>⟨lpN T ext' m,hpN T ext' m⟩) ih1 ih3 ih2 b s _ r (fun m=>q7Q (lpN T ext' m) b (km (m + 1))) (fun e s' r' h'=>?_) h).imp fun m hm=>?_)
   ·cases e with
    | nrm=>exact ih2 b s' k r' (fun m=>km (m + 1)) (fun e s'' r'' h''=>(hk e s'' r'' h'').succ) h'
    | exit id=>exact (hk _ _ _ h').succ
    | ret=>exact (hk _ _ _ h').succ
   ·unfold lpN
    exact hm
  ·intro f xs s k r km hk h
   unfold hpN at h
   cases hT:T f with
   | none=>rw [hT] at h; cases h
   | some c =>
    rw [hT] at h
    simp only at h
    split at h
    ·rename_i hl
     refine Late.pred ((q1K (lpA:=⟨lpN T ext N,hpN T ext N⟩) (lpB:=fun m=>⟨lpN T ext' m,hpN T ext' m⟩) ih1 ih3 ih2 c.code _ _ r (fun m=>finH c (km (m + 1))) (fun e s' r' h'=>?_) h).imp fun m hm=>?_)
     ·cases e with
      | exit id=>cases h'
      | nrm =>
       simp only [finH] at h' ⊢
       obtain ⟨y,hy,h'⟩:=Option.bind_eq_some_iff.1 h'
       simp only [hy,Option.bind_some]
       exact (hk _ _ _ h').succ
      | ret =>
       simp only [finH] at h' ⊢
       obtain ⟨y,hy,h'⟩:=Option.bind_eq_some_iff.1 h'
       simp only [hy,Option.bind_some]
       exact (hk _ _ _ h').succ
     ·unfold hpN
      rw [hT]
      simp only
      rw [if_pos hl]
      exact hm
    ·cases h
theorem q7k:∀ N,(∀ f args S r,q2S T ext N f args S=some r->Late fun m=>q2S T ext m f args S=some r) ∧
  (∀ b s k r (km:Nat->Ex->MSt->Option RV),(∀ e s' r',k e s'=some r'->Late fun m=>km m e s'=some r')->lpN T ext N b s k=some r->Late fun m=>lpN T ext m b s (km m)=some r)/\HLate (hpN T ext N) (hpN T ext):=N_mono fun _ _ _ _ h=>h
open Classical in
noncomputable def evC (T:Nat->Option FnC) (ext:q1l) (f:Nat) (args:List AV) (S0:Option AV):Option RV:=if h:∃ r n,q2S T ext n f args S0=some r then some h.choose else none
open Classical in
noncomputable def evL (T:Nat->Option FnC) (ext:q1l):LpT:=fun b s k=>if h:∃ r n,lpN T ext n b s k=some r then some h.choose else none
open Classical in
noncomputable def evH (T:Nat->Option FnC) (ext:q1l):HpT:=fun f xs s k=>if h:∃ r n,hpN T ext n f xs s k=some r then some h.choose else none
noncomputable def evK (T:Nat->Option FnC) (ext:q1l):LH:=⟨evL T ext,evH T ext⟩
theorem q7z {f:Nat} {args:List AV} {S0:Option AV} {r:RV}:evC T ext f args S0=some r ↔ ∃ n,q2S T ext n f args S0=some r:=by
 unfold evC
 constructor
 ·intro h
  split at h
  ·rename_i hh; injection h with h; exact h ▸ hh.choose_spec
  ·cases h
 ·rintro ⟨n,hn⟩
  have hh:∃ r n,q2S T ext n f args S0=some r:=⟨r,n,hn⟩
  rw [dif_pos hh]
  obtain ⟨n',hn'⟩:=hh.choose_spec
  obtain ⟨m,h1,h2⟩:=(((q7k n).1 f args S0 r hn).and ((q7k n').1 f args S0 _ hn')).some
  rw [h1] at h2
  exact h2.symm
theorem evL_some {b:C} {s:MSt} {k:Ex->MSt->Option RV} {r:RV}:evL T ext b s k=some r ↔ ∃ n,lpN T ext n b s k=some r:=by
 unfold evL
 constructor
 ·intro h
  split at h
  ·rename_i hh; injection h with h; exact h ▸ hh.choose_spec
  ·cases h
 ·rintro ⟨n,hn⟩
  have hh:∃ r n,lpN T ext n b s k=some r:=⟨r,n,hn⟩
  rw [dif_pos hh]
  obtain ⟨n',hn'⟩:=hh.choose_spec
  obtain ⟨m,h1,h2⟩:=(((q7k n).2.1 b s k r (fun _=>k) (fun e s' r' h=>Late.now h) hn).and ((q7k n').2.1 b s k _ (fun _=>k) (fun e s' r' h=>Late.now h) hn')).some
  rw [h1] at h2
  exact h2.symm
theorem evH_some {f:Nat} {xs:List Slot} {s:MSt} {k:Slot->MSt->Option RV} {r:RV}:evH T ext f xs s k=some r ↔ ∃ n,hpN T ext n f xs s k=some r:=by
 unfold evH
 constructor
 ·intro h
  split at h
  ·rename_i hh; injection h with h; exact h ▸ hh.choose_spec
  ·cases h
 ·rintro ⟨n,hn⟩
  have hh:∃ r n,hpN T ext n f xs s k=some r:=⟨r,n,hn⟩
  rw [dif_pos hh]
  obtain ⟨n',hn'⟩:=hh.choose_spec
  obtain ⟨m,h1,h2⟩:=(((q7k n).2.2 f xs s k r (fun _=>k) (fun e s' r' h=>Late.now h) hn).and ((q7k n').2.2 f xs s k _ (fun _=>k) (fun e s' r' h=>Late.now h) hn')).some
  rw [h1] at h2
  exact h2.symm
theorem ev_late1 (f:Nat) (args:List AV) (S0:Option AV) (r:RV) (h:evC T ext f args S0=some r):Late fun m=>q2S T ext m f args S0=some r:=by
 obtain ⟨n,hn⟩:=q7z.1 h
 exact (q7k n).1 f args S0 r hn
theorem ev_late2 (b:C) (s:MSt) (k:Ex->MSt->Option RV) (r:RV) (km:Nat->Ex->MSt->Option RV) (hk:∀ e s' r',k e s'=some r'->Late fun m=>km m e s'=some r') (h:evL T ext b s k=some r):Late fun m=>lpN T ext m b s (km m)=some r:=by
 obtain ⟨n,hn⟩:=evL_some.1 h
 exact (q7k n).2.1 b s k r km hk hn
theorem ev_late3:HLate (evH T ext) (hpN T ext):=fun f xs s k r km hk h=>by
 obtain ⟨n,hn⟩:=evH_some.1 h
 exact (q7k n).2.2 f xs s k r km hk hn
theorem ev_code (c:C) (s:MSt) (k:Ex->MSt->Option RV) (r:RV) (km:Nat->Ex->MSt->Option RV) (hk:∀ e s' r',k e s'=some r'->Late fun m=>km m e s'=some r') (h:c.run (evC T ext) (evK T ext) s k=some r):Late fun m=>c.run (q2S T ext m) ⟨lpN T ext m,hpN T ext m⟩ s (km m)=some r :=
 q1K (lpA:=evK T ext) (lpB:=fun m=>⟨lpN T ext m,hpN T ext m⟩) ev_late1 ev_late3 ev_late2 c s k r km hk h
theorem evC_intro {f:Nat} {args:List AV} {S0:Option AV} {r:RV} (c:FnC) (hT:T f=some c) (hl:args.length=c.np) (h:c.code.run (evC T ext) (evK T ext) (MSt.init args S0) (fin c S0)=some r) (hm:q69 args=false:=by rfl):evC T ext f args S0=some r:=by
 obtain ⟨m,hm'⟩:=(ev_code c.code _ _ r (fun _=>fin c S0) (fun e s' r' h'=>Late.now h') h).some
 refine q7z.2 ⟨m + 1,?_⟩
 have hR:markR args=none:=by
  unfold markR
  split
  ·cases hm
  ·rfl
 unfold q2S
 rw [hT]
 simp only [hR]
 rw [if_pos ⟨hl,hm⟩]
 exact hm'
theorem evH_intro {f:Nat} {xs:List Slot} {s:MSt} {k:Slot->MSt->Option RV} {r:RV} (c:FnC) (hT:T f=some c) (hl:xs.length=c.np) (h:c.code.run (evC T ext) (evK T ext) (s.initH xs) (finH c k)=some r):evH T ext f xs s k=some r:=by
 obtain ⟨m,hm'⟩:=(ev_code c.code _ _ r (fun _=>finH c k) (fun e s' r' h'=>Late.now h') h).some
 refine evH_some.2 ⟨m + 1,?_⟩
 unfold hpN
 rw [hT]
 simp only
 rw [if_pos hl]
 exact hm'
theorem q04 {b:C} {s:MSt} {k:Ex->MSt->Option RV} {r:RV} (h:b.run (evC T ext) (evK T ext) s (q7Q (evL T ext) b k)=some r):evL T ext b s k=some r:=by
 have:=ev_code b s _ r (fun m=>q7Q (lpN T ext m) b k) (fun e s' r' h'=>by
  cases e with
  | nrm=>exact ev_late2 b s' k r' (fun _=>k) (fun e s'' r'' h''=>Late.now h'') h'
  | exit id=>exact Late.now h'
  | ret=>exact Late.now h') h
 obtain ⟨m,hm⟩:=this.some
 refine evL_some.2 ⟨m + 1,?_⟩
 unfold lpN
 exact hm
theorem ev_sound {P:Program} {O:Objs} (hm:P.follows .mixedOrders=true) (hT:∀ f c,T f=some c->FnOk P f c) (hext:∀ f args S r,ext f args S=some r->q1C P O f args S r) {f:Nat} {args:List AV} {S0:Option AV} {r:RV} (h:evC T ext f args S0=some r):q1C P O f args S0 r:=by
 obtain ⟨n,hn⟩:=q7z.1 h
 exact (call_sound hm hT hext n).1 f args S0 r hn
end
end
section
open Go Go.RowKit Go.ChangeShapes Go.WideShapes Go.Deep
inductive Cs where
 | int (k:IntKind)
 | bool
 | str
 | sl (l:List Cs)
def shArr (P:Program) (r:TypeId->Option (List Cs)) (t:TypeId) (n:Nat) (e:TypeId):Option (List Cs) :=
 (r e).bind fun l=>if l.length=P.cellsOf e/\n * l.length=P.cellsOf t then some (List.replicate n l).flatten else none
def shFs (P:Program) (r:TypeId->Option (List Cs)):Nat->List Field->Option (List Cs)
 | _,[]=>some []
 | off,f :: fs=>(r f.type).bind fun l=>if f.offset=off/\l.length=P.cellsOf f.type then (shFs P r (off + l.length) fs).map (l++·) else none
def shOf (P:Program):Nat->TypeId->Option (List Cs)
 | 0,_=>none
 | n + 1,t=>match P.underlying t with
  | some .bool=>some [.bool]
  | some (.int k)=>some [.int k]
  | some .string=>some [.str]
  | some (.slice e)=>(shOf P n e).bind fun l=>if l.length=P.cellsOf e/\0<l.length then some [.sl l] else none
  | some (.struct fs)=>(shFs P (shOf P n) 0 fs.toList).bind fun l=>if l.length=P.cellsOf t then some l else none
  | some (.array k e)=>shArr P (shOf P n) t k e
  | _=>none
mutual
def TyC:Cs->AV->Prop
 | .int k,x=>∃ n,x=.int k n/\(Lit.int k n).wf=true
 | .bool,x=>∃ b,x=.bool b
 | .str,x=>∃ s,x=.str s/\s.size<=maxLen
 | .sl l,x=>∃ nl els,x=.sl nl els/\els.length<=maxLen/\∀ av1∈els,TyL l av1
def TyL:List Cs->List AV->Prop
 | [],av1=>av1=[]
 | c :: cs,av1=>∃ a r,av1=a :: r/\TyC c a/\TyL cs r
end
theorem TyL_length:∀ {l:List Cs} {av1:List AV},TyL l av1->av1.length=l.length
 | [],av1,h=>by simp only [TyL] at h; subst h; rfl
 | c :: cs,av1,h=>by
  simp only [TyL] at h
  obtain ⟨a,r,rfl,_,h⟩:=h
  simp [TyL_length h]
theorem q8m:∀ {l m:List Cs} {av1 bs:List AV},TyL l av1->TyL m bs->TyL (l++m) (av1++bs)
 | [],m,av1,bs,h,h'=>by simp only [TyL] at h; subst h; exact h'
 | c :: cs,m,av1,bs,h,h'=>by
  simp only [TyL] at h
  obtain ⟨a,r,rfl,h0,h⟩:=h
  exact ⟨a,r++bs,rfl,h0,q8m h h'⟩
section
variable {H:Type} {enc:TypeId × Value->H} {P:Program} {w:World} {base:Nat} {spare:Nat->Bool} {held:Bool}
theorem Rows_of {av:Av} {b sz:Nat}:∀ {els:List (List AV)} {off:Nat},(∀ av1∈els,av1.length=sz)->(∀ (i:Nat) (av1:List AV),els[i]?=some av1->q2W av w av1 b (off + i * sz))->Rows av w els b off
 | [],_,_,_=>by simp [Rows]
 | av1 :: r,off,hl,h=>by
  simp only [Rows]
  have h0:=h 0 av1 rfl
  rw [Nat.zero_mul,Nat.add_zero] at h0
  refine ⟨h0,Rows_of (fun x hx=>hl x (List.mem_cons_of_mem _ hx)) fun i x hx=>?_⟩
  have:=h (i + 1) x (by simpa using hx)
  rw [hl av1 List.mem_cons_self,show off + sz + i * sz=off + (i + 1) * sz from by rw [Nat.succ_mul]; omega]
  exact this
abbrev Av0:Av:=fun _ _=>False
theorem fields_rep {r:TypeId->Option (List Cs)} {cs:List Value}
  (ih:∀ (t:TypeId) (sh:List Cs) (n:Nat) (cs:List Value) (x:DataW H × List MemPlace),r t=some sh->DataW.trod enc P w base spare held n t cs=some x->∃ av1,RepL Av0 w av1 cs/\TyL sh av1) {n:Nat} :
  ∀ (fs:List Field) (off:Nat) (sh:List Cs),shFs P r off fs=some sh->off + sh.length=cs.length->(∀ f∈fs,∃ x,DataW.trod enc P w base spare held n f.type ((cs.drop f.offset).take (P.cellsOf f.type))=some x)->∃ av1,RepL Av0 w av1 (cs.drop off)/\TyL sh av1
 | [],off,sh,h,hl,_=>by
  injection h with h
  subst h
  refine ⟨[],?_,rfl⟩
  rw [List.drop_eq_nil_of_le (by simp at hl; omega)]
  rfl
 | f :: fs,off,sh,h,hl,hx=>by
  unfold shFs at h
  obtain ⟨l,hr,h⟩:=Option.bind_eq_some_iff.1 h
  split at h
  ·rename_i hc
   obtain ⟨ho,hcl⟩:=hc
   obtain ⟨sh',hs,rfl⟩:=Option.map_eq_some_iff.1 h
   obtain ⟨x,hx0⟩:=hx f List.mem_cons_self
   obtain ⟨av1,h1,h2⟩:=ih _ _ _ _ _ hr hx0
   obtain ⟨bs,h3,h4⟩:=fields_rep ih fs (off + l.length) sh' hs (by simp at hl; omega) fun g hg=>hx g (List.mem_cons_of_mem _ hg)
   refine ⟨av1++bs,?_,q8m h2 h4⟩
   have:cs.drop off=(cs.drop off).take l.length++cs.drop (off + l.length):=by rw [<- List.drop_drop,List.take_append_drop]
   rw [this]
   rw [ho,<- hcl] at h1
   exact q3K h1 h3
  ·cases h
theorem array_rep {sz:Nat} {l:List Cs} {cs:List Value} (hl:l.length=sz) (f:∀ i:Nat,i * sz<cs.length\/sz=0->∃ av1,RepL Av0 w av1 ((cs.drop (i * sz)).take sz)/\TyL l av1) :
  ∀ (n i:Nat),(i + n) * sz=cs.length->∃ av1,RepL Av0 w av1 (cs.drop (i * sz))/\TyL (List.replicate n l).flatten av1
 | 0,i,h=>by
  refine ⟨[],?_,rfl⟩
  rw [List.drop_eq_nil_of_le (by simp at h; omega)]
  rfl
 | n + 1,i,h=>by
  have h1:(i + 1 + n) * sz=cs.length:=by rw [<- h]; congr 1; omega
  have hs:(i + 1) * sz=i * sz + sz:=Nat.succ_mul i sz
  have hlt:i * sz<cs.length\/sz=0:=by
   rcases Nat.eq_zero_or_pos sz with h0 | h0
   ·exact .inr h0
   ·have:(i + 1) * sz<=(i + (n + 1)) * sz:=Nat.mul_le_mul_right _ (by omega)
    omega
  obtain ⟨av1,g1,g2⟩:=f i hlt
  obtain ⟨av2,g3,g4⟩:=array_rep hl f n (i + 1) h1
  refine ⟨av1++av2,?_,by rw [List.replicate_succ,List.flatten_cons]; exact q8m g2 g4⟩
  have:cs.drop (i * sz)=(cs.drop (i * sz)).take sz++cs.drop ((i + 1) * sz):=by rw [hs,<- List.drop_drop,List.take_append_drop]
  rw [this]
  exact q3K g1 g3
theorem q9g:∀ (k:Nat) (t:TypeId) (sh:List Cs) (n:Nat) (cs:List Value) (x:DataW H × List MemPlace),shOf P k t=some sh->DataW.trod enc P w base spare held n t cs=some x->∃ av1,RepL Av0 w av1 cs/\TyL sh av1
 | 0,_,_,_,_,_,h,_=>by cases h
 | k + 1,t,sh,n,cs,x,h,hx=>by
  unfold shOf at h
  split at h
  ·rename_i ht
   injection h with h
   subst h
   obtain ⟨b,rfl,_⟩:=DataW.trod_bool ht hx
   exact ⟨[.bool b],⟨_,_,rfl,rfl,rfl,rfl⟩,_,_,rfl,⟨b,rfl⟩,rfl⟩
  ·rename_i kk ht
   injection h with h
   subst h
   obtain ⟨b,rfl,_,hw⟩:=DataW.trod_int ht hx
   exact ⟨[.int kk b],⟨_,_,rfl,rfl,rfl,rfl⟩,_,_,rfl,⟨b,rfl,hw⟩,rfl⟩
  ·rename_i ht
   injection h with h
   subst h
   obtain ⟨b,rfl,_,hw⟩:=DataW.trod_string ht hx
   exact ⟨[.str b],⟨_,_,rfl,rfl,rfl,rfl⟩,_,_,rfl,⟨b,rfl,hw⟩,rfl⟩
  ·rename_i e ht
   obtain ⟨l,hl,h⟩:=Option.bind_eq_some_iff.1 h
   split at h
   ·rename_i hc
    injection h with h
    subst h
    rcases open_slice ht hx with ⟨rfl,_⟩ | ⟨a,len,cap,m,n',D,Pl,rfl,_,hle,hcm,hm,_,hi⟩
    ·refine ⟨[.sl true []],⟨_,_,rfl,⟨none,0,rfl,Nat.le_refl _,(fun _ h=>by cases h),fun _=>⟨rfl,rfl,rfl⟩,fun h=>by cases h⟩,rfl,rfl⟩,_,_,rfl,⟨true,[],rfl,Nat.zero_le _,(fun _ h=>by cases h)⟩,rfl⟩
    ·have hmle:len<=m:=by rw [hm]; split <;> omega
     have hrow:∀ i:Nat,∃ av1:List AV,i<len->(TyL l av1/\∃ us,RepL Av0 w av1 us/\us.length=P.cellsOf e/\∀ j,j<P.cellsOf e->w.cell? ((a.add (i * P.cellsOf e)).add j)=us[j]?):=fun i=>by
      by_cases hlt:i<len
      ·obtain ⟨us,hc1,hc2⟩:=hi i (by omega)
       obtain ⟨av1,h1,h2⟩:=q9g k e l n' us _ hl hc2
       obtain ⟨_,g1,g2⟩:=World.cells?_some hc1
       exact ⟨av1,fun _=>⟨h2,us,h1,g1,g2⟩⟩
      ·exact ⟨[],fun h=>absurd h hlt⟩
     have hrow':=Classical.axiomOfChoice hrow
     obtain ⟨f,hf⟩:=hrow'
     have hels:∀ av1∈(List.range len).map f,TyL l av1:=fun av1 ha=>by
      obtain ⟨i,hi',rfl⟩:=List.mem_map.1 ha
      exact (hf i (List.mem_range.1 hi')).1
     have hlens:∀ av1∈(List.range len).map f,av1.length=P.cellsOf e:=fun av1 ha=>(TyL_length (hels av1 ha)).trans hc.1
     refine ⟨[.sl false ((List.range len).map f)],⟨_,_,rfl,⟨some a,cap,by simp,by simpa using hle,fun x hx y hy=>(hlens x hx).trans (hlens y hy).symm,(fun h=>by cases h),fun _=>⟨fun h=>(by cases h),fun h0=>?_⟩⟩,rfl,rfl⟩,_,_,rfl,⟨false,_,rfl,by simp; omega,hels⟩,rfl⟩
     have h0':0<len:=by simpa using h0
     have hpos:0<P.cellsOf e:=by omega
     have hspot:∃ b off,a=⟨b,off,none⟩:=by
      obtain ⟨_,us,_,g1,g2⟩:=hf 0 h0'
      have g3:=g2 0 hpos
      simp only [Nat.zero_mul,Addr.add,if_true] at g3
      rw [List.getElem?_eq_getElem (by omega)] at g3
      obtain ⟨b,off,sp⟩:=a
      cases sp with
      | none=>exact ⟨b,off,rfl⟩
      | some q =>
       simp only [World.cell?] at g3
       split at g3
       ·simp at g3
       ·cases g3
     obtain ⟨b,off,rfl⟩:=hspot
     refine ⟨b,off,rfl,Rows_of hlens fun i av1 hget=>?_⟩
     rw [List.getElem?_map] at hget
     obtain ⟨i',hi',rfl⟩:=Option.map_eq_some_iff.1 hget
     rw [List.getElem?_eq_some_iff] at hi'
     obtain ⟨hlt,he⟩:=hi'
     simp at hlt he
     subst he
     obtain ⟨_,us,g0,g1,g2⟩:=hf i hlt
     refine q56 g0 fun j u hu=>⟨?_,fun h=>h⟩
     have hj:j<P.cellsOf e:=by rw [<- g1]; exact (List.getElem?_eq_some_iff.1 hu).1
     have:=g2 j hj
     rw [Addr.add_lit,Addr.add_lit,hu] at this
     exact this
   ·cases h
  ·rename_i fs ht
   obtain ⟨l,hl,h⟩:=Option.bind_eq_some_iff.1 h
   split at h
   ·rename_i hc
    injection h with h
    subst h
    obtain ⟨xs,n',rfl,_,hlen,hxl,hf⟩:=DataW.trod_struct ht hx
    have:=fields_rep (cs:=cs) (n:=n') (fun t sh n cs x=>q9g k t sh n cs x) fs.toList 0 l hl (by omega) fun g hg=>by
     obtain ⟨i,hi,he⟩:=List.getElem_of_mem hg
     have hi':i<fs.size:=by simpa using hi
     have h1:=hf i g (by rw [<- he]; simp [hi'])
     exact ⟨xs[i]'(by omega),by rw [h1]; exact List.getElem?_eq_getElem (by omega)⟩
    simpa using this
   ·cases h
  ·rename_i n' e ht
   unfold shArr at h
   obtain ⟨l,hl,h⟩:=Option.bind_eq_some_iff.1 h
   split at h
   ·rename_i hc
    injection h with h
    subst h
    obtain ⟨xs,m,rfl,_,hlen,hxl,hf⟩:=DataW.trod_array ht hx
    have hz:∀ i,i<n'->∃ av1,RepL Av0 w av1 ((cs.drop (i * P.cellsOf e)).take (P.cellsOf e))/\TyL l av1:=fun i hi=>by
     have h1:=hf i hi
     rw [List.getElem?_eq_getElem (by omega)] at h1
     exact q9g k e l m _ _ hl h1
    rcases Nat.eq_zero_or_pos l.length with h0 | h0
    ·have hl0:l=[]:=List.eq_nil_of_length_eq_zero h0
     subst hl0
     have hcs:cs=[]:=List.eq_nil_of_length_eq_zero (by rw [hlen,<- hc.2]; simp)
     subst hcs
     exact ⟨[],rfl,by simp [TyL]⟩
    ·have:=array_rep (cs:=cs) hc.1 (fun i hi=>hz i (by
      rcases hi with hi | hi
      ·rw [hlen,<- hc.2,hc.1] at hi
       exact Nat.lt_of_mul_lt_mul_right hi
      ·omega)) n' 0 (by rw [Nat.zero_add,hlen,<- hc.2,hc.1])
     simpa using this
   ·cases h
  ·cases h
end
end
section
open Go Go.RowKit Go.ChangeShapes Go.WideShapes Go.Deep
def q6V (P:Program) (t:TypeId):Bool:=match P.underlying t with
 | some (.struct _) | some (.array ..)=>true
 | _=>false
def ParTy (P:Program) (k:Nat) (t:TypeId) (a:AV):Prop:=∃ sh,shOf P k t=some sh/\((q6V P t=true/\∃ cs,a=.agg cs/\TyL sh cs)\/(q6V P t=false/\TyL sh [a]))
def ArgsTy (P:Program) (k:Nat):List TypeId->List AV->Prop
 | [],xs=>xs=[]
 | t :: ts,xs=>∃ a r,xs=a :: r/\ParTy P k t a/\ArgsTy P k ts r
section
variable {H:Type} {enc:TypeId × Value->H} {P:Program} {w:World} {base:Nat} {spare:Nat->Bool} {held:Bool}
theorem par_rep {k:Nat} {t:TypeId} {r:Reach} {b0:Nat} {v:Value} {d:DataW H} {p:List MemPlace} (hs:(shOf P k t).isSome=true) (hv:Value.okWide P w r b0 t v) (h:DataW.Trod enc P w base spare held t v d p) :
  ∃ a,RepS Ix.none Av0 Av0 w a v/\ParTy P k t a:=by
 obtain ⟨sh,hsh⟩:=Option.isSome_iff_exists.1 hs
 obtain ⟨fuel,hf⟩:=h
 obtain ⟨xs,h1,h2⟩:=q9g k t sh fuel _ _ hsh hf
 have one:∀ (u:Value),v=u->v.cells.toList=[u]->(∃ c,sh=[c])->q6V P t=false->(∀ a,TyL sh [a]->a.leaf=true)->∃ a,RepS Ix.none Av0 Av0 w a v/\ParTy P k t a:=fun u hu hc ⟨c,hc'⟩ hw hleaf=>by
  subst hc'
  have h2':=h2
  simp only [TyL] at h2
  obtain ⟨a,_,rfl,_,rfl⟩:=h2
  rw [hc] at h1
  simp only [RepL] at h1
  obtain ⟨u',_,e,h0,_,_⟩:=h1
  injection e with e
  subst e
  exact ⟨a,by rw [hu]; exact RepS_of_rep h0 (hleaf a h2'),[c],hsh,.inr ⟨hw,h2'⟩⟩
 cases k with
 | zero=>cases hsh
 | succ k =>
  have hsh':=hsh
  unfold shOf at hsh'
  split at hsh'
  ·rename_i ht
   injection hsh' with e
   obtain ⟨b,rfl⟩:=okWide_bool ht hv
   refine one _ rfl rfl ⟨_,e.symm⟩ (by simp [q6V,ht]) fun a ha=>?_
   subst e
   simp only [TyL] at ha
   obtain ⟨_,_,e,hc,_⟩:=ha
   simp only [TyC] at hc
   obtain ⟨b',rfl⟩:=hc
   injection e with e
   subst e
   rfl
  ·rename_i kk ht
   injection hsh' with e
   obtain ⟨b,rfl⟩:=okWide_int ht hv
   refine one _ rfl rfl ⟨_,e.symm⟩ (by simp [q6V,ht]) fun a ha=>?_
   subst e
   simp only [TyL] at ha
   obtain ⟨_,_,e,hc,_⟩:=ha
   simp only [TyC] at hc
   obtain ⟨b',rfl,_⟩:=hc
   injection e with e
   subst e
   rfl
  ·rename_i ht
   injection hsh' with e
   obtain ⟨b,rfl⟩:=okWide_string ht hv
   refine one _ rfl rfl ⟨_,e.symm⟩ (by simp [q6V,ht]) fun a ha=>?_
   subst e
   simp only [TyL] at ha
   obtain ⟨_,_,e,hc,_⟩:=ha
   simp only [TyC] at hc
   obtain ⟨b',rfl,_⟩:=hc
   injection e with e
   subst e
   rfl
  ·rename_i e' ht
   obtain ⟨l,_,hsh'⟩:=Option.bind_eq_some_iff.1 hsh'
   split at hsh'
   ·injection hsh' with e
    obtain ⟨A,n,c,rfl⟩:=okWide_slice ht hv
    refine one _ rfl rfl ⟨_,e.symm⟩ (by simp [q6V,ht]) fun a ha=>?_
    subst e
    simp only [TyL] at ha
    obtain ⟨_,_,e,hc,_⟩:=ha
    simp only [TyC] at hc
    obtain ⟨nl,els,rfl,_⟩:=hc
    injection e with e
    subst e
    rfl
   ·cases hsh'
  ·rename_i fs ht
   have:∃ cs,v=.agg cs:=by
    simp only [Value.okWide,ht] at hv
    obtain ⟨cs,hv,_⟩:=hv
    exact ⟨cs,hv⟩
   obtain ⟨cs,rfl⟩:=this
   exact ⟨.agg xs,⟨cs,rfl,q1y h1⟩,sh,hsh,.inl ⟨by simp [q6V,ht],xs,rfl,h2⟩⟩
  ·rename_i n' e' ht
   have:∃ cs,v=.agg cs:=by
    simp only [Value.okWide,ht] at hv
    obtain ⟨cs,hv,_⟩:=hv
    exact ⟨cs,hv⟩
   obtain ⟨cs,rfl⟩:=this
   exact ⟨.agg xs,⟨cs,rfl,q1y h1⟩,sh,hsh,.inl ⟨by simp [q6V,ht],xs,rfl,h2⟩⟩
  ·cases hsh'
theorem args_rep {k:Nat} {r:Reach} {b0:Nat}:∀ {ts:List TypeId} {vs:List Value} {ds:List (DataW H)} {p:List MemPlace},DataW.TrodAll enc P w base spare held ts vs ds p->(∀ (j:Nat) t v,ts[j]?=some t->vs[j]?=some v->Value.okWide P w r b0 t v)->ts.all (fun t=>(shOf P k t).isSome)=true →
  ∃ xs,RepA Ix.none Av0 Av0 w xs vs/\ArgsTy P k ts xs
 | [],vs,ds,p,h,_,_=>by
  cases vs with
  | nil=>exact ⟨[],rfl,rfl⟩
  | cons=>cases ds <;> exact h.elim
 | t :: ts,vs,ds,p,h,hv,hs=>by
  obtain ⟨v,vs',d,ds',p',q',rfl,rfl,rfl,h0,h⟩:=trodAll_cons h
  simp only [List.all_cons,Bool.and_eq_true] at hs
  obtain ⟨a,h1,h2⟩:=par_rep hs.1 (hv 0 t v rfl rfl) h0
  obtain ⟨xs,h3,h4⟩:=args_rep h (fun j t' v' e e'=>hv (j + 1) t' v' (by simpa using e) (by simpa using e')) hs.2
  exact ⟨a :: xs,⟨v,vs',rfl,h1,h3⟩,a,xs,rfl,h2,h4⟩
theorem args_back (hl:laidOutB P=true) {W W':World} (hb:Below W.heap.size W W'):∀ {ts:List TypeId} {vs:List Value} {ds:List (DataW H)} {p:List MemPlace},DataW.TrodAll enc P W 0 (fun _=>true) true ts vs ds p->ts.all (fun t=>P.readableRec t&&decide (t<P.types.size))=true →
  DataW.TrodAll enc P W' 0 (fun b=>decide (b<W.heap.size)) true ts vs ds p
 | [],vs,ds,p,h,_=>by
  cases vs with
  | nil=>cases ds with
   | nil=>exact h
   | cons=>exact h.elim
  | cons=>cases ds <;> exact h.elim
 | t :: ts,vs,ds,p,h,hs=>by
  have hlt:=DataW.TrodAll.lt h
  obtain ⟨v,vs',d,ds',p',q',rfl,rfl,rfl,h0,h⟩:=trodAll_cons h
  simp only [List.all_cons,Bool.and_eq_true,decide_eq_true_eq] at hs
  exact trodAll_cons_mk (Below.trod hl hs.1.1 hs.1.2 h0 hb fun x hx=>hlt x (List.mem_append_left _ hx)) (args_back hl hb h hs.2)
end
end
section
open Go Go.RowKit
theorem uBp:Tryz.prog.underlying 165=some (.pointer 168):=by kernel_rfl
theorem uBs:Tryz.prog.underlying 166=some (.slice 5):=by kernel_rfl
theorem uBu:Tryz.prog.underlying 186=some (.pointer 5):=by kernel_rfl
theorem uBstr:Tryz.prog.underlying 9=some .string:=by kernel_rfl
theorem uBint:Tryz.prog.underlying 3=some (.int .i64):=by kernel_rfl
theorem q6L:Tryz.prog.underlying 190=some .unsafePointer:=by kernel_rfl
theorem iB8:(Tryz.prog.info? 5).map (fun i=>(i.zero,i.size,i.bytes))=some (some (.int .u8 0),1,1):=by kernel_rfl
theorem iBb:(Tryz.prog.info? 168).map (fun i=>i.size)=some 2:=by kernel_rfl
theorem liesB:liesAt Tryz.prog Tryz.prog.depth 168 (2 / Tryz.prog.cellsOf 168) 0 168 1=true:=by kernel_rfl
theorem cB8:Tryz.prog.cellsOf 5=1:=by kernel_rfl
section
variable {P:Program}
theorem append_str_at (w:World) (t u ty e:TypeId) (i:TypeInfo) (ht:P.underlying t=some (.slice e)) (hu:P.underlying u=some .string) (hi:P.info? e=some i) (hz:i.zero=some (.int .u8 0)) (hsize:i.size=1) (hby:i.bytes=1)
  (v:Value) (n:Nat) (xs:List Value) (hown:w.ownsRowF 0 e 1 v n xs) (s:ByteArray) (h63:n + s.size<=maxLen) (hbytes:n + s.size<=140737488355328) :
  ∃ v' w',(Builtin.append_ #[t,u] ty #[v,.string s]).run P w=.ok v' w'/\w'.ownsRowF 0 e 1 v' (n + s.size) (xs++Go.Lib.strCells s)/\w.grownBy w' v.ownBlock/\∀ k,v'.ownBlock=some k->v.ownBlock=some k\/w.heap.size<=k:=by
 rcases hown.2 with ⟨rfl,hn⟩ | ⟨g,cap,cur,fz,rfl,hbg,hg,hfz,hnc,hcm,hcs,htake⟩
 ·obtain ⟨v',w',h1,h2,h3,_⟩:=Go.Lib.run_append_own_stringF (P:=P) w w.heap.size t u ty e i ht hu hi hz hsize hby _ n xs ⟨hown.1,.inl ⟨rfl,hn⟩⟩ s h63 hbytes (Nat.le_refl _)
  refine ⟨v',w',h1,⟨h2.1,?_⟩,h3,fun k hk=>.inr ?_⟩
  ·rcases h2.2 with hn | ⟨g,cap,cur,fz,hv,hb,rest⟩
   ·exact .inl hn
   ·exact .inr ⟨g,cap,cur,fz,hv,Nat.zero_le _,rest⟩
  ·rcases h2.2 with ⟨hv,_⟩ | ⟨g,cap,cur,fz,hv,hb,rest⟩
   ·rw [hv] at hk; cases hk
   ·rw [hv] at hk; injection hk with hk; have hk:g=k:=hk; omega
 ·obtain ⟨v',w',h1,h2,h3,_⟩:=Go.Lib.run_append_own_stringF (P:=P) w 0 t u ty e i ht hu hi hz hsize hby _ n xs hown s h63 hbytes (Nat.zero_le _)
  refine ⟨v',w',h1,h2,h3,fun k hk=>?_⟩
  have hxl:xs.length=n:=by simpa using hown.1
  by_cases hroom:n + s.size<=cap
  ·have hcs':cur.size=cap:=by simpa using hcs
   have hr:=Go.Lib.run_append_room_stringF (P:=P) w t u ty e i ht hu hi hsize g n cap cur fz hg (by simpa using hfz) s hroom (by omega)
   rw [h1] at hr
   injection hr with hv _
   rw [hv] at hk
   exact .inl hk
  ·have holds:∀ j u,xs[j]?=some u->w.cell? ((⟨g,0,none⟩:Addr).add j)=some u:=hown.cells (g:=g) rfl
   have hr:=Go.Lib.run_append_grow_string (P:=P) w t u ty e i (.int .u8 0) ht hu hi hz ⟨g,0,none⟩ n cap xs (by rw [hsize]; simpa using hxl) holds s (by unfold maxLen at h63; omega) (by unfold maxLen at h63; omega) (by rw [hby]; exact growslice_fits (by omega) (by omega))
   rw [h1] at hr
   injection hr with hv _
   rw [hv] at hk
   injection hk with hk
   have hk:w.heap.size=k:=hk
   exact .inr (by omega)
end
theorem wpList_strapp {P:Program} (w:World) {ops:Array Oper} {rest:List Oper} {o:Oper} {a:Act} {Q:Exit->Act->World->Prop} (hgd:o.guard=none) (s x:Operand) (t t':TypeId)
  (ho:o.op=.call { callee:=.builtin .append,args:=#[s,x],argTypes:=#[t,t'] }) (v u:Value) (hs:a.eval s=v) (hx:a.eval x=u) {v':Value} {w':World}
  (hr:(Builtin.append_ #[t,t'] o.type #[v,u]).run P w=.ok v' w') (h:wpList P ops Q rest (a.put o.dst v') w'):wpList P ops Q (o :: rest) a w:=by
 refine wpList_plain hgd fun K hK=>?_
 unfold Oper.wp execOp
 simp only [ho,resolve,invoke,builtin,Sem.run_bind,Sem.run_pure,Result.andThen_ok,List.map_toArray,List.map_cons,List.map_nil,hs,hx,hr]
 exact hK _ _ h
set_option maxHeartbeats 1000000
theorem bcheck_used (b:Nat) (w:World) (h0:w.cell? ⟨b,0,none⟩=some (.pointer (some ⟨b,0,none⟩))) :
  Calls Tryz.prog 156 #[.pointer (some ⟨b,0,none⟩)] w fun e w'=>e=.returned (.tuple #[])/\w'=w:=by
 obtain ⟨j,hj,_⟩:=Option.map_eq_some_iff.1 iBb
 have u1:=run_underlying uBp; have u2:=run_underlying uBs; have u3:=run_underlying uBu; have u4:=run_underlying uBstr; have u5:=run_underlying uBint; have u6:=run_underlying q6L
 go_enter Tryz.func156,Tryz.ntmps156
 go_wp2
 rw [Go.Lib.run_neq_ptr_same w _ uBp hj]
 go_wp2
 go_end0
 exact ⟨rfl,rfl⟩
theorem bcheck_fresh (b:Nat) (w:World) (h0:w.cell? ⟨b,0,none⟩=some (.pointer none)) (hsh:w.shape? b=some (168,2)) (hfz:w.frozen? ⟨b,0,none⟩=false) :
  Calls Tryz.prog 156 #[.pointer (some ⟨b,0,none⟩)] w fun e w'=>e=.returned (.tuple #[])/\w'=w.setCell ⟨b,0,none⟩ (.pointer (some ⟨b,0,none⟩)):=by
 obtain ⟨j,hj,hjs⟩:=Option.map_eq_some_iff.1 iBb
 have u1:=run_underlying uBp; have u2:=run_underlying uBs; have u3:=run_underlying uBu; have u4:=run_underlying uBstr; have u5:=run_underlying uBint; have u6:=run_underlying q6L
 go_enter Tryz.func156,Tryz.ntmps156
 go_wp2
 rw [Go.Lib.run_to_unsafe w ⟨b,0,none⟩ uBp q6L hj (by rw [hjs]; decide) hsh (Nat.zero_lt_succ 1)]
 simp only [Result.andThen]
 rw [Oper.upon_value]
 go_wp2
 rw [run_callFunc_extern Tryz.func160 (by kernel_rfl) (by kernel_rfl) (by kernel_rfl) (e:=Extern.AbiNoEscape.same) (by kernel_rfl)]
 rw [Go.Lib.run_noEscape]
 simp only [Result.andThen]
 rw [Oper.upon_value]
 go_wp2
 rw [Go.Lib.run_from_unsafe w ⟨b,0,none⟩ q6L uBp hj hsh liesB]
 simp only [Result.andThen]
 rw [Oper.upon_value]
 go_wp2
 go_end0
 exact ⟨rfl,rfl⟩
theorem bcheck (b:Nat) (q v:Value) (w:World) (hbk:w.heap[b]?=some (.cells #[q,v] 168 (0,0))) (hq:q=.pointer none\/q=.pointer (some ⟨b,0,none⟩)) :
  Calls Tryz.prog 156 #[.pointer (some ⟨b,0,none⟩)] w fun e w'=>e=.returned (.tuple #[])/\w'.heap[b]?=some (.cells #[.pointer (some ⟨b,0,none⟩),v] 168 (0,0))/\Keep (fun k=>k=b) w w':=by
 have hlt:=q0g hbk
 rcases hq with rfl | rfl
 ·refine (bcheck_fresh b w (by rw [Go.Lib.cell_of_heap hbk]; rfl) (by simp [World.shape?,hbk]) (by simp [World.frozen?,hbk])).mono ?_
  rintro e w' ⟨rfl,rfl⟩
  refine ⟨rfl,by simp [World.setCell,Array.getElem?_modify,hbk],⟨rfl,rfl,rfl,by simp [World.setCell],fun k _ hk=>Below.heap_setCell _ _ _ _ (fun e=>hk (by simp [e]))⟩⟩
 ·refine (bcheck_used b w (by rw [Go.Lib.cell_of_heap hbk]; rfl)).mono ?_
  rintro e w' ⟨rfl,rfl⟩
  exact ⟨rfl,hbk,Keep.refl _ _⟩
theorem bwrite (b:Nat) (q v:Value) (bs:List Value) (s:ByteArray) (w:World) (hbk:w.heap[b]?=some (.cells #[q,v] 168 (0,0))) (hq:q=.pointer none\/q=.pointer (some ⟨b,0,none⟩)) (hown:w.ownsRowF 0 5 1 v bs.length bs) (hne:v.ownBlock≠some b) (hlen:bs.length + s.size<=140737488355328) :
  Calls Tryz.prog 140 #[.pointer (some ⟨b,0,none⟩),.string s] w fun e w'=>e=.returned (.tuple #[.int .i64 s.size,.nilIface])/\∃ v',w'.heap[b]?=some (.cells #[.pointer (some ⟨b,0,none⟩),v'] 168 (0,0))/\w'.ownsRowF 0 5 1 v' (bs.length + s.size) (bs++Go.Lib.strCells s)/\Keep (fun k=>k=b\/v.ownBlock=some k) w w'/\(∀ k,v'.ownBlock=some k->v.ownBlock=some k\/w.heap.size<=k):=by
 obtain ⟨i0,hi,hz0,hz1,hz2⟩:=info_parts iB8
 have u1:=run_underlying uBp; have u2:=run_underlying uBs; have u3:=run_underlying uBu; have u4:=run_underlying uBstr; have u5:=run_underlying uBint; have u6:=run_underlying q6L
 have hlt:=q0g hbk
 go_enter Tryz.func140,Tryz.ntmps140
 go_wp2_with fail
 refine (bcheck b q v _ hbk hq).mono ?_
 rintro e w1 ⟨rfl,h1,hk1⟩
 have hown1:w1.ownsRowF 0 5 1 v bs.length bs:=by
  refine ⟨hown.1,?_⟩
  rcases hown.2 with hn | ⟨g,cap,cur,fz,rfl,hb,hgg,rest⟩
  ·exact .inl hn
  ·exact .inr ⟨g,cap,cur,fz,rfl,hb,(hk1.block g (q0g hgg) (fun e=>hne (by rw [<- e]; rfl))).trans hgg,rest⟩
 have c0:w1.cell? ⟨b,0,none⟩=some (.pointer (some ⟨b,0,none⟩)):=by rw [Go.Lib.cell_of_heap h1]; rfl
 have c1:w1.cell? ⟨b,1,none⟩=some v:=by rw [Go.Lib.cell_of_heap h1]; rfl
 obtain ⟨v',w2,hrun,hown',hgrow,hblk⟩:=append_str_at (P:=Tryz.prog) w1 166 9 166 5 i0 uBs uBstr hi hz0 hz1 hz2 v _ bs hown1 s (by unfold maxLen; omega) hlen
 have hlt1:=q0g h1
 have hb2:w2.heap[b]?=some (.cells #[.pointer (some ⟨b,0,none⟩),v] 168 (0,0)):=by
  rw [hgrow.block b hlt1 (fun e=>hne e.symm)]
  exact h1
 have d0:w2.cell? ⟨b,0,none⟩=some (.pointer (some ⟨b,0,none⟩)):=by rw [Go.Lib.cell_of_heap hb2]; rfl
 have d1:w2.cell? ⟨b,1,none⟩=some v:=by rw [Go.Lib.cell_of_heap hb2]; rfl
 have f1:w2.frozen? ⟨b,1,none⟩=false:=Go.Lib.frozen_of_heap hb2 1
 obtain ⟨ao,n',cap,rfl⟩:∃ ao n' cap,v'=.slice ao n' cap:=by
  rcases hown'.2 with ⟨hv,_⟩ | ⟨g,cap,cur,fz,hv,_⟩
  ·exact ⟨_,_,_,hv⟩
  ·exact ⟨_,_,_,hv⟩
 go_wp2_with (at_builtin; refine wpList_strapp _ rfl _ _ 166 9 rfl v (.string s) rfl rfl hrun ?_)
 go_ret2
 have hgb:∀ g,(Value.slice ao n' cap).ownBlock=some g->g≠b:=fun g hg e=>by
  subst e
  rcases hown'.2 with ⟨hv,_⟩ | ⟨g',cap',cur,fz,hv,_,hgg,_⟩
  ·rw [hv] at hg; cases hg
  ·rw [hv] at hg
   injection hg with hg
   have hg:g'=g:=hg
   rw [hg,hb2] at hgg
   injection hgg with hgg
   injection hgg with _ hgg
   exact absurd hgg (by decide)
 refine ⟨rfl,.slice ao n' cap,by simp [World.setCell,Array.getElem?_modify,hb2],⟨hown'.1,?_⟩,?_,fun k hk=>(hblk k hk).imp id (fun h=>Nat.le_trans hk1.size h)⟩
 ·rcases hown'.2 with hn | ⟨g,cap',cur,fz,hv,hb,hgg,rest⟩
  ·exact .inl hn
  ·exact .inr ⟨g,cap',cur,fz,hv,hb,(Below.heap_setCell _ _ _ _ (fun e=>hgb g (by rw [hv]; rfl) (by simpa using e))).trans hgg,rest⟩
 ·refine ⟨hgrow.os.trans hk1.os,hgrow.tape.trans hk1.tape,hgrow.output.trans hk1.output,?_,fun k hk hf=>?_⟩
  ·have:=hk1.size; have:=hgrow.size; simp [World.setCell]; omega
  ·rw [Below.heap_setCell _ _ _ _ (fun e=>hf (.inl (by simpa using e)))]
   rw [hgrow.block k (Nat.lt_of_lt_of_le hk hk1.size) (fun e=>hf (.inr e.symm))]
   exact hk1.block k hk (fun e=>hf (.inl e))
theorem bstring_run (b:Nat) (q:Value) (sl:Value) (A:Option Addr) (n c:Nat) (hsl:sl=.slice A n c) (p:Value) (s:ByteArray) (w w1 w2:World) (hbk:w.heap[b]?=some (.cells #[q,sl] 168 (0,0)))
  (hSD:(Builtin.unsafeSliceData_ #[166] 186 #[.slice A n c]).run Tryz.prog w.drew=.ok p w1) (h1:w1.heap[b]?=w.heap[b]?) (hUS:(Builtin.unsafeString_ #[186,3] 9 #[p,.int .i64 n]).run Tryz.prog w1=.ok (.string s) w2) :
  Calls Tryz.prog 142 #[.pointer (some ⟨b,0,none⟩)] w fun e w'=>e=.returned (.string s)/\w'=w2:=by
 subst hsl
 have hd:w.drew.heap[b]?=some (.cells #[q,.slice A n c] 168 (0,0)):=hbk
 have c1:w.drew.cell? ⟨b,1,none⟩=some (.slice A n c):=by rw [Go.Lib.cell_of_heap hd]; rfl
 have c2:w1.cell? ⟨b,1,none⟩=some (.slice A n c):=by rw [Go.Lib.cell_of_heap (h1.trans hbk)]; rfl
 have u1:=run_underlying uBp; have u2:=run_underlying uBs; have u3:=run_underlying uBu; have u4:=run_underlying uBstr; have u5:=run_underlying uBint; have u6:=run_underlying q6L
 have mixed:Tryz.prog.follows .mixedOrders=true:=by kernel_rfl
 go_enter Tryz.func142,Tryz.ntmps142
 go_wp2
 go_region_o
 all_goals (go_wp2; go_ret; exact ⟨rfl,rfl⟩)
end
section
open Go Go.RowKit
variable {O:Objs}
theorem keep_freeze {w:World} (g o n:Nat):Keep (fun k=>k=g) w (w.freeze ⟨g,o,none⟩ n):=by
 unfold World.freeze
 split
 ·exact Keep.refl _ _
 ·exact ⟨rfl,rfl,rfl,by simp,fun k _ hk=>by
   simp only [Array.getElem?_modify]
   rw [if_neg (fun e=>hk e.symm)]⟩
theorem strCells_append (a s:ByteArray):Go.Lib.strCells (a++s)=Go.Lib.strCells a++Go.Lib.strCells s:=by
 simp [Go.Lib.strCells,ByteArray.data_append]
theorem bld_write (a s:ByteArray) (hlen:a.size + s.size<=140737488355328) :
  q1C Tryz.prog O 140 [.ptr 0 0 0,.str s] (some (bldAV 168 5 a)) (.tup [.int .i64 s.size,.undef],some (bldAV 168 5 (a++s))):=by
 refine (q1C.of rfl).2 ⟨enters_of Tryz.func140 (by kernel_rfl) rfl,?_⟩
 intro av w vs p H hav hH hat hargs
 rw [O.blds] at hat
 obtain ⟨v,q,h1,h2,h3,h4,h5⟩:=hat
 simp only [RepA] at hargs
 obtain ⟨u,us,rfl,hu,u2,us2,rfl,hu2,rfl⟩:=hargs
 rw [q2A] at hu
 obtain ⟨b,hb,rfl⟩:=hu
 have hbp:p=b:=by
  have:(if (0:Nat)=0/\(0:Nat)=0 then some p else none)=some b:=hb
  simpa using this
 subst hbp
 rw [q3a] at hu2
 subst hu2
 have hl:(Go.Lib.strCells a).length=a.size:=Go.Lib.strCells_length a
 refine (bwrite p q v (Go.Lib.strCells a) s w h1 h2 (by rw [hl]; exact h3) h4 (by rw [hl]; exact hlen)).mono ?_
 rintro e w' ⟨rfl,v',g1,g2,g3,g4⟩
 have hne':v'.ownBlock≠some p:=fun e=>by
  rcases g2.2 with ⟨hv,_⟩ | ⟨g',cap',cur,fz,hv,_,hgg,_⟩
  ·rw [hv] at e; cases e
  ·rw [hv] at e
   injection e with e
   have e:g'=p:=e
   rw [e,g1] at hgg
   injection hgg with hgg
   injection hgg with _ hgg
   exact absurd hgg (by decide)
 refine ⟨_,fun k=>k=p\/v'.ownBlock=some k,rfl,?_,?_,?_,?_⟩
 ·refine ⟨_,rfl,_,_,rfl,by simp [Rep],_,_,rfl,trivial,rfl⟩
 ·rw [O.blds]
  refine ⟨v',_,g1,.inr rfl,?_,hne',fun b=>Iff.rfl⟩
  rw [strCells_append,show (a++s).size=a.size + s.size from by simp [ByteArray.size_append]]
  rw [hl] at g2
  exact g2
 ·rintro k (rfl | hk)
  ·exact .inl ((h5 _).2 (.inl rfl))
  ·exact (g4 k hk).imp (fun h=>(h5 k).2 (.inr h)) id
 ·exact g3.mono fun k _ hk=>(h5 k).2 hk
theorem own_frz {w:World} {e:TypeId} {g n c:Nat} {xs:List Value} (h:w.ownsRowF 0 e 1 (.slice (some ⟨g,0,none⟩) n c) n xs):(w.freeze ⟨g,0,none⟩ n).ownsRowF 0 e 1 (.slice (some ⟨g,0,none⟩) n c) n xs:=by
 refine ⟨h.1,?_⟩
 rcases h.2 with ⟨hv,_⟩ | ⟨g',cap,cur,⟨lo,hi⟩,hv,hb,hg,hf,rest⟩
 ·cases hv
 ·injection hv with h1 h2 h3
  injection h1 with h1
  injection h1 with h1
  subst h1
  subst h3
  unfold World.freeze
  split
  ·exact .inr ⟨_,_,cur,⟨lo,hi⟩,rfl,hb,hg,hf,rest⟩
  ·refine .inr ⟨g,c,cur,if lo == hi then (0,n) else (min lo 0,max hi n),rfl,hb,?_,?_,rest⟩
   ·simp only [Array.getElem?_modify,if_true,hg,Option.map_some,Nat.zero_add]
   ·simp only at hf
    split
    ·simp
    ·simp only; omega
theorem bld_string (a:ByteArray) :
  q1C Tryz.prog O 142 [.ptr 0 0 0] (some (bldAV 168 5 a)) (.str a,some (bldAV 168 5 a)):=by
 refine (q1C.of rfl).2 ⟨enters_of Tryz.func142 (by kernel_rfl) rfl,?_⟩
 intro av w vs p H hav hH hat hargs
 rw [O.blds] at hat
 have hat0:=hat
 obtain ⟨v,q,h1,h2,h3,h4,h5⟩:=hat
 simp only [RepA] at hargs
 obtain ⟨u,us,rfl,hu,rfl⟩:=hargs
 rw [q2A] at hu
 obtain ⟨b,hb,rfl⟩:=hu
 have hbp:p=b:=by
  have:(if (0:Nat)=0/\(0:Nat)=0 then some p else none)=some b:=hb
  simpa using this
 subst hbp
 have hlt:=q0g h1
 have hl:(Go.Lib.strCells a).length=a.size:=Go.Lib.strCells_length a
 have fin:∀ (A:Option Addr) (n c:Nat) (pp:Value) (w1 w2:World),v=.slice A n c->(Builtin.unsafeSliceData_ #[166] 186 #[.slice A n c]).run Tryz.prog w.drew=.ok pp w1->w1.heap[p]?=w.heap[p]?->(Builtin.unsafeString_ #[186,3] 9 #[pp,.int .i64 n]).run Tryz.prog w1=.ok (.string a) w2->Keep (fun k=>v.ownBlock=some k) w w2->w2.ownsRowF 0 5 1 v a.size (Go.Lib.strCells a) →
   Calls Tryz.prog 142 #[.pointer (some ⟨p,0,none⟩)] w fun e w'=>∃ v H',e=.returned v/\Rep (fun b o=>av b o\/H' b) w' (.str a) v/\O.at_ (bldAV 168 5 a) H' p w'/\(∀ b,H' b->H b\/w.heap.size<=b)/\Keep H w w':=fun A n c pp w1 w2 hv hSD hw1 hUS hk ho=>by
  refine (bstring_run p q v A n c hv pp a w w1 w2 h1 hSD hw1 hUS).mono ?_
  rintro e w' ⟨rfl,rfl⟩
  refine ⟨_,H,rfl,rfl,?_,fun b h=>.inl h,hk.mono fun k _ h=>(h5 k).2 (.inr h)⟩
  rw [O.blds]
  exact ⟨v,q,(hk.block p hlt h4).trans h1,h2,ho,h4,h5⟩
 have hmax:a.size<=9223372036854775807\/True:=.inr trivial
 have hempty:a.size=0->a=ByteArray.empty:=fun h=>by
  obtain ⟨d⟩:=a
  have h:d.size=0:=h
  have:d=#[]:=Array.eq_empty_of_size_eq_zero h
  subst this
  rfl
 rcases h3.2 with ⟨hv,hn⟩ | ⟨g,cap,cur,fz,hv,hbg,hg,hfz,hnc,hcm,hcs,htake⟩
 ·refine fin none 0 0 (.pointer none) w.drew w.drew hv rfl rfl ?_ (Keep.refl _ w).drew h3
  rw [hempty hn]
  exact Go.Lib.run_unsafeString_none _ _ _ _ _
 ·have hkd:w.drew.heap[g]?=some (.cells cur 5 fz):=hg
  by_cases h0:a.size=0
  ·by_cases hc0:cap=0
   ·subst hc0
    have hSD:=Go.Lib.run_unsafeSliceData_zero (P:=Tryz.prog) w.drew #[166] 186 5 uBu ⟨g,0,none⟩ a.size (5,cur.size) (by simp [World.shape?,hkd])
    refine fin _ _ _ _ _ (w.drew.alloc (.view ⟨g,0,none⟩ 5)) hv hSD (heap_alloc_old w.drew _ hlt) ?_ ((Keep.refl _ w).drew.alloc _) ?_
    ·rw [h0,hempty h0]
     exact Go.Lib.run_unsafeString_none _ _ _ _ _
    ·refine ⟨h3.1,.inr ⟨g,0,cur,fz,hv,hbg,(heap_alloc_old w.drew _ (q0g hg)).trans hg,hfz,hnc,hcm,hcs,htake⟩⟩
   ·refine fin _ _ _ _ _ w.drew hv (Go.Lib.run_unsafeSliceData_row _ _ _ _ _ _ hc0) rfl ?_ (Keep.refl _ w).drew h3
    rw [h0,hempty h0]
    exact Go.Lib.run_unsafeString_none _ _ _ _ _
  ·have hc0:cap≠0:=by omega
   have hal:a.data.toList.length=a.size:=by simp
   have hUS:(Builtin.unsafeString_ #[186,3] 9 #[.pointer (some ⟨g,0,none⟩),.int .i64 a.data.toList.length]).run Tryz.prog w.drew=.ok (.string ⟨a.data.toList.toArray⟩) (w.drew.freeze ⟨g,0,none⟩ a.data.toList.length):=by
    refine Go.Lib.run_unsafeString_row w.drew 186 3 9 5 uBu cB8 g cur.size (by simp [World.shape?,hkd]) a.data.toList (fun e=>h0 (by rw [<- hal,e]; rfl)) (by rw [hal]; omega) (by rw [hal]; unfold maxLen at hcm; omega) ?_
    intro j x hx
    have:=h3.cells (g:=g) (by rw [hv]; rfl) j (.int .u8 x.toNat) (by simp only [Go.Lib.strCells,List.getElem?_map,hx,Option.map_some])
    exact this
   rw [hal] at hUS
   refine fin _ _ _ _ _ (w.drew.freeze ⟨g,0,none⟩ a.size) hv (Go.Lib.run_unsafeSliceData_row _ _ _ _ _ _ hc0) rfl hUS ?_ ?_
   ·exact ((Keep.refl _ w).drew).trans (keep_freeze g 0 a.size) (fun k _ hk=>by rw [hv,hk]; rfl)
   ·have h3':w.drew.ownsRowF 0 5 1 v a.size (Go.Lib.strCells a):=h3
    rw [hv] at h3' ⊢
    exact own_frz h3'
end
def q26:C:=.seq (.reg [⟨some 72,.bin .lss false (.t 71) (.t 70),none⟩]) (.seq (.cond (.t 72) .skip (.exit 0)) (.seq (.block 1 (.seq (.reg [⟨some 73,.mv (.t 71),none⟩,⟨some 13,.mv (.t 73),none⟩]) (.seq (.reg [⟨some 75,.load .any true 1 (.t 3),none⟩,⟨some 76,.mv (.t 13),none⟩,⟨some 77,.call .any 15 [(.t 75),(.t 76)],none⟩,⟨some 74,.mv (.t 77),none⟩,⟨some 78,.ext (.t 74) 0,none⟩,⟨some 79,.ext (.t 74) 1,none⟩,⟨some 14,.mv (.t 78),none⟩,⟨some 15,.mv (.t 79),none⟩]) (.seq (.reg [⟨some 81,.load .any true 1 (.t 3),none⟩,⟨some 82,.mv (.t 13),none⟩,⟨some 83,.call .any 16 [(.t 81),(.t 82)],none⟩,⟨some 80,.mv (.t 83),none⟩,⟨some 84,.ext (.t 80) 0,none⟩,⟨some 85,.ext (.t 80) 1,none⟩,⟨some 16,.mv (.t 84),none⟩,⟨some 17,.mv (.t 85),none⟩]) (.seq (.reg [⟨some 86,.mv (.t 15),none⟩,⟨some 87,.bin .neq false (.t 86) (.c (.int .i64 0)),none⟩,⟨some 88,.mv (.t 87),none⟩,⟨some 89,.mv (.t 14),some (88,false)⟩,⟨some 90,.mv (.t 16),some (88,false)⟩,⟨some 91,.bin .neq true (.t 89) (.t 90),some (88,false)⟩,⟨some 92,.pick (.t 88) (.c (.bool true)) (.t 91),none⟩,⟨some 93,.mv (.t 92),none⟩,⟨some 94,.mv (.t 5),some (93,false)⟩,⟨some 95,.mv (.t 13),some (93,false)⟩,⟨some 96,.iaddr 1 (.t 94) (.t 95),some (93,false)⟩,⟨some 97,.load .any false 1 (.t 96),some (93,false)⟩,⟨some 98,.mv (.t 7),some (93,false)⟩,⟨some 99,.mv (.t 13),some (93,false)⟩,⟨some 100,.iaddr 1 (.t 98) (.t 99),some (93,false)⟩,⟨some 101,.load .any false 1 (.t 100),some (93,false)⟩,⟨some 102,.bin .geq false (.t 101) (.c (.int .i64 0)),some (93,false)⟩,⟨some 103,.bin .neq true (.t 97) (.t 102),some (93,false)⟩,⟨some 104,.pick (.t 93) (.c (.bool true)) (.t 103),none⟩]) (.cond (.t 104) (.seq (.reg [⟨some 2,.mv (.c (.bool false)),none⟩]) .ret) .skip)))))) (.reg [⟨some 105,.bin .add false (.t 71) (.c (.int .i64 1)),none⟩,⟨some 71,.mv (.t 105),none⟩])))
def q16:FnC:=⟨(.seq (.reg [⟨some 1,.box 2 (.t 0),none⟩,⟨some 2,.mv (.c (.bool false)),none⟩]) (.seq (.reg [⟨some 19,.load .any true 2 (.t 1),none⟩,⟨some 20,.call .any 23 [(.t 19)],none⟩,⟨some 18,.mv (.t 20),none⟩,⟨some 21,.ext (.t 18) 0,none⟩,⟨some 22,.ext (.t 18) 1,none⟩,⟨some 3,.alloc [(.sl true [])],none⟩,⟨none,.store .any true 1 (.t 3) (.t 21),none⟩,⟨some 4,.mv (.t 22),none⟩]) (.seq (.seq (.reg [⟨some 23,.call .any 8 [],none⟩,⟨some 24,.un .not (.t 23),none⟩,⟨some 25,.mv (.t 24),none⟩,⟨some 26,.mv (.t 4),some (25,false)⟩,⟨some 27,.un .not (.t 26),some (25,false)⟩,⟨some 28,.pick (.t 25) (.c (.bool true)) (.t 27),none⟩]) (.cond (.t 28) (.seq (.reg [⟨some 29,.call .any 8 [],none⟩,⟨some 2,.mv (.t 29),none⟩]) .ret) .skip)) (.seq (.reg [⟨some 31,.load .any true 1 (.t 3),none⟩,⟨some 32,.call .any 11 [(.t 31)],none⟩,⟨some 30,.mv (.t 32),none⟩,⟨some 33,.ext (.t 30) 0,none⟩,⟨some 34,.ext (.t 30) 1,none⟩,⟨some 5,.mv (.t 33),none⟩,⟨some 6,.mv (.t 34),none⟩]) (.seq (.reg [⟨some 36,.load .any true 1 (.t 3),none⟩,⟨some 37,.call .any 17 [(.t 36)],none⟩,⟨some 35,.mv (.t 37),none⟩,⟨some 38,.ext (.t 35) 0,none⟩,⟨some 39,.ext (.t 35) 1,none⟩,⟨some 7,.mv (.t 38),none⟩,⟨some 8,.mv (.t 39),none⟩]) (.seq (.reg [⟨some 41,.load .any true 1 (.t 3),none⟩,⟨some 42,.call .any 12 [(.t 41)],none⟩,⟨some 40,.mv (.t 42),none⟩,⟨some 43,.ext (.t 40) 0,none⟩,⟨some 44,.ext (.t 40) 1,none⟩,⟨some 9,.mv (.t 43),none⟩,⟨some 10,.mv (.t 44),none⟩]) (.seq (.reg [⟨some 46,.load .any true 1 (.t 3),none⟩,⟨some 47,.call .any 24 [(.t 46)],none⟩,⟨some 45,.mv (.t 47),none⟩,⟨some 48,.ext (.t 45) 0,none⟩,⟨some 49,.ext (.t 45) 1,none⟩,⟨some 11,.mv (.t 48),none⟩,⟨some 12,.mv (.t 49),none⟩]) (.seq (.seq (.reg [⟨some 50,.mv (.t 6),none⟩,⟨some 51,.bin .neq false (.t 50) (.c (.int .i64 0)),none⟩,⟨some 52,.mv (.t 51),none⟩,⟨some 53,.mv (.t 8),some (52,false)⟩,⟨some 54,.bin .neq false (.t 53) (.c (.int .i64 0)),some (52,false)⟩,⟨some 55,.pick (.t 52) (.c (.bool true)) (.t 54),none⟩,⟨some 56,.mv (.t 55),none⟩,⟨some 57,.mv (.t 5),some (56,false)⟩,⟨some 58,.mv (.t 9),some (56,false)⟩,⟨some 59,.call .any 20 [(.t 57),(.t 58)],some (56,false)⟩,⟨some 60,.un .not (.t 59),some (56,false)⟩,⟨some 61,.pick (.t 56) (.c (.bool true)) (.t 60),none⟩,⟨some 62,.mv (.t 61),none⟩,⟨some 63,.mv (.t 7),some (62,false)⟩,⟨some 64,.mv (.t 11),some (62,false)⟩,⟨some 65,.call .any 25 [(.t 63),(.t 64)],some (62,false)⟩,⟨some 66,.un .not (.t 65),some (62,false)⟩,⟨some 67,.pick (.t 62) (.c (.bool true)) (.t 66),none⟩]) (.cond (.t 67) (.seq (.reg [⟨some 2,.mv (.c (.bool false)),none⟩]) .ret) .skip)) (.seq (.seq (.reg [⟨some 68,.faddr 0 (.t 3),none⟩,⟨some 69,.load .any false 1 (.t 68),none⟩,⟨some 70,.len false (.t 69),none⟩,⟨some 71,.mv (.c (.int .i64 0)),none⟩]) (.block 0 (.loop q26))) (.seq (.reg [⟨some 2,.mv (.c (.bool true)),none⟩]) .ret)))))))))),[(.tmp 2)],1,[]⟩
theorem q6g:FnOk Tryz.prog 4 q16:=⟨fun xs w=>by kernel_rfl,_,Tryz.func4,by kernel_rfl⟩
def q4o:FnC:=⟨(.seq (.reg [⟨some 1,.box 2 (.t 0),none⟩,⟨some 2,.mv (.c (.bool false)),none⟩]) (.seq (.reg [⟨some 6,.load .any true 2 (.t 1),none⟩,⟨some 7,.call .any 23 [(.t 6)],none⟩,⟨some 5,.mv (.t 7),none⟩,⟨some 8,.ext (.t 5) 0,none⟩,⟨some 9,.ext (.t 5) 1,none⟩,⟨some 3,.alloc [(.sl true [])],none⟩,⟨none,.store .any true 1 (.t 3) (.t 8),none⟩,⟨some 4,.mv (.t 9),none⟩]) (.seq (.seq (.reg [⟨some 10,.call .any 8 [],none⟩,⟨some 11,.un .not (.t 10),none⟩,⟨some 12,.mv (.t 11),none⟩,⟨some 13,.mv (.t 4),some (12,false)⟩,⟨some 14,.un .not (.t 13),some (12,false)⟩,⟨some 15,.pick (.t 12) (.c (.bool true)) (.t 14),none⟩]) (.cond (.t 15) (.seq (.reg [⟨some 16,.call .any 8 [],none⟩,⟨some 2,.mv (.t 16),none⟩]) .ret) .skip)) (.seq (.reg [⟨some 17,.load .any true 1 (.t 3),none⟩,⟨some 18,.call .any 21 [(.t 17)],none⟩,⟨some 19,.load .any true 1 (.t 3),none⟩,⟨some 20,.call .any 22 [(.t 19)],none⟩,⟨some 21,.bin .eql false (.t 18) (.t 20),none⟩,⟨some 2,.mv (.t 21),none⟩]) .ret)))),[(.tmp 2)],1,[]⟩
theorem q6A:FnOk Tryz.prog 5 q4o:=⟨fun xs w=>by kernel_rfl,_,Tryz.func5,by kernel_rfl⟩
def q5w:C:=.seq (.reg [⟨some 61,.bin .lss false (.t 60) (.t 59),none⟩]) (.seq (.cond (.t 61) .skip (.exit 2)) (.seq (.block 3 (.seq (.reg [⟨some 62,.iaddr 13 (.t 58) (.t 60),none⟩,⟨some 63,.load .any true 13 (.t 62),none⟩,⟨some 11,.alloc [(.int .i64 0),(.str (ByteArray.mk #[])),(.int .i64 0),(.bool false),(.bool false),(.int .i64 0),(.bool false),(.int .i64 0),(.str (ByteArray.mk #[])),(.int .i64 0),(.sl true []),(.sl true []),(.sl true [])],none⟩,⟨none,.store .any true 13 (.t 11) (.t 63),none⟩]) (.seq (.seq (.reg [⟨some 64,.faddr 0 (.t 8),none⟩,⟨some 65,.load .any false 1 (.t 64),none⟩,⟨some 66,.bin .eql false (.t 65) (.c (.int .i64 5)),none⟩,⟨some 67,.mv (.t 66),none⟩,⟨some 68,.mv (.t 5),some (67,true)⟩,⟨some 69,.mv (.t 7),some (67,true)⟩,⟨some 70,.iaddr 1 (.t 68) (.t 69),some (67,true)⟩,⟨some 71,.load .any false 1 (.t 70),some (67,true)⟩,⟨some 72,.bin .geq false (.t 71) (.c (.int .i64 0)),some (67,true)⟩,⟨some 73,.pick (.t 67) (.t 72) (.c (.bool false)),none⟩,⟨some 74,.mv (.t 73),none⟩,⟨some 75,.faddr 4 (.t 11),some (74,true)⟩,⟨some 76,.load .any false 1 (.t 75),some (74,true)⟩,⟨some 77,.un .not (.t 76),some (74,true)⟩,⟨some 78,.pick (.t 74) (.t 77) (.c (.bool false)),none⟩,⟨some 79,.mv (.t 78),none⟩,⟨some 80,.mv (.t 5),some (79,true)⟩,⟨some 81,.faddr 2 (.t 11),some (79,true)⟩,⟨some 82,.load .any false 1 (.t 81),some (79,true)⟩,⟨some 83,.iaddr 1 (.t 80) (.t 82),some (79,true)⟩,⟨some 84,.load .any false 1 (.t 83),some (79,true)⟩,⟨some 85,.bin .lss false (.t 84) (.c (.int .i64 0)),some (79,true)⟩,⟨some 86,.mv (.t 85),some (79,true)⟩,⟨some 87,.mv (.t 5),some (86,false)⟩,⟨some 88,.faddr 2 (.t 11),some (86,false)⟩,⟨some 89,.load .any false 1 (.t 88),some (86,false)⟩,⟨some 90,.iaddr 1 (.t 87) (.t 89),some (86,false)⟩,⟨some 91,.load .any false 1 (.t 90),some (86,false)⟩,⟨some 92,.mv (.t 5),some (86,false)⟩,⟨some 93,.mv (.t 7),some (86,false)⟩,⟨some 94,.iaddr 1 (.t 92) (.t 93),some (86,false)⟩,⟨some 95,.load .any false 1 (.t 94),some (86,false)⟩,⟨some 96,.bin .geq false (.t 91) (.t 95),some (86,false)⟩,⟨some 97,.pick (.t 86) (.c (.bool true)) (.t 96),some (79,true)⟩,⟨some 98,.pick (.t 79) (.t 97) (.c (.bool false)),none⟩]) (.cond (.t 98) (.seq (.reg [⟨some 2,.mv (.c (.bool false)),none⟩]) .ret) .skip)) (.reg [⟨some 99,.mv (.t 9),none⟩,⟨some 100,.mv (.t 99),none⟩,⟨some 101,.mv (.t 5),some (100,false)⟩,⟨some 102,.faddr 2 (.t 11),some (100,false)⟩,⟨some 103,.load .any false 1 (.t 102),some (100,false)⟩,⟨some 104,.iaddr 1 (.t 101) (.t 103),some (100,false)⟩,⟨some 105,.load .any false 1 (.t 104),some (100,false)⟩,⟨some 106,.bin .geq false (.t 105) (.c (.int .i64 0)),some (100,false)⟩,⟨some 107,.mv (.t 106),some (100,false)⟩,⟨some 108,.mv (.t 5),some (107,true)⟩,⟨some 109,.faddr 2 (.t 11),some (107,true)⟩,⟨some 110,.load .any false 1 (.t 109),some (107,true)⟩,⟨some 111,.iaddr 1 (.t 108) (.t 110),some (107,true)⟩,⟨some 112,.load .any false 1 (.t 111),some (107,true)⟩,⟨some 113,.mv (.t 5),some (107,true)⟩,⟨some 114,.mv (.t 7),some (107,true)⟩,⟨some 115,.iaddr 1 (.t 113) (.t 114),some (107,true)⟩,⟨some 116,.load .any false 1 (.t 115),some (107,true)⟩,⟨some 117,.bin .lss false (.t 112) (.t 116),some (107,true)⟩,⟨some 118,.pick (.t 107) (.t 117) (.c (.bool false)),some (100,false)⟩,⟨some 119,.pick (.t 100) (.c (.bool true)) (.t 118),none⟩,⟨some 9,.mv (.t 119),none⟩])))) (.reg [⟨some 120,.bin .add false (.t 60) (.c (.int .i64 1)),none⟩,⟨some 60,.mv (.t 120),none⟩])))
def q5t:C:=.seq (.reg [⟨some 43,.bin .lss false (.t 42) (.t 41),none⟩]) (.seq (.cond (.t 43) .skip (.exit 0)) (.seq (.block 1 (.seq (.reg [⟨some 44,.mv (.t 42),none⟩,⟨some 45,.iaddr 10 (.t 40) (.t 42),none⟩,⟨some 46,.load .any true 10 (.t 45),none⟩,⟨some 8,.alloc [(.int .i64 0),(.str (ByteArray.mk #[])),(.int .i64 0),(.int .i64 0),(.int .i64 0),(.sl true []),(.sl true []),(.int .i64 0),(.int .i64 0),(.bool false)],none⟩,⟨some 7,.mv (.t 44),none⟩,⟨none,.store .any true 10 (.t 8) (.t 46),none⟩]) (.seq (.reg [⟨some 47,.faddr 0 (.t 8),none⟩,⟨some 48,.load .any false 1 (.t 47),none⟩,⟨some 49,.bin .neq false (.t 48) (.c (.int .i64 6)),none⟩,⟨some 50,.mv (.t 49),none⟩,⟨some 51,.mv (.t 5),some (50,false)⟩,⟨some 52,.mv (.t 7),some (50,false)⟩,⟨some 53,.iaddr 1 (.t 51) (.t 52),some (50,false)⟩,⟨some 54,.load .any false 1 (.t 53),some (50,false)⟩,⟨some 55,.bin .lss false (.t 54) (.c (.int .i64 0)),some (50,false)⟩,⟨some 56,.pick (.t 50) (.c (.bool true)) (.t 55),none⟩,⟨some 9,.mv (.t 56),none⟩]) (.seq (.seq (.reg [⟨some 57,.faddr 6 (.t 8),none⟩,⟨some 58,.load .any false 1 (.t 57),none⟩,⟨some 59,.len false (.t 58),none⟩,⟨some 60,.mv (.c (.int .i64 0)),none⟩]) (.block 2 (.loop q5w))) (.seq (.reg [⟨some 121,.mv (.t 9),none⟩,⟨some 122,.un .not (.t 121),none⟩]) (.cond (.t 122) (.seq (.reg [⟨some 2,.mv (.c (.bool false)),none⟩]) .ret) .skip)))))) (.reg [⟨some 123,.bin .add false (.t 42) (.c (.int .i64 1)),none⟩,⟨some 42,.mv (.t 123),none⟩])))
def q44:FnC:=⟨(.seq (.reg [⟨some 1,.box 2 (.t 0),none⟩,⟨some 2,.mv (.c (.bool false)),none⟩]) (.seq (.reg [⟨some 13,.load .any true 2 (.t 1),none⟩,⟨some 14,.call .any 23 [(.t 13)],none⟩,⟨some 12,.mv (.t 14),none⟩,⟨some 15,.ext (.t 12) 0,none⟩,⟨some 16,.ext (.t 12) 1,none⟩,⟨some 3,.alloc [(.sl true [])],none⟩,⟨none,.store .any true 1 (.t 3) (.t 15),none⟩,⟨some 4,.mv (.t 16),none⟩]) (.seq (.seq (.reg [⟨some 17,.call .any 8 [],none⟩,⟨some 18,.un .not (.t 17),none⟩,⟨some 19,.mv (.t 18),none⟩,⟨some 20,.mv (.t 4),some (19,false)⟩,⟨some 21,.un .not (.t 20),some (19,false)⟩,⟨some 22,.pick (.t 19) (.c (.bool true)) (.t 21),none⟩]) (.cond (.t 22) (.seq (.reg [⟨some 23,.call .any 8 [],none⟩,⟨some 2,.mv (.t 23),none⟩]) .ret) .skip)) (.seq (.reg [⟨some 25,.load .any true 1 (.t 3),none⟩,⟨some 26,.call .any 17 [(.t 25)],none⟩,⟨some 24,.mv (.t 26),none⟩,⟨some 27,.ext (.t 24) 0,none⟩,⟨some 28,.ext (.t 24) 1,none⟩,⟨some 5,.mv (.t 27),none⟩,⟨some 6,.mv (.t 28),none⟩]) (.seq (.seq (.reg [⟨some 29,.mv (.t 6),none⟩,⟨some 30,.bin .neq false (.t 29) (.c (.int .i64 0)),none⟩,⟨some 31,.mv (.t 30),none⟩,⟨some 32,.mv (.t 5),some (31,false)⟩,⟨some 33,.len false (.t 32),some (31,false)⟩,⟨some 34,.faddr 0 (.t 3),some (31,false)⟩,⟨some 35,.load .any false 1 (.t 34),some (31,false)⟩,⟨some 36,.len false (.t 35),some (31,false)⟩,⟨some 37,.bin .neq false (.t 33) (.t 36),some (31,false)⟩,⟨some 38,.pick (.t 31) (.c (.bool true)) (.t 37),none⟩]) (.cond (.t 38) (.seq (.reg [⟨some 2,.mv (.c (.bool false)),none⟩]) .ret) .skip)) (.seq (.seq (.reg [⟨some 39,.faddr 0 (.t 3),none⟩,⟨some 40,.load .any false 1 (.t 39),none⟩,⟨some 41,.len false (.t 40),none⟩,⟨some 42,.mv (.c (.int .i64 0)),none⟩]) (.block 0 (.loop q5t))) (.seq (.reg [⟨some 2,.mv (.c (.bool true)),none⟩]) .ret))))))),[(.tmp 2)],1,[]⟩
theorem q6b:FnOk Tryz.prog 7 q44:=⟨fun xs w=>by kernel_rfl,_,Tryz.func7,by kernel_rfl⟩
noncomputable def q7v:FnC:=(q25 Go.Proofs.Tryz.prog [] Go.Proofs.Tryz.f8).getD ⟨.skip,[],0,[]⟩
theorem ok_law11_awake:FnOk Tryz.prog 8 q7v:=⟨fun xs w=>by kernel_rfl,_,Tryz.func8,by kernel_rfl⟩
def q2g:C:=.seq (.reg [⟨some 17,.bin .lss false (.t 16) (.t 15),none⟩]) (.seq (.cond (.t 17) .skip (.exit 0)) (.seq (.block 1 (.seq (.reg [⟨some 18,.iaddr 1 (.t 14) (.t 16),none⟩,⟨some 19,.load .any false 1 (.t 18),none⟩,⟨some 7,.mv (.t 19),none⟩]) (.reg [⟨some 20,.mv (.t 5),none⟩,⟨some 21,.mv (.t 7),none⟩,⟨some 22,.bin .gtr false (.t 21) (.c (.int .i64 0)),none⟩,⟨some 23,.bsl [(.bool false)] 1 [(0,(.t 22))],none⟩,⟨some 24,.app .any 4 1 1 (.t 20) (.t 23),none⟩,⟨some 5,.mv (.t 24),none⟩]))) (.reg [⟨some 25,.bin .add false (.t 16) (.c (.int .i64 1)),none⟩,⟨some 16,.mv (.t 25),none⟩])))
def q2m:FnC:=⟨(.seq (.reg [⟨some 1,.box 1 (.t 0),none⟩,⟨some 2,.mv (.c (.sl true [])),none⟩,⟨some 3,.mv (.c (.int .i64 0)),none⟩]) (.seq (.seq (.reg [⟨some 8,.load .any true 1 (.t 1),none⟩,⟨some 9,.call .any 30 [(.t 8)],none⟩,⟨some 4,.mv (.t 9),none⟩]) (.seq (.reg [⟨some 10,.mv (.t 4),none⟩,⟨some 11,.bin .neq false (.t 10) (.c (.int .i64 0)),none⟩]) (.cond (.t 11) (.seq (.reg [⟨some 12,.mv (.t 4),none⟩,⟨some 2,.mv (.c (.sl true [])),none⟩,⟨some 3,.mv (.t 12),none⟩]) .ret) .skip))) (.seq (.reg [⟨some 5,.mv (.c (.sl true [])),none⟩]) (.seq (.seq (.reg [⟨some 13,.load .any true 1 (.t 1),none⟩,⟨some 14,.call .any 31 [(.t 13)],none⟩,⟨some 15,.len false (.t 14),none⟩,⟨some 16,.mv (.c (.int .i64 0)),none⟩]) (.block 0 (.loop q2g))) (.seq (.reg [⟨some 26,.mv (.t 5),none⟩,⟨some 2,.mv (.t 26),none⟩,⟨some 3,.mv (.c (.int .i64 0)),none⟩]) .ret))))),[(.tmp 2),(.tmp 3)],1,[]⟩
theorem q7W:FnOk Tryz.prog 11 q2m:=⟨fun xs w=>by kernel_rfl,_,Tryz.func11,by kernel_rfl⟩
def q2N:C:=.seq (.seq (.reg [⟨some 15,.mv (.t 7),none⟩,⟨some 16,.mv (.t 5),none⟩,⟨some 17,.len false (.t 16),none⟩,⟨some 18,.bin .lss false (.t 15) (.t 17),none⟩]) (.cond (.t 18) .skip (.exit 0))) (.seq (.block 1 (.reg [⟨some 21,.mv (.t 6),none⟩,⟨some 22,.mv (.t 5),none⟩,⟨some 23,.mv (.t 7),none⟩,⟨some 24,.iaddr 1 (.t 22) (.t 23),none⟩,⟨some 25,.load .any false 1 (.t 24),none⟩,⟨some 26,.bin .gtr false (.t 25) (.c (.int .i64 0)),none⟩,⟨some 27,.bsl [(.bool false)] 1 [(0,(.t 26))],none⟩,⟨some 28,.app .any 4 1 1 (.t 21) (.t 27),none⟩,⟨some 6,.mv (.t 28),none⟩])) (.reg [⟨some 19,.mv (.t 7),none⟩,⟨some 20,.bin .add false (.t 19) (.c (.int .i64 1)),none⟩,⟨some 7,.mv (.t 20),none⟩]))
def q2Y:FnC:=⟨(.seq (.reg [⟨some 1,.box 1 (.t 0),none⟩,⟨some 2,.mv (.c (.sl true [])),none⟩,⟨some 3,.mv (.c (.int .i64 0)),none⟩]) (.seq (.seq (.reg [⟨some 8,.load .any true 1 (.t 1),none⟩,⟨some 9,.call .any 29 [(.t 8)],none⟩,⟨some 4,.mv (.t 9),none⟩]) (.seq (.reg [⟨some 10,.mv (.t 4),none⟩,⟨some 11,.bin .neq false (.t 10) (.c (.int .i64 0)),none⟩]) (.cond (.t 11) (.seq (.reg [⟨some 12,.mv (.t 4),none⟩,⟨some 2,.mv (.c (.sl true [])),none⟩,⟨some 3,.mv (.t 12),none⟩]) .ret) .skip))) (.seq (.reg [⟨some 13,.load .any true 1 (.t 1),none⟩,⟨some 14,.call .any 32 [(.t 13)],none⟩,⟨some 5,.mv (.t 14),none⟩]) (.seq (.reg [⟨some 6,.mv (.c (.sl true [])),none⟩]) (.seq (.seq (.reg [⟨some 7,.mv (.c (.int .i64 0)),none⟩]) (.block 0 (.loop q2N))) (.seq (.reg [⟨some 29,.mv (.t 6),none⟩,⟨some 2,.mv (.t 29),none⟩,⟨some 3,.mv (.c (.int .i64 0)),none⟩]) .ret)))))),[(.tmp 2),(.tmp 3)],1,[]⟩
theorem ok_ref11_Finite:FnOk Tryz.prog 12 q2Y:=⟨fun xs w=>by kernel_rfl,_,Tryz.func12,by kernel_rfl⟩
noncomputable def q6W:FnC:=(q25 Go.Proofs.Tryz.prog [] Go.Proofs.Tryz.f13).getD ⟨.skip,[],0,[]⟩
theorem ok_inhabit_Size:FnOk Tryz.prog 13 q6W:=⟨fun xs w=>by kernel_rfl,_,Tryz.func13,by kernel_rfl⟩
def q36:FnC:=⟨(.seq (.reg [⟨some 2,.box 1 (.t 0),none⟩,⟨some 4,.mv (.c (.bool false)),none⟩,⟨some 5,.mv (.c (.int .i64 0)),none⟩]) (.seq (.seq (.reg [⟨some 7,.load .any true 1 (.t 2),none⟩,⟨some 8,.mv (.t 1),none⟩,⟨some 9,.call .any 33 [(.t 7),(.t 8)],none⟩,⟨some 6,.mv (.t 9),none⟩]) (.seq (.reg [⟨some 10,.mv (.t 6),none⟩,⟨some 11,.bin .neq false (.t 10) (.c (.int .i64 0)),none⟩]) (.cond (.t 11) (.seq (.reg [⟨some 12,.mv (.t 6),none⟩,⟨some 4,.mv (.c (.bool false)),none⟩,⟨some 5,.mv (.t 12),none⟩]) .ret) .skip))) (.seq (.reg [⟨some 13,.load .any true 1 (.t 2),none⟩,⟨some 14,.call .any 31 [(.t 13)],none⟩,⟨some 15,.mv (.t 1),none⟩,⟨some 16,.iaddr 1 (.t 14) (.t 15),none⟩,⟨some 17,.load .any false 1 (.t 16),none⟩,⟨some 18,.bin .eql false (.t 17) (.c (.int .i64 1)),none⟩,⟨some 4,.mv (.t 18),none⟩,⟨some 5,.mv (.c (.int .i64 0)),none⟩]) .ret))),[(.tmp 4),(.tmp 5)],2,[]⟩
theorem q84:FnOk Tryz.prog 15 q36:=⟨fun xs w=>by kernel_rfl,_,Tryz.func15,by kernel_rfl⟩
def q3X:FnC:=⟨(.seq (.reg [⟨some 2,.box 1 (.t 0),none⟩,⟨some 4,.mv (.c (.bool false)),none⟩,⟨some 5,.mv (.c (.int .i64 0)),none⟩]) (.seq (.seq (.reg [⟨some 7,.load .any true 1 (.t 2),none⟩,⟨some 8,.mv (.t 1),none⟩,⟨some 9,.call .any 36 [(.t 7),(.t 8)],none⟩,⟨some 6,.mv (.t 9),none⟩]) (.seq (.reg [⟨some 10,.mv (.t 6),none⟩,⟨some 11,.bin .neq false (.t 10) (.c (.int .i64 0)),none⟩]) (.cond (.t 11) (.seq (.reg [⟨some 12,.mv (.t 6),none⟩,⟨some 4,.mv (.c (.bool false)),none⟩,⟨some 5,.mv (.t 12),none⟩]) .ret) .skip))) (.seq (.reg [⟨some 13,.load .any true 1 (.t 2),none⟩,⟨some 14,.call .any 32 [(.t 13)],none⟩,⟨some 15,.mv (.t 1),none⟩,⟨some 16,.iaddr 1 (.t 14) (.t 15),none⟩,⟨some 17,.load .any false 1 (.t 16),none⟩,⟨some 18,.bin .eql false (.t 17) (.c (.int .i64 1)),none⟩,⟨some 4,.mv (.t 18),none⟩,⟨some 5,.mv (.c (.int .i64 0)),none⟩]) .ret))),[(.tmp 4),(.tmp 5)],2,[]⟩
theorem ok_ref11_Single:FnOk Tryz.prog 16 q3X:=⟨fun xs w=>by kernel_rfl,_,Tryz.func16,by kernel_rfl⟩
def q2j:C:=.seq (.reg [⟨some 56,.bin .lss false (.t 55) (.t 54),none⟩]) (.seq (.cond (.t 56) .skip (.exit 6)) (.seq (.block 7 (.seq (.reg [⟨some 57,.mv (.t 55),none⟩,⟨some 11,.mv (.t 57),none⟩]) (.seq (.reg [⟨some 58,.mv (.t 5),none⟩,⟨some 59,.mv (.t 11),none⟩,⟨some 60,.iaddr 1 (.t 58) (.t 59),none⟩,⟨some 61,.load .any false 1 (.t 60),none⟩,⟨some 62,.bin .eql false (.t 61) (.c (.int .i64 1073741824)),none⟩]) (.cond (.t 62) (.reg [⟨some 63,.mv (.t 5),none⟩,⟨some 64,.mv (.t 11),none⟩,⟨some 65,.iaddr 1 (.t 63) (.t 64),none⟩,⟨none,.store .any false 1 (.t 65) (.c (.int .i64 (-1))),none⟩]) .skip)))) (.reg [⟨some 66,.bin .add false (.t 55) (.c (.int .i64 1)),none⟩,⟨some 55,.mv (.t 66),none⟩])))
def q1L:C:=.seq (.reg [⟨some 35,.bin .lss false (.t 34) (.t 33),none⟩]) (.seq (.cond (.t 35) .skip (.exit 4)) (.seq (.block 5 (.seq (.reg [⟨some 36,.mv (.t 34),none⟩,⟨some 37,.iaddr 10 (.t 32) (.t 34),none⟩,⟨some 38,.load .any true 10 (.t 37),none⟩,⟨some 9,.alloc [(.int .i64 0),(.str (ByteArray.mk #[])),(.int .i64 0),(.int .i64 0),(.int .i64 0),(.sl true []),(.sl true []),(.int .i64 0),(.int .i64 0),(.bool false)],none⟩,⟨some 8,.mv (.t 36),none⟩,⟨none,.store .any true 10 (.t 9) (.t 38),none⟩]) (.seq (.reg [⟨some 39,.load .any true 10 (.t 9),none⟩,⟨some 40,.mv (.t 5),none⟩,⟨some 41,.call .any 37 [(.t 39),(.t 40)],none⟩,⟨some 10,.mv (.t 41),none⟩]) (.seq (.reg [⟨some 42,.mv (.t 10),none⟩,⟨some 43,.mv (.t 5),none⟩,⟨some 44,.mv (.t 8),none⟩,⟨some 45,.iaddr 1 (.t 43) (.t 44),none⟩,⟨some 46,.load .any false 1 (.t 45),none⟩,⟨some 47,.bin .lss false (.t 42) (.t 46),none⟩]) (.cond (.t 47) (.reg [⟨some 48,.mv (.t 5),none⟩,⟨some 49,.mv (.t 8),none⟩,⟨some 50,.mv (.t 10),none⟩,⟨some 51,.iaddr 1 (.t 48) (.t 49),none⟩,⟨none,.store .any false 1 (.t 51) (.t 50),none⟩,⟨some 7,.mv (.c (.bool true)),none⟩]) .skip))))) (.reg [⟨some 52,.bin .add false (.t 34) (.c (.int .i64 1)),none⟩,⟨some 34,.mv (.t 52),none⟩])))
def q3g:C:=.seq (.seq (.reg [⟨some 30,.mv (.t 7),none⟩]) (.cond (.t 30) .skip (.exit 2))) (.block 3 (.seq (.reg [⟨some 7,.mv (.c (.bool false)),none⟩]) (.seq (.reg [⟨some 31,.faddr 0 (.t 1),none⟩,⟨some 32,.load .any false 1 (.t 31),none⟩,⟨some 33,.len false (.t 32),none⟩,⟨some 34,.mv (.c (.int .i64 0)),none⟩]) (.block 4 (.loop q1L)))))
def q3d:C:=.seq (.reg [⟨some 24,.bin .lss false (.t 23) (.t 22),none⟩]) (.seq (.cond (.t 24) .skip (.exit 0)) (.seq (.block 1 (.seq (.reg [⟨some 25,.mv (.t 23),none⟩,⟨some 6,.mv (.t 25),none⟩]) (.reg [⟨some 26,.mv (.t 5),none⟩,⟨some 27,.mv (.t 6),none⟩,⟨some 28,.iaddr 1 (.t 26) (.t 27),none⟩,⟨none,.store .any false 1 (.t 28) (.c (.int .i64 1073741824)),none⟩]))) (.reg [⟨some 29,.bin .add false (.t 23) (.c (.int .i64 1)),none⟩,⟨some 23,.mv (.t 29),none⟩])))
def q1Q:FnC:=⟨(.seq (.reg [⟨some 1,.box 1 (.t 0),none⟩,⟨some 2,.mv (.c (.sl true [])),none⟩,⟨some 3,.mv (.c (.int .i64 0)),none⟩]) (.seq (.seq (.reg [⟨some 12,.load .any true 1 (.t 1),none⟩,⟨some 13,.call .any 30 [(.t 12)],none⟩,⟨some 4,.mv (.t 13),none⟩]) (.seq (.reg [⟨some 14,.mv (.t 4),none⟩,⟨some 15,.bin .neq false (.t 14) (.c (.int .i64 0)),none⟩]) (.cond (.t 15) (.seq (.reg [⟨some 16,.mv (.t 4),none⟩,⟨some 2,.mv (.c (.sl true [])),none⟩,⟨some 3,.mv (.t 16),none⟩]) .ret) .skip))) (.seq (.reg [⟨some 17,.faddr 0 (.t 1),none⟩,⟨some 18,.load .any false 1 (.t 17),none⟩,⟨some 19,.len false (.t 18),none⟩,⟨some 20,.mks 1 8 [(.int .i64 0)] (.t 19) (.t 19),none⟩,⟨some 5,.mv (.t 20),none⟩]) (.seq (.seq (.reg [⟨some 21,.mv (.t 5),none⟩,⟨some 22,.len false (.t 21),none⟩,⟨some 23,.mv (.c (.int .i64 0)),none⟩]) (.block 0 (.loop q3d))) (.seq (.seq (.reg [⟨some 7,.mv (.c (.bool true)),none⟩]) (.block 2 (.loop q3g))) (.seq (.seq (.reg [⟨some 53,.mv (.t 5),none⟩,⟨some 54,.len false (.t 53),none⟩,⟨some 55,.mv (.c (.int .i64 0)),none⟩]) (.block 6 (.loop q2j))) (.seq (.reg [⟨some 67,.mv (.t 5),none⟩,⟨some 2,.mv (.t 67),none⟩,⟨some 3,.mv (.c (.int .i64 0)),none⟩]) .ret))))))),[(.tmp 2),(.tmp 3)],1,[]⟩
theorem q8e:FnOk Tryz.prog 17 q1Q:=⟨fun xs w=>by kernel_rfl,_,Tryz.func17,by kernel_rfl⟩
noncomputable def q6y:FnC:=(q25 Go.Proofs.Tryz.prog [] Go.Proofs.Tryz.f18).getD ⟨.skip,[],0,[]⟩
theorem q8Q:FnOk Tryz.prog 18 q6y:=⟨fun xs w=>by kernel_rfl,_,Tryz.func18,by kernel_rfl⟩
def q4l:C:=.seq (.seq (.reg [⟨some 11,.mv (.t 5),none⟩,⟨some 12,.mv (.t 0),none⟩,⟨some 13,.len false (.t 12),none⟩,⟨some 14,.bin .lss false (.t 11) (.t 13),none⟩]) (.cond (.t 14) .skip (.exit 0))) (.seq (.block 1 (.seq (.reg [⟨some 17,.mv (.t 0),none⟩,⟨some 18,.mv (.t 5),none⟩,⟨some 19,.iaddr 1 (.t 17) (.t 18),none⟩,⟨some 20,.load .any false 1 (.t 19),none⟩,⟨some 21,.mv (.t 1),none⟩,⟨some 22,.mv (.t 5),none⟩,⟨some 23,.iaddr 1 (.t 21) (.t 22),none⟩,⟨some 24,.load .any false 1 (.t 23),none⟩,⟨some 25,.bin .neq true (.t 20) (.t 24),none⟩]) (.cond (.t 25) (.seq (.reg [⟨some 4,.mv (.c (.bool false)),none⟩]) .ret) .skip))) (.reg [⟨some 15,.mv (.t 5),none⟩,⟨some 16,.bin .add false (.t 15) (.c (.int .i64 1)),none⟩,⟨some 5,.mv (.t 16),none⟩]))
def q4A:FnC:=⟨(.seq (.reg [⟨some 4,.mv (.c (.bool false)),none⟩]) (.seq (.seq (.reg [⟨some 6,.mv (.t 0),none⟩,⟨some 7,.len false (.t 6),none⟩,⟨some 8,.mv (.t 1),none⟩,⟨some 9,.len false (.t 8),none⟩,⟨some 10,.bin .neq false (.t 7) (.t 9),none⟩]) (.cond (.t 10) (.seq (.reg [⟨some 4,.mv (.c (.bool false)),none⟩]) .ret) .skip)) (.seq (.seq (.reg [⟨some 5,.mv (.c (.int .i64 0)),none⟩]) (.block 0 (.loop q4l))) (.seq (.reg [⟨some 4,.mv (.c (.bool true)),none⟩]) .ret)))),[(.tmp 4)],2,[]⟩
theorem ok_ref11_Bools:FnOk Tryz.prog 20 q4A:=⟨fun xs w=>by kernel_rfl,_,Tryz.func20,by kernel_rfl⟩
def q7r:C:=.seq (.reg [⟨some 18,.bin .lss false (.t 17) (.t 16),none⟩]) (.seq (.cond (.t 18) .skip (.exit 0)) (.seq (.block 1 (.seq (.reg [⟨some 19,.iaddr 1 (.t 15) (.t 17),none⟩,⟨some 20,.load .any false 1 (.t 19),none⟩,⟨some 6,.mv (.t 20),none⟩]) (.seq (.reg [⟨some 21,.mv (.t 6),none⟩,⟨some 22,.un .not (.t 21),none⟩]) (.cond (.t 22) (.seq (.reg [⟨some 2,.mv (.c (.int .i64 10)),none⟩]) .ret) .skip)))) (.reg [⟨some 23,.bin .add false (.t 17) (.c (.int .i64 1)),none⟩,⟨some 17,.mv (.t 23),none⟩])))
def q6i:FnC:=⟨(.seq (.reg [⟨some 1,.box 1 (.t 0),none⟩,⟨some 2,.mv (.c (.int .i64 0)),none⟩]) (.seq (.reg [⟨some 8,.load .any true 1 (.t 1),none⟩,⟨some 9,.call .any 11 [(.t 8)],none⟩,⟨some 7,.mv (.t 9),none⟩,⟨some 10,.ext (.t 7) 0,none⟩,⟨some 11,.ext (.t 7) 1,none⟩,⟨some 3,.mv (.t 10),none⟩,⟨some 4,.mv (.t 11),none⟩]) (.seq (.seq (.reg [⟨some 12,.mv (.t 4),none⟩,⟨some 13,.bin .neq false (.t 12) (.c (.int .i64 0)),none⟩]) (.cond (.t 13) (.seq (.reg [⟨some 14,.mv (.t 4),none⟩,⟨some 2,.mv (.t 14),none⟩]) .ret) .skip)) (.seq (.seq (.reg [⟨some 15,.mv (.t 3),none⟩,⟨some 16,.len false (.t 15),none⟩,⟨some 17,.mv (.c (.int .i64 0)),none⟩]) (.block 0 (.loop q7r))) (.seq (.reg [⟨some 2,.mv (.c (.int .i64 0)),none⟩]) .ret))))),[(.tmp 2)],1,[]⟩
theorem q8V:FnOk Tryz.prog 21 q6i:=⟨fun xs w=>by kernel_rfl,_,Tryz.func21,by kernel_rfl⟩
def q8T:C:=.seq (.seq (.reg [⟨some 14,.mv (.t 5),none⟩,⟨some 15,.mv (.t 3),none⟩,⟨some 16,.len false (.t 15),none⟩,⟨some 17,.bin .lss false (.t 14) (.t 16),none⟩]) (.cond (.t 17) .skip (.exit 0))) (.seq (.block 1 (.seq (.reg [⟨some 20,.mv (.t 3),none⟩,⟨some 21,.mv (.t 5),none⟩,⟨some 22,.iaddr 1 (.t 20) (.t 21),none⟩,⟨some 23,.load .any false 1 (.t 22),none⟩,⟨some 24,.un .not (.t 23),none⟩]) (.cond (.t 24) (.seq (.reg [⟨some 2,.mv (.c (.int .i64 10)),none⟩]) .ret) .skip))) (.reg [⟨some 18,.mv (.t 5),none⟩,⟨some 19,.bin .add false (.t 18) (.c (.int .i64 1)),none⟩,⟨some 5,.mv (.t 19),none⟩]))
def q7x:FnC:=⟨(.seq (.reg [⟨some 1,.box 1 (.t 0),none⟩,⟨some 2,.mv (.c (.int .i64 0)),none⟩]) (.seq (.reg [⟨some 7,.load .any true 1 (.t 1),none⟩,⟨some 8,.call .any 12 [(.t 7)],none⟩,⟨some 6,.mv (.t 8),none⟩,⟨some 9,.ext (.t 6) 0,none⟩,⟨some 10,.ext (.t 6) 1,none⟩,⟨some 3,.mv (.t 9),none⟩,⟨some 4,.mv (.t 10),none⟩]) (.seq (.seq (.reg [⟨some 11,.mv (.t 4),none⟩,⟨some 12,.bin .neq false (.t 11) (.c (.int .i64 0)),none⟩]) (.cond (.t 12) (.seq (.reg [⟨some 13,.mv (.t 4),none⟩,⟨some 2,.mv (.t 13),none⟩]) .ret) .skip)) (.seq (.seq (.reg [⟨some 5,.mv (.c (.int .i64 0)),none⟩]) (.block 0 (.loop q8T))) (.seq (.reg [⟨some 2,.mv (.c (.int .i64 0)),none⟩]) .ret))))),[(.tmp 2)],1,[]⟩
theorem ok_ref11_Sound:FnOk Tryz.prog 22 q7x:=⟨fun xs w=>by kernel_rfl,_,Tryz.func22,by kernel_rfl⟩
def q3E:C:=.seq (.seq (.reg [⟨some 24,.mv (.t 6),none⟩,⟨some 25,.faddr 1 (.t 1),none⟩,⟨some 26,.load .any false 1 (.t 25),none⟩,⟨some 27,.len false (.t 26),none⟩,⟨some 28,.bin .lss false (.t 24) (.t 27),none⟩]) (.cond (.t 28) .skip (.exit 0))) (.seq (.block 1 (.seq (.reg [⟨some 31,.faddr 0 (.t 4),none⟩,⟨some 32,.load (.root 4) false 1 (.t 31),none⟩,⟨some 33,.faddr 1 (.t 1),none⟩,⟨some 34,.load (.root 1) false 1 (.t 33),none⟩,⟨some 35,.mv (.t 6),none⟩,⟨some 36,.iaddr 3 (.t 34) (.t 35),none⟩,⟨some 37,.faddr 0 (.t 36),none⟩,⟨some 38,.load .any false 1 (.t 37),none⟩,⟨some 39,.conv (.some .i64) (.t 38),none⟩,⟨some 40,.faddr 0 (.t 4),none⟩,⟨some 41,.load (.root 4) false 1 (.t 40),none⟩,⟨some 42,.len false (.t 41),none⟩,⟨some 43,.bin .rem false (.t 39) (.t 42),none⟩,⟨some 44,.iaddr 10 (.t 32) (.t 43),none⟩,⟨some 45,.faddr 6 (.t 44),none⟩,⟨some 46,.load .any false 1 (.t 45),none⟩,⟨some 7,.mv (.t 46),none⟩]) (.seq (.seq (.reg [⟨some 47,.mv (.t 7),none⟩,⟨some 48,.len false (.t 47),none⟩,⟨some 49,.bin .eql false (.t 48) (.c (.int .i64 0)),none⟩]) (.cond (.t 49) (.exit 1) .skip)) (.seq (.reg [⟨some 50,.mv (.t 7),none⟩,⟨some 51,.faddr 1 (.t 1),none⟩,⟨some 52,.load .any false 1 (.t 51),none⟩,⟨some 53,.mv (.t 6),none⟩,⟨some 54,.iaddr 3 (.t 52) (.t 53),none⟩,⟨some 55,.faddr 1 (.t 54),none⟩,⟨some 56,.load .any false 1 (.t 55),none⟩,⟨some 57,.conv (.some .i64) (.t 56),none⟩,⟨some 58,.mv (.t 7),none⟩,⟨some 59,.len false (.t 58),none⟩,⟨some 60,.bin .rem false (.t 57) (.t 59),none⟩,⟨some 61,.iaddr 13 (.t 50) (.t 60),none⟩,⟨some 8,.mv (.t 61),none⟩]) (.seq (.reg [⟨some 62,.mv (.t 8),none⟩,⟨some 63,.faddr 1 (.t 1),none⟩,⟨some 64,.load (.root 1) false 1 (.t 63),none⟩,⟨some 65,.mv (.t 6),none⟩,⟨some 66,.iaddr 3 (.t 64) (.t 65),none⟩,⟨some 67,.faddr 2 (.t 66),none⟩,⟨some 68,.load .any false 1 (.t 67),none⟩,⟨some 69,.conv (.some .i64) (.t 68),none⟩,⟨some 70,.faddr 0 (.t 4),none⟩,⟨some 71,.load (.root 4) false 1 (.t 70),none⟩,⟨some 72,.len false (.t 71),none⟩,⟨some 73,.bin .rem false (.t 69) (.t 72),none⟩,⟨some 74,.nilchk (.t 62),none⟩,⟨some 75,.faddr 2 (.t 74),none⟩,⟨none,.store .any false 1 (.t 75) (.t 73),none⟩]) (.reg [⟨some 76,.mv (.t 8),none⟩,⟨some 77,.mv (.t 8),none⟩,⟨some 78,.build [(.int .i64 0),(.bool false),(.int .i64 0),(.str (ByteArray.mk #[])),(.int .i64 0),(.sl true []),(.sl true []),(.sl true [])] [],none⟩,⟨some 79,.nilchk (.t 76),none⟩,⟨some 80,.faddr 4 (.t 79),none⟩,⟨none,.store .any false 1 (.t 80) (.c (.bool false)),none⟩,⟨some 81,.nilchk (.t 77),none⟩,⟨some 82,.faddr 5 (.t 81),none⟩,⟨none,.store .any true 8 (.t 82) (.t 78),none⟩])))))) (.reg [⟨some 29,.mv (.t 6),none⟩,⟨some 30,.bin .add false (.t 29) (.c (.int .i64 1)),none⟩,⟨some 6,.mv (.t 30),none⟩]))
def q4H:FnC:=⟨(.seq (.reg [⟨some 1,.box 2 (.t 0),none⟩,⟨some 2,.alloc [(.sl true [])],none⟩,⟨some 3,.mv (.c (.bool false)),none⟩]) (.seq (.reg [⟨some 10,.faddr 0 (.t 1),none⟩,⟨some 11,.load .any true 1 (.t 10),none⟩,⟨some 12,.callh 84 (.c (.fn 39 [])) [(.t 11)],none⟩,⟨some 9,.mv (.t 12),none⟩,⟨some 13,.ext (.t 9) 0,none⟩,⟨some 14,.ext (.t 9) 1,none⟩,⟨some 4,.alloc [(.sl true [])],none⟩,⟨none,.store .any true 1 (.t 4) (.t 13),none⟩,⟨some 5,.mv (.t 14),none⟩]) (.seq (.seq (.reg [⟨some 15,.mv (.t 5),none⟩,⟨some 16,.un .not (.t 15),none⟩,⟨some 17,.mv (.t 16),none⟩,⟨some 18,.faddr 1 (.t 1),some (17,false)⟩,⟨some 19,.load .any false 1 (.t 18),some (17,false)⟩,⟨some 20,.len false (.t 19),some (17,false)⟩,⟨some 21,.bin .gtr false (.t 20) (.c (.int .i64 8)),some (17,false)⟩,⟨some 22,.pick (.t 17) (.c (.bool true)) (.t 21),none⟩]) (.cond (.t 22) (.seq (.reg [⟨some 23,.build [(.sl true [])] [],none⟩,⟨none,.store .any true 1 (.t 2) (.t 23),none⟩,⟨some 3,.mv (.c (.bool false)),none⟩]) .ret) .skip)) (.seq (.seq (.reg [⟨some 6,.mv (.c (.int .i64 0)),none⟩]) (.block 0 (.loop q3E))) (.seq (.reg [⟨some 83,.load .any true 1 (.t 4),none⟩,⟨none,.store .any true 1 (.t 2) (.t 83),none⟩,⟨some 3,.mv (.c (.bool true)),none⟩]) .ret))))),[(.cell 2 true 1),(.tmp 3)],1,[1000000 + 39]⟩
theorem ok_ref11_Of:FnOk Tryz.prog 23 q4H:=⟨fun xs w=>by kernel_rfl,_,Tryz.func23,by kernel_rfl⟩
def q24:C:=.seq (.seq (.reg [⟨some 38,.mv (.t 9),none⟩,⟨some 39,.mv (.t 5),none⟩,⟨some 40,.len false (.t 39),none⟩,⟨some 41,.bin .lss false (.t 38) (.t 40),none⟩]) (.cond (.t 41) .skip (.exit 4))) (.seq (.block 5 (.seq (.reg [⟨some 44,.mv (.t 5),none⟩,⟨some 45,.mv (.t 9),none⟩,⟨some 46,.iaddr 1 (.t 44) (.t 45),none⟩,⟨some 47,.load .any false 1 (.t 46),none⟩,⟨some 48,.bin .lss false (.t 47) (.c (.int .i64 0)),none⟩,⟨some 49,.mv (.t 48),none⟩,⟨some 50,.faddr 0 (.t 1),some (49,true)⟩,⟨some 51,.load .any false 1 (.t 50),some (49,true)⟩,⟨some 52,.mv (.t 9),some (49,true)⟩,⟨some 53,.iaddr 10 (.t 51) (.t 52),some (49,true)⟩,⟨some 54,.load .any true 10 (.t 53),some (49,true)⟩,⟨some 55,.mv (.t 5),some (49,true)⟩,⟨some 56,.call .any 40 [(.t 54),(.t 55)],some (49,true)⟩,⟨some 57,.mv (.t 7),some (49,true)⟩,⟨some 58,.bin .eql false (.t 56) (.t 57),some (49,true)⟩,⟨some 59,.pick (.t 49) (.t 58) (.c (.bool false)),none⟩]) (.cond (.t 59) (.reg [⟨some 60,.mv (.t 8),none⟩,⟨some 61,.mv (.t 9),none⟩,⟨some 62,.mv (.t 7),none⟩,⟨some 63,.iaddr 1 (.t 60) (.t 61),none⟩,⟨none,.store .any false 1 (.t 63) (.t 62),none⟩]) .skip))) (.reg [⟨some 42,.mv (.t 9),none⟩,⟨some 43,.bin .add false (.t 42) (.c (.int .i64 1)),none⟩,⟨some 9,.mv (.t 43),none⟩]))
def q3P:C:=.seq (.seq (.reg [⟨some 28,.mv (.t 7),none⟩,⟨some 29,.faddr 0 (.t 1),none⟩,⟨some 30,.load .any false 1 (.t 29),none⟩,⟨some 31,.len false (.t 30),none⟩,⟨some 32,.bin .leq false (.t 28) (.t 31),none⟩]) (.cond (.t 32) .skip (.exit 2))) (.seq (.block 3 (.seq (.reg [⟨some 35,.bsl [(.int .i64 0)] 0 [],none⟩,⟨some 36,.mv (.t 5),none⟩,⟨some 37,.appf .any 3 1 8 (.t 35) (.t 36),none⟩,⟨some 8,.mv (.t 37),none⟩]) (.seq (.seq (.reg [⟨some 9,.mv (.c (.int .i64 0)),none⟩]) (.block 4 (.loop q24))) (.reg [⟨some 64,.mv (.t 8),none⟩,⟨some 5,.mv (.t 64),none⟩])))) (.reg [⟨some 33,.mv (.t 7),none⟩,⟨some 34,.bin .add false (.t 33) (.c (.int .i64 1)),none⟩,⟨some 7,.mv (.t 34),none⟩]))
def q3L:C:=.seq (.seq (.reg [⟨some 19,.mv (.t 6),none⟩,⟨some 20,.mv (.t 5),none⟩,⟨some 21,.len false (.t 20),none⟩,⟨some 22,.bin .lss false (.t 19) (.t 21),none⟩]) (.cond (.t 22) .skip (.exit 0))) (.seq (.block 1 (.reg [⟨some 25,.mv (.t 5),none⟩,⟨some 26,.mv (.t 6),none⟩,⟨some 27,.iaddr 1 (.t 25) (.t 26),none⟩,⟨none,.store .any false 1 (.t 27) (.c (.int .i64 (-1))),none⟩])) (.reg [⟨some 23,.mv (.t 6),none⟩,⟨some 24,.bin .add false (.t 23) (.c (.int .i64 1)),none⟩,⟨some 6,.mv (.t 24),none⟩]))
def q2s:FnC:=⟨(.seq (.reg [⟨some 1,.box 1 (.t 0),none⟩,⟨some 2,.mv (.c (.sl true [])),none⟩,⟨some 3,.mv (.c (.int .i64 0)),none⟩]) (.seq (.seq (.reg [⟨some 10,.load .any true 1 (.t 1),none⟩,⟨some 11,.call .any 29 [(.t 10)],none⟩,⟨some 4,.mv (.t 11),none⟩]) (.seq (.reg [⟨some 12,.mv (.t 4),none⟩,⟨some 13,.bin .neq false (.t 12) (.c (.int .i64 0)),none⟩]) (.cond (.t 13) (.seq (.reg [⟨some 14,.mv (.t 4),none⟩,⟨some 2,.mv (.c (.sl true [])),none⟩,⟨some 3,.mv (.t 14),none⟩]) .ret) .skip))) (.seq (.reg [⟨some 15,.faddr 0 (.t 1),none⟩,⟨some 16,.load .any false 1 (.t 15),none⟩,⟨some 17,.len false (.t 16),none⟩,⟨some 18,.mks 1 8 [(.int .i64 0)] (.t 17) (.t 17),none⟩,⟨some 5,.mv (.t 18),none⟩]) (.seq (.seq (.reg [⟨some 6,.mv (.c (.int .i64 0)),none⟩]) (.block 0 (.loop q3L))) (.seq (.seq (.reg [⟨some 7,.mv (.c (.int .i64 0)),none⟩]) (.block 2 (.loop q3P))) (.seq (.reg [⟨some 65,.mv (.t 5),none⟩,⟨some 2,.mv (.t 65),none⟩,⟨some 3,.mv (.c (.int .i64 0)),none⟩]) .ret)))))),[(.tmp 2),(.tmp 3)],1,[74]⟩
theorem ok_ref11_Rounds:FnOk Tryz.prog 24 q2s:=⟨fun xs w=>by kernel_rfl,_,Tryz.func24,by kernel_rfl⟩
def q4R:C:=.seq (.seq (.reg [⟨some 11,.mv (.t 5),none⟩,⟨some 12,.mv (.t 0),none⟩,⟨some 13,.len false (.t 12),none⟩,⟨some 14,.bin .lss false (.t 11) (.t 13),none⟩]) (.cond (.t 14) .skip (.exit 0))) (.seq (.block 1 (.seq (.reg [⟨some 17,.mv (.t 0),none⟩,⟨some 18,.mv (.t 5),none⟩,⟨some 19,.iaddr 1 (.t 17) (.t 18),none⟩,⟨some 20,.load .any false 1 (.t 19),none⟩,⟨some 21,.mv (.t 1),none⟩,⟨some 22,.mv (.t 5),none⟩,⟨some 23,.iaddr 1 (.t 21) (.t 22),none⟩,⟨some 24,.load .any false 1 (.t 23),none⟩,⟨some 25,.bin .neq false (.t 20) (.t 24),none⟩]) (.cond (.t 25) (.seq (.reg [⟨some 4,.mv (.c (.bool false)),none⟩]) .ret) .skip))) (.reg [⟨some 15,.mv (.t 5),none⟩,⟨some 16,.bin .add false (.t 15) (.c (.int .i64 1)),none⟩,⟨some 5,.mv (.t 16),none⟩]))
def q5e:FnC:=⟨(.seq (.reg [⟨some 4,.mv (.c (.bool false)),none⟩]) (.seq (.seq (.reg [⟨some 6,.mv (.t 0),none⟩,⟨some 7,.len false (.t 6),none⟩,⟨some 8,.mv (.t 1),none⟩,⟨some 9,.len false (.t 8),none⟩,⟨some 10,.bin .neq false (.t 7) (.t 9),none⟩]) (.cond (.t 10) (.seq (.reg [⟨some 4,.mv (.c (.bool false)),none⟩]) .ret) .skip)) (.seq (.seq (.reg [⟨some 5,.mv (.c (.int .i64 0)),none⟩]) (.block 0 (.loop q4R))) (.seq (.reg [⟨some 4,.mv (.c (.bool true)),none⟩]) .ret)))),[(.tmp 4)],2,[]⟩
theorem ok_ref07_Ints:FnOk Tryz.prog 25 q5e:=⟨fun xs w=>by kernel_rfl,_,Tryz.func25,by kernel_rfl⟩
noncomputable def q7p:FnC:=(q25 Go.Proofs.Tryz.prog [] Go.Proofs.Tryz.f26).getD ⟨.skip,[],0,[]⟩
theorem ok_ref08_Equal:FnOk Tryz.prog 26 q7p:=⟨fun xs w=>by kernel_rfl,_,Tryz.func26,by kernel_rfl⟩
noncomputable def q6s:FnC:=(q25 Go.Proofs.Tryz.prog [] Go.Proofs.Tryz.f27).getD ⟨.skip,[],0,[]⟩
theorem q8P:FnOk Tryz.prog 27 q6s:=⟨fun xs w=>by kernel_rfl,_,Tryz.func27,by kernel_rfl⟩
def q3u:FnC:=⟨(.seq (.reg [⟨some 1,.box 1 (.t 0),none⟩,⟨some 2,.mv (.c (.int .i64 0)),none⟩]) (.seq (.seq (.reg [⟨some 7,.load .any true 1 (.t 1),none⟩,⟨some 8,.call .any 42 [(.t 7)],none⟩,⟨some 3,.mv (.t 8),none⟩]) (.seq (.reg [⟨some 9,.mv (.t 3),none⟩,⟨some 10,.bin .neq false (.t 9) (.c (.int .i64 0)),none⟩]) (.cond (.t 10) (.seq (.reg [⟨some 11,.mv (.t 3),none⟩,⟨some 2,.mv (.t 11),none⟩]) .ret) .skip))) (.seq (.reg [⟨some 13,.load .any true 1 (.t 1),none⟩,⟨some 14,.call .any 43 [(.t 13)],none⟩,⟨some 12,.mv (.t 14),none⟩,⟨some 15,.ext (.t 12) 0,none⟩,⟨some 16,.ext (.t 12) 1,none⟩,⟨some 17,.ext (.t 12) 2,none⟩,⟨some 4,.mv (.t 15),none⟩,⟨some 5,.mv (.t 16),none⟩,⟨some 6,.mv (.t 17),none⟩]) (.seq (.reg [⟨some 18,.mv (.t 6),none⟩,⟨some 2,.mv (.t 18),none⟩]) .ret)))),[(.tmp 2)],1,[]⟩
theorem ok_ref11_Error:FnOk Tryz.prog 29 q3u:=⟨fun xs w=>by kernel_rfl,_,Tryz.func29,by kernel_rfl⟩
def q2D:FnC:=⟨(.seq (.reg [⟨some 1,.box 1 (.t 0),none⟩,⟨some 2,.mv (.c (.int .i64 0)),none⟩]) (.seq (.seq (.reg [⟨some 7,.load .any true 1 (.t 1),none⟩,⟨some 8,.call .any 44 [(.t 7)],none⟩,⟨some 3,.mv (.t 8),none⟩]) (.seq (.reg [⟨some 9,.mv (.t 3),none⟩,⟨some 10,.bin .neq false (.t 9) (.c (.int .i64 0)),none⟩]) (.cond (.t 10) (.seq (.reg [⟨some 11,.mv (.t 3),none⟩,⟨some 2,.mv (.t 11),none⟩]) .ret) .skip))) (.seq (.reg [⟨some 13,.load .any true 1 (.t 1),none⟩,⟨some 14,.call .any 45 [(.t 13)],none⟩,⟨some 12,.mv (.t 14),none⟩,⟨some 15,.ext (.t 12) 0,none⟩,⟨some 16,.ext (.t 12) 1,none⟩,⟨some 17,.ext (.t 12) 2,none⟩,⟨some 4,.mv (.t 15),none⟩,⟨some 5,.mv (.t 16),none⟩,⟨some 6,.mv (.t 17),none⟩]) (.seq (.reg [⟨some 18,.mv (.t 6),none⟩,⟨some 2,.mv (.t 18),none⟩]) .ret)))),[(.tmp 2)],1,[]⟩
theorem q8X:FnOk Tryz.prog 30 q2D:=⟨fun xs w=>by kernel_rfl,_,Tryz.func30,by kernel_rfl⟩
def q1N:C:=.seq (.reg [⟨some 17,.bin .lss false (.t 16) (.t 15),none⟩]) (.seq (.cond (.t 17) .skip (.exit 2)) (.seq (.block 3 (.seq (.reg [⟨some 18,.mv (.t 16),none⟩,⟨some 19,.iaddr 10 (.t 14) (.t 16),none⟩,⟨some 20,.load .any true 10 (.t 19),none⟩,⟨some 6,.alloc [(.int .i64 0),(.str (ByteArray.mk #[])),(.int .i64 0),(.int .i64 0),(.int .i64 0),(.sl true []),(.sl true []),(.int .i64 0),(.int .i64 0),(.bool false)],none⟩,⟨some 5,.mv (.t 18),none⟩,⟨none,.store .any true 10 (.t 6) (.t 20),none⟩]) (.seq (.reg [⟨some 21,.load .any true 10 (.t 6),none⟩,⟨some 22,.mv (.t 3),none⟩,⟨some 23,.call .any 46 [(.t 21),(.t 22)],none⟩,⟨some 24,.mm false (.c (.int .i64 2)) (.t 23),none⟩,⟨some 7,.mv (.t 24),none⟩]) (.seq (.reg [⟨some 25,.mv (.t 7),none⟩,⟨some 26,.mv (.t 3),none⟩,⟨some 27,.mv (.t 5),none⟩,⟨some 28,.iaddr 1 (.t 26) (.t 27),none⟩,⟨some 29,.load .any false 1 (.t 28),none⟩,⟨some 30,.bin .neq false (.t 25) (.t 29),none⟩]) (.cond (.t 30) (.reg [⟨some 31,.mv (.t 3),none⟩,⟨some 32,.mv (.t 5),none⟩,⟨some 33,.mv (.t 7),none⟩,⟨some 34,.iaddr 1 (.t 31) (.t 32),none⟩,⟨none,.store .any false 1 (.t 34) (.t 33),none⟩,⟨some 4,.mv (.c (.bool true)),none⟩]) .skip))))) (.reg [⟨some 35,.bin .add false (.t 16) (.c (.int .i64 1)),none⟩,⟨some 16,.mv (.t 35),none⟩])))
def q3f:C:=.seq (.seq (.reg [⟨some 12,.mv (.t 4),none⟩]) (.cond (.t 12) .skip (.exit 0))) (.block 1 (.seq (.reg [⟨some 4,.mv (.c (.bool false)),none⟩]) (.seq (.reg [⟨some 13,.faddr 0 (.t 1),none⟩,⟨some 14,.load .any false 1 (.t 13),none⟩,⟨some 15,.len false (.t 14),none⟩,⟨some 16,.mv (.c (.int .i64 0)),none⟩]) (.block 2 (.loop q1N)))))
def q33:FnC:=⟨(.seq (.reg [⟨some 1,.box 1 (.t 0),none⟩,⟨some 2,.mv (.c (.sl true [])),none⟩]) (.seq (.reg [⟨some 8,.faddr 0 (.t 1),none⟩,⟨some 9,.load .any false 1 (.t 8),none⟩,⟨some 10,.len false (.t 9),none⟩,⟨some 11,.mks 1 8 [(.int .i64 0)] (.t 10) (.t 10),none⟩,⟨some 3,.mv (.t 11),none⟩]) (.seq (.seq (.reg [⟨some 4,.mv (.c (.bool true)),none⟩]) (.block 0 (.loop q3f))) (.seq (.reg [⟨some 36,.mv (.t 3),none⟩,⟨some 2,.mv (.t 36),none⟩]) .ret)))),[(.tmp 2)],1,[]⟩
theorem q86:FnOk Tryz.prog 31 q33:=⟨fun xs w=>by kernel_rfl,_,Tryz.func31,by kernel_rfl⟩
def q3R:C:=.seq (.seq (.reg [⟨some 18,.mv (.t 5),none⟩,⟨some 19,.faddr 0 (.t 1),none⟩,⟨some 20,.load .any false 1 (.t 19),none⟩,⟨some 21,.len false (.t 20),none⟩,⟨some 22,.bin .lss false (.t 18) (.t 21),none⟩]) (.cond (.t 22) .skip (.exit 2))) (.seq (.block 3 (.reg [⟨some 25,.mv (.t 3),none⟩,⟨some 26,.mv (.t 5),none⟩,⟨some 27,.faddr 0 (.t 1),none⟩,⟨some 28,.load .any false 1 (.t 27),none⟩,⟨some 29,.mv (.t 5),none⟩,⟨some 30,.iaddr 10 (.t 28) (.t 29),none⟩,⟨some 31,.load .any true 10 (.t 30),none⟩,⟨some 32,.mv (.t 3),none⟩,⟨some 33,.call .any 47 [(.t 31),(.t 32)],none⟩,⟨some 34,.iaddr 1 (.t 25) (.t 26),none⟩,⟨none,.store .any false 1 (.t 34) (.t 33),none⟩])) (.reg [⟨some 23,.mv (.t 5),none⟩,⟨some 24,.bin .add false (.t 23) (.c (.int .i64 1)),none⟩,⟨some 5,.mv (.t 24),none⟩]))
def q3Q:C:=.seq (.seq (.reg [⟨some 10,.mv (.t 4),none⟩,⟨some 11,.faddr 0 (.t 1),none⟩,⟨some 12,.load .any false 1 (.t 11),none⟩,⟨some 13,.len false (.t 12),none⟩,⟨some 14,.bin .mul false (.c (.int .i64 2)) (.t 13),none⟩,⟨some 15,.bin .leq false (.t 10) (.t 14),none⟩]) (.cond (.t 15) .skip (.exit 0))) (.seq (.block 1 (.seq (.reg [⟨some 5,.mv (.c (.int .i64 0)),none⟩]) (.block 2 (.loop q3R)))) (.reg [⟨some 16,.mv (.t 4),none⟩,⟨some 17,.bin .add false (.t 16) (.c (.int .i64 1)),none⟩,⟨some 4,.mv (.t 17),none⟩]))
def q3Z:FnC:=⟨(.seq (.reg [⟨some 1,.box 1 (.t 0),none⟩,⟨some 2,.mv (.c (.sl true [])),none⟩]) (.seq (.reg [⟨some 6,.faddr 0 (.t 1),none⟩,⟨some 7,.load .any false 1 (.t 6),none⟩,⟨some 8,.len false (.t 7),none⟩,⟨some 9,.mks 1 8 [(.int .i64 0)] (.t 8) (.t 8),none⟩,⟨some 3,.mv (.t 9),none⟩]) (.seq (.seq (.reg [⟨some 4,.mv (.c (.int .i64 0)),none⟩]) (.block 0 (.loop q3Q))) (.seq (.reg [⟨some 35,.mv (.t 3),none⟩,⟨some 2,.mv (.t 35),none⟩]) .ret)))),[(.tmp 2)],1,[]⟩
theorem ok_ref11_Counts:FnOk Tryz.prog 32 q3Z:=⟨fun xs w=>by kernel_rfl,_,Tryz.func32,by kernel_rfl⟩
def q3p:FnC:=⟨(.seq (.reg [⟨some 2,.box 1 (.t 0),none⟩,⟨some 4,.mv (.c (.int .i64 0)),none⟩]) (.seq (.seq (.reg [⟨some 6,.load .any true 1 (.t 2),none⟩,⟨some 7,.call .any 30 [(.t 6)],none⟩,⟨some 5,.mv (.t 7),none⟩]) (.seq (.reg [⟨some 8,.mv (.t 5),none⟩,⟨some 9,.bin .neq false (.t 8) (.c (.int .i64 0)),none⟩]) (.cond (.t 9) (.seq (.reg [⟨some 10,.mv (.t 5),none⟩,⟨some 4,.mv (.t 10),none⟩]) .ret) .skip))) (.seq (.seq (.reg [⟨some 11,.mv (.t 1),none⟩,⟨some 12,.bin .lss false (.t 11) (.c (.int .i64 0)),none⟩,⟨some 13,.mv (.t 12),none⟩,⟨some 14,.mv (.t 1),some (13,false)⟩,⟨some 15,.faddr 0 (.t 2),some (13,false)⟩,⟨some 16,.load .any false 1 (.t 15),some (13,false)⟩,⟨some 17,.len false (.t 16),some (13,false)⟩,⟨some 18,.bin .geq false (.t 14) (.t 17),some (13,false)⟩,⟨some 19,.pick (.t 13) (.c (.bool true)) (.t 18),none⟩]) (.cond (.t 19) (.seq (.reg [⟨some 4,.mv (.c (.int .i64 4)),none⟩]) .ret) .skip)) (.seq (.reg [⟨some 4,.mv (.c (.int .i64 0)),none⟩]) .ret)))),[(.tmp 4)],2,[]⟩
theorem q8R:FnOk Tryz.prog 33 q3p:=⟨fun xs w=>by kernel_rfl,_,Tryz.func33,by kernel_rfl⟩
noncomputable def q6l:FnC:=(q25 Go.Proofs.Tryz.prog [] Go.Proofs.Tryz.f34).getD ⟨.skip,[],0,[]⟩
theorem q97:FnOk Tryz.prog 34 q6l:=⟨fun xs w=>by kernel_rfl,_,Tryz.func34,by kernel_rfl⟩
def q6I:FnC:=⟨(.seq (.reg [⟨some 2,.box 1 (.t 0),none⟩,⟨some 4,.mv (.c (.int .i64 0)),none⟩]) (.seq (.seq (.reg [⟨some 6,.load .any true 1 (.t 2),none⟩,⟨some 7,.call .any 29 [(.t 6)],none⟩,⟨some 5,.mv (.t 7),none⟩]) (.seq (.reg [⟨some 8,.mv (.t 5),none⟩,⟨some 9,.bin .neq false (.t 8) (.c (.int .i64 0)),none⟩]) (.cond (.t 9) (.seq (.reg [⟨some 10,.mv (.t 5),none⟩,⟨some 4,.mv (.t 10),none⟩]) .ret) .skip))) (.seq (.seq (.reg [⟨some 11,.mv (.t 1),none⟩,⟨some 12,.bin .lss false (.t 11) (.c (.int .i64 0)),none⟩,⟨some 13,.mv (.t 12),none⟩,⟨some 14,.mv (.t 1),some (13,false)⟩,⟨some 15,.faddr 0 (.t 2),some (13,false)⟩,⟨some 16,.load .any false 1 (.t 15),some (13,false)⟩,⟨some 17,.len false (.t 16),some (13,false)⟩,⟨some 18,.bin .geq false (.t 14) (.t 17),some (13,false)⟩,⟨some 19,.pick (.t 13) (.c (.bool true)) (.t 18),none⟩]) (.cond (.t 19) (.seq (.reg [⟨some 4,.mv (.c (.int .i64 4)),none⟩]) .ret) .skip)) (.seq (.reg [⟨some 4,.mv (.c (.int .i64 0)),none⟩]) .ret)))),[(.tmp 4)],2,[]⟩
theorem ok_ref11_at:FnOk Tryz.prog 36 q6I:=⟨fun xs w=>by kernel_rfl,_,Tryz.func36,by kernel_rfl⟩
def q3F:C:=.seq (.reg [⟨some 39,.bin .lss false (.t 38) (.t 37),none⟩]) (.seq (.cond (.t 39) .skip (.exit 3)) (.seq (.block 4 (.seq (.reg [⟨some 40,.iaddr 13 (.t 36) (.t 38),none⟩,⟨some 41,.load .any true 13 (.t 40),none⟩,⟨some 9,.alloc [(.int .i64 0),(.str (ByteArray.mk #[])),(.int .i64 0),(.bool false),(.bool false),(.int .i64 0),(.bool false),(.int .i64 0),(.str (ByteArray.mk #[])),(.int .i64 0),(.sl true []),(.sl true []),(.sl true [])],none⟩,⟨none,.store .any true 13 (.t 9) (.t 41),none⟩]) (.reg [⟨some 42,.mv (.t 5),none⟩,⟨some 43,.mv (.t 1),none⟩,⟨some 44,.faddr 2 (.t 9),none⟩,⟨some 45,.load .any false 1 (.t 44),none⟩,⟨some 46,.iaddr 1 (.t 43) (.t 45),none⟩,⟨some 47,.load .any false 1 (.t 46),none⟩,⟨some 48,.bin .add false (.t 47) (.c (.int .i64 1)),none⟩,⟨some 49,.mm false (.t 42) (.t 48),none⟩,⟨some 5,.mv (.t 49),none⟩]))) (.reg [⟨some 50,.bin .add false (.t 38) (.c (.int .i64 1)),none⟩,⟨some 38,.mv (.t 50),none⟩])))
def q2w:C:=.seq (.reg [⟨some 18,.bin .lss false (.t 17) (.t 16),none⟩]) (.seq (.cond (.t 18) .skip (.exit 1)) (.seq (.block 2 (.seq (.reg [⟨some 19,.iaddr 13 (.t 15) (.t 17),none⟩,⟨some 20,.load .any true 13 (.t 19),none⟩,⟨some 7,.alloc [(.int .i64 0),(.str (ByteArray.mk #[])),(.int .i64 0),(.bool false),(.bool false),(.int .i64 0),(.bool false),(.int .i64 0),(.str (ByteArray.mk #[])),(.int .i64 0),(.sl true []),(.sl true []),(.sl true [])],none⟩,⟨none,.store .any true 13 (.t 7) (.t 20),none⟩]) (.seq (.reg [⟨some 21,.faddr 4 (.t 7),none⟩,⟨some 22,.load .any false 1 (.t 21),none⟩,⟨some 23,.un .not (.t 22),none⟩]) (.cond (.t 23) (.reg [⟨some 24,.mv (.t 5),none⟩,⟨some 25,.mv (.t 1),none⟩,⟨some 26,.faddr 2 (.t 7),none⟩,⟨some 27,.load .any false 1 (.t 26),none⟩,⟨some 28,.iaddr 1 (.t 25) (.t 27),none⟩,⟨some 29,.load .any false 1 (.t 28),none⟩,⟨some 30,.bin .add false (.t 29) (.c (.int .i64 1)),none⟩,⟨some 31,.mm true (.t 24) (.t 30),none⟩,⟨some 5,.mv (.t 31),none⟩]) .skip)))) (.reg [⟨some 32,.bin .add false (.t 17) (.c (.int .i64 1)),none⟩,⟨some 17,.mv (.t 32),none⟩])))
def q23:FnC:=⟨(.seq (.reg [⟨some 2,.box 10 (.t 0),none⟩,⟨some 4,.mv (.c (.int .i64 0)),none⟩]) (.seq (.reg [⟨some 5,.mv (.c (.int .i64 0)),none⟩]) (.seq (.seq (.reg [⟨some 10,.faddr 0 (.t 2),none⟩,⟨some 11,.load .any false 1 (.t 10),none⟩]) (.block 0 (.seq (.reg [⟨some 13,.bin .eql false (.t 11) (.c (.int .i64 5)),none⟩,⟨some 12,.mv (.t 13),none⟩]) (.cond (.t 12) (.seq (.reg [⟨some 14,.faddr 6 (.t 2),none⟩,⟨some 15,.load .any false 1 (.t 14),none⟩,⟨some 16,.len false (.t 15),none⟩,⟨some 17,.mv (.c (.int .i64 0)),none⟩]) (.block 1 (.loop q2w))) (.seq (.reg [⟨some 34,.bin .eql false (.t 11) (.c (.int .i64 6)),none⟩,⟨some 33,.mv (.t 34),none⟩]) (.cond (.t 33) (.seq (.reg [⟨some 5,.mv (.c (.int .i64 1073741824)),none⟩]) (.seq (.reg [⟨some 35,.faddr 6 (.t 2),none⟩,⟨some 36,.load .any false 1 (.t 35),none⟩,⟨some 37,.len false (.t 36),none⟩,⟨some 38,.mv (.c (.int .i64 0)),none⟩]) (.block 3 (.loop q3F)))) .skip)))))) (.seq (.reg [⟨some 51,.mv (.t 5),none⟩,⟨some 52,.mm false (.t 51) (.c (.int .i64 1073741824)),none⟩,⟨some 4,.mv (.t 52),none⟩]) .ret)))),[(.tmp 4)],2,[]⟩
theorem q98:FnOk Tryz.prog 37 q23:=⟨fun xs w=>by kernel_rfl,_,Tryz.func37,by kernel_rfl⟩
noncomputable def q6o:FnC:=(q25 Go.Proofs.Tryz.prog [14,20] Go.Proofs.Tryz.f38).getD ⟨.skip,[],0,[]⟩
theorem q94:FnOk Tryz.prog 38 q6o:=⟨fun xs w=>by kernel_rfl,_,Tryz.func38,by kernel_rfl⟩
def q2P:C:=.seq (.seq (.reg [⟨some 69,.mv (.t 10),none⟩,⟨some 70,.mv (.t 9),none⟩,⟨some 71,.len false (.t 70),none⟩,⟨some 72,.bin .lss false (.t 69) (.t 71),none⟩]) (.cond (.t 72) .skip (.exit 3))) (.seq (.block 4 (.reg [⟨some 75,.faddr 5 (.t 8),none⟩,⟨some 76,.load (.root 8) false 1 (.t 75),none⟩,⟨some 77,.mv (.t 9),none⟩,⟨some 78,.mv (.t 10),none⟩,⟨some 79,.iaddr 1 (.t 77) (.t 78),none⟩,⟨some 80,.load .any false 1 (.t 79),none⟩,⟨some 81,.mv (.t 9),none⟩,⟨some 82,.mv (.t 10),none⟩,⟨some 83,.iaddr 1 (.t 81) (.t 82),none⟩,⟨some 84,.load .any false 1 (.t 83),none⟩,⟨some 85,.bin .add false (.c (.int .i64 97)) (.t 84),none⟩,⟨some 86,.conv (.some .i32) (.t 85),none⟩,⟨some 87,.rstr (.t 86),none⟩,⟨some 88,.bin .add false (.c (.str (ByteArray.mk #[115]))) (.t 87),none⟩,⟨some 89,.build [(.int .i64 0),(.str (ByteArray.mk #[]))] [(0,(1,(.t 80))),(1,(1,(.t 88)))],none⟩,⟨some 90,.bsl [(.int .i64 0),(.str (ByteArray.mk #[]))] 1 [(0,(.t 89))],none⟩,⟨some 91,.app .any 99 2 24 (.t 76) (.t 90),none⟩,⟨some 92,.faddr 5 (.t 8),none⟩,⟨none,.store (.root 8) false 1 (.t 92) (.t 91),none⟩])) (.reg [⟨some 73,.mv (.t 10),none⟩,⟨some 74,.bin .add false (.t 73) (.c (.int .i64 1)),none⟩,⟨some 10,.mv (.t 74),none⟩]))
def q7H:C:=.seq (.seq (.reg [⟨some 21,.mv (.t 6),none⟩,⟨some 22,.mv (.t 4),none⟩,⟨some 23,.bin .lss false (.t 21) (.t 22),none⟩]) (.cond (.t 23) .skip (.exit 0))) (.seq (.block 1 (.seq (.reg [⟨some 26,.faddr 0 (.t 1),none⟩,⟨some 27,.load .any false 1 (.t 26),none⟩,⟨some 28,.mv (.t 6),none⟩,⟨some 29,.iaddr 5 (.t 27) (.t 28),none⟩,⟨some 30,.load .any true 5 (.t 29),none⟩,⟨some 7,.alloc [(.int .u8 0),(.int .u8 0),(.int .u8 0),(.int .u8 0),(.sl true [])],none⟩,⟨none,.store .any true 5 (.t 7) (.t 30),none⟩]) (.seq (.reg [⟨some 31,.load .any true 1 (.t 1),none⟩,⟨some 32,.mv (.t 6),none⟩,⟨some 33,.call .any 51 [(.t 31),(.t 32)],none⟩,⟨some 34,.build [(.int .i64 0),(.str (ByteArray.mk #[])),(.int .i64 0),(.int .i64 0),(.int .i64 0),(.sl true []),(.sl true []),(.int .i64 0),(.int .i64 0),(.bool false)] [(0,(1,(.t 33)))],none⟩,⟨some 8,.alloc [(.int .i64 0),(.str (ByteArray.mk #[])),(.int .i64 0),(.int .i64 0),(.int .i64 0),(.sl true []),(.sl true []),(.int .i64 0),(.int .i64 0),(.bool false)],none⟩,⟨none,.store .any true 10 (.t 8) (.t 34),none⟩]) (.seq (.seq (.reg [⟨some 35,.faddr 0 (.t 8),none⟩,⟨some 36,.load .any false 1 (.t 35),none⟩,⟨some 37,.call .any 52 [(.t 36)],none⟩]) (.cond (.t 37) (.reg [⟨some 38,.mv (.t 6),none⟩,⟨some 39,.bin .add false (.c (.int .i64 65)) (.t 38),none⟩,⟨some 40,.conv (.some .i32) (.t 39),none⟩,⟨some 41,.rstr (.t 40),none⟩,⟨some 42,.faddr 1 (.t 8),none⟩,⟨none,.store .any false 1 (.t 42) (.t 41),none⟩]) .skip)) (.seq (.seq (.reg [⟨some 43,.faddr 0 (.t 8),none⟩,⟨some 44,.load .any false 1 (.t 43),none⟩]) (.block 2 (.seq (.reg [⟨some 46,.bin .eql false (.t 44) (.c (.int .i64 2)),none⟩,⟨some 45,.mv (.t 46),none⟩]) (.cond (.t 45) (.reg [⟨some 47,.load (.root 7) true 5 (.t 7),none⟩,⟨some 48,.call .any 53 [(.t 47)],none⟩,⟨some 49,.load (.root 7) true 5 (.t 7),none⟩,⟨some 50,.call .any 54 [(.t 49)],none⟩,⟨some 51,.faddr 2 (.t 8),none⟩,⟨none,.store (.root 8) false 1 (.t 51) (.t 48),none⟩,⟨some 52,.faddr 3 (.t 8),none⟩,⟨none,.store (.root 8) false 1 (.t 52) (.t 50),none⟩]) (.seq (.reg [⟨some 54,.bin .eql false (.t 44) (.c (.int .i64 3)),none⟩,⟨some 53,.mv (.t 54),none⟩]) (.cond (.t 53) (.reg [⟨some 55,.faddr 1 (.t 7),none⟩,⟨some 56,.load .any false 1 (.t 55),none⟩,⟨some 57,.bin .rem false (.t 56) (.c (.int .u8 4)),none⟩,⟨some 58,.conv (.some .i64) (.t 57),none⟩,⟨some 59,.faddr 4 (.t 8),none⟩,⟨none,.store .any false 1 (.t 59) (.t 58),none⟩]) (.seq (.reg [⟨some 61,.bin .eql false (.t 44) (.c (.int .i64 4)),none⟩,⟨some 60,.mv (.t 61),none⟩]) (.cond (.t 60) (.seq (.reg [⟨some 62,.faddr 2 (.t 7),none⟩,⟨some 63,.load .any false 1 (.t 62),none⟩,⟨some 64,.bin .rem false (.t 63) (.c (.int .u8 2)),none⟩,⟨some 65,.bin .eql false (.t 64) (.c (.int .u8 1)),none⟩,⟨some 66,.faddr 9 (.t 8),none⟩,⟨none,.store .any false 1 (.t 66) (.t 65),none⟩]) (.seq (.reg [⟨some 67,.load .any true 5 (.t 7),none⟩,⟨some 68,.call .any 55 [(.t 67)],none⟩,⟨some 9,.mv (.t 68),none⟩]) (.seq (.reg [⟨some 10,.mv (.c (.int .i64 0)),none⟩]) (.block 3 (.loop q2P))))) (.seq (.reg [⟨some 94,.bin .eql false (.t 44) (.c (.int .i64 5)),none⟩,⟨some 93,.mv (.t 94),none⟩]) (.cond (.t 93) (.reg [⟨some 95,.load .any true 1 (.t 1),none⟩,⟨some 96,.mv (.t 6),none⟩,⟨some 97,.callh 171 (.c (.fn 56 [])) [(.t 95),(.t 96),(.c (.bool true))],none⟩,⟨some 98,.faddr 6 (.t 8),none⟩,⟨none,.store .any false 1 (.t 98) (.t 97),none⟩]) (.seq (.reg [⟨some 100,.bin .eql false (.t 44) (.c (.int .i64 6)),none⟩,⟨some 99,.mv (.t 100),none⟩]) (.cond (.t 99) (.seq (.reg [⟨some 101,.faddr 2 (.t 7),none⟩,⟨some 102,.load .any false 1 (.t 101),none⟩,⟨some 103,.bin .rem false (.t 102) (.c (.int .u8 2)),none⟩,⟨some 104,.bin .eql false (.t 103) (.c (.int .u8 1)),none⟩,⟨some 105,.faddr 9 (.t 8),none⟩,⟨none,.store .any false 1 (.t 105) (.t 104),none⟩]) (.seq (.reg [⟨some 106,.load .any true 1 (.t 1),none⟩,⟨some 107,.mv (.t 6),none⟩,⟨some 108,.callh 171 (.c (.fn 56 [])) [(.t 106),(.t 107),(.c (.bool false))],none⟩,⟨some 109,.faddr 6 (.t 8),none⟩,⟨none,.store .any false 1 (.t 109) (.t 108),none⟩]) (.seq (.reg [⟨some 110,.faddr 6 (.t 8),none⟩,⟨some 111,.load .any false 1 (.t 110),none⟩,⟨some 112,.len false (.t 111),none⟩,⟨some 113,.bin .eql false (.t 112) (.c (.int .i64 0)),none⟩]) (.cond (.t 113) (.reg [⟨some 114,.faddr 1 (.t 8),none⟩,⟨some 115,.load .any false 1 (.t 114),none⟩,⟨some 116,.build [(.int .i64 0),(.str (ByteArray.mk #[])),(.int .i64 0),(.int .i64 0),(.int .i64 0),(.sl true []),(.sl true []),(.int .i64 0),(.int .i64 0),(.bool false)] [(0,(1,(.c (.int .i64 5)))),(1,(1,(.t 115)))],none⟩,⟨none,.store .any true 10 (.t 8) (.t 116),none⟩]) .skip)))) (.seq (.reg [⟨some 118,.bin .eql false (.t 44) (.c (.int .i64 7)),none⟩,⟨some 117,.mv (.t 118),none⟩]) (.cond (.t 117) (.reg [⟨some 119,.faddr 1 (.t 7),none⟩,⟨some 120,.load (.root 7) false 1 (.t 119),none⟩,⟨some 121,.bin .rem false (.t 120) (.c (.int .u8 4)),none⟩,⟨some 122,.conv (.some .i64) (.t 121),none⟩,⟨some 123,.faddr 3 (.t 7),none⟩,⟨some 124,.load (.root 7) false 1 (.t 123),none⟩,⟨some 125,.conv (.some .i64) (.t 124),none⟩,⟨some 126,.mv (.t 4),none⟩,⟨some 127,.bin .rem false (.t 125) (.t 126),none⟩,⟨some 128,.faddr 4 (.t 8),none⟩,⟨none,.store (.root 8) false 1 (.t 128) (.t 122),none⟩,⟨some 129,.faddr 8 (.t 8),none⟩,⟨none,.store (.root 8) false 1 (.t 129) (.t 127),none⟩]) (.seq (.reg [⟨some 131,.bin .eql false (.t 44) (.c (.int .i64 8)),none⟩,⟨some 130,.mv (.t 131),none⟩]) (.cond (.t 130) (.seq (.reg [⟨some 132,.faddr 1 (.t 7),none⟩,⟨some 133,.load (.root 7) false 1 (.t 132),none⟩,⟨some 134,.bin .rem false (.t 133) (.c (.int .u8 4)),none⟩,⟨some 135,.conv (.some .i64) (.t 134),none⟩,⟨some 136,.load (.root 1) true 1 (.t 1),none⟩,⟨some 137,.faddr 2 (.t 7),none⟩,⟨some 138,.load (.root 7) false 1 (.t 137),none⟩,⟨some 139,.call .any 57 [(.t 136),(.t 138)],none⟩,⟨some 140,.faddr 3 (.t 7),none⟩,⟨some 141,.load (.root 7) false 1 (.t 140),none⟩,⟨some 142,.conv (.some .i64) (.t 141),none⟩,⟨some 143,.mv (.t 4),none⟩,⟨some 144,.bin .rem false (.t 142) (.t 143),none⟩,⟨some 145,.faddr 4 (.t 8),none⟩,⟨none,.store (.root 8) false 1 (.t 145) (.t 135),none⟩,⟨some 146,.faddr 7 (.t 8),none⟩,⟨none,.store (.root 8) false 1 (.t 146) (.t 139),none⟩,⟨some 147,.faddr 8 (.t 8),none⟩,⟨none,.store (.root 8) false 1 (.t 147) (.t 144),none⟩]) (.seq (.reg [⟨some 148,.faddr 7 (.t 8),none⟩,⟨some 149,.load .any false 1 (.t 148),none⟩,⟨some 150,.bin .lss false (.t 149) (.c (.int .i64 0)),none⟩]) (.cond (.t 150) (.reg [⟨some 151,.faddr 4 (.t 8),none⟩,⟨some 152,.load .any false 1 (.t 151),none⟩,⟨some 153,.faddr 8 (.t 8),none⟩,⟨some 154,.load .any false 1 (.t 153),none⟩,⟨some 155,.build [(.int .i64 0),(.str (ByteArray.mk #[])),(.int .i64 0),(.int .i64 0),(.int .i64 0),(.sl true []),(.sl true []),(.int .i64 0),(.int .i64 0),(.bool false)] [(0,(1,(.c (.int .i64 7)))),(4,(1,(.t 152))),(8,(1,(.t 154)))],none⟩,⟨none,.store .any true 10 (.t 8) (.t 155),none⟩]) .skip))) (.seq (.reg [⟨some 157,.bin .eql false (.t 44) (.c (.int .i64 9)),none⟩,⟨some 156,.mv (.t 157),none⟩]) (.cond (.t 156) (.reg [⟨some 158,.faddr 3 (.t 7),none⟩,⟨some 159,.load .any false 1 (.t 158),none⟩,⟨some 160,.conv (.some .i64) (.t 159),none⟩,⟨some 161,.mv (.t 4),none⟩,⟨some 162,.bin .rem false (.t 160) (.t 161),none⟩,⟨some 163,.faddr 8 (.t 8),none⟩,⟨none,.store .any false 1 (.t 163) (.t 162),none⟩]) .skip)))))))))))))))))) (.reg [⟨some 164,.faddr 0 (.t 5),none⟩,⟨some 165,.load .any false 1 (.t 164),none⟩,⟨some 166,.load .any true 10 (.t 8),none⟩,⟨some 167,.bslr 10 [(.int .i64 0),(.str (ByteArray.mk #[])),(.int .i64 0),(.int .i64 0),(.int .i64 0),(.sl true []),(.sl true []),(.int .i64 0),(.int .i64 0),(.bool false)] 1 [(0,(.t 166))],none⟩,⟨some 168,.appn .any 62 10 120 (.t 165) (.t 167),none⟩,⟨some 169,.faddr 0 (.t 5),none⟩,⟨none,.store .any false 1 (.t 169) (.t 168),none⟩])))))) (.reg [⟨some 24,.mv (.t 6),none⟩,⟨some 25,.bin .add false (.t 24) (.c (.int .i64 1)),none⟩,⟨some 6,.mv (.t 25),none⟩]))
def q2I:FnC:=⟨(.seq (.reg [⟨some 1,.box 1 (.t 0),none⟩,⟨some 2,.alloc [(.sl true [])],none⟩,⟨some 3,.mv (.c (.bool false)),none⟩]) (.seq (.reg [⟨some 11,.faddr 0 (.t 1),none⟩,⟨some 12,.load .any false 1 (.t 11),none⟩,⟨some 13,.len false (.t 12),none⟩,⟨some 4,.mv (.t 13),none⟩]) (.seq (.seq (.reg [⟨some 14,.mv (.t 4),none⟩,⟨some 15,.bin .lss false (.t 14) (.c (.int .i64 1)),none⟩,⟨some 16,.mv (.t 15),none⟩,⟨some 17,.mv (.t 4),some (16,false)⟩,⟨some 18,.bin .gtr false (.t 17) (.c (.int .i64 5)),some (16,false)⟩,⟨some 19,.pick (.t 16) (.c (.bool true)) (.t 18),none⟩]) (.cond (.t 19) (.seq (.reg [⟨some 20,.build [(.sl true [])] [],none⟩,⟨none,.store .any true 1 (.t 2) (.t 20),none⟩,⟨some 3,.mv (.c (.bool false)),none⟩]) .ret) .skip)) (.seq (.reg [⟨some 5,.alloc [(.sl true [])],none⟩]) (.seq (.seq (.reg [⟨some 6,.mv (.c (.int .i64 0)),none⟩]) (.block 0 (.loop q7H))) (.seq (.reg [⟨some 170,.load .any true 1 (.t 5),none⟩,⟨none,.store .any true 1 (.t 2) (.t 170),none⟩,⟨some 3,.mv (.c (.bool true)),none⟩]) .ret)))))),[(.cell 2 true 1),(.tmp 3)],1,[5000000,337,334,1000000 + 56]⟩
theorem ok_ref07_Of:FnOk Tryz.prog 39 q2I:=⟨fun xs w=>by kernel_rfl,_,Tryz.func39,by kernel_rfl⟩
def q1O:C:=.seq (.seq (.reg [⟨some 51,.mv (.t 7),none⟩,⟨some 52,.faddr 6 (.t 2),none⟩,⟨some 53,.load .any false 1 (.t 52),none⟩,⟨some 54,.len false (.t 53),none⟩,⟨some 55,.bin .lss false (.t 51) (.t 54),none⟩]) (.cond (.t 55) .skip (.exit 3))) (.seq (.block 4 (.seq (.reg [⟨some 58,.mv (.t 1),none⟩,⟨some 59,.faddr 6 (.t 2),none⟩,⟨some 60,.load .any false 1 (.t 59),none⟩,⟨some 61,.mv (.t 7),none⟩,⟨some 62,.iaddr 13 (.t 60) (.t 61),none⟩,⟨some 63,.faddr 2 (.t 62),none⟩,⟨some 64,.load .any false 1 (.t 63),none⟩,⟨some 65,.iaddr 1 (.t 58) (.t 64),none⟩,⟨some 66,.load .any false 1 (.t 65),none⟩,⟨some 8,.mv (.t 66),none⟩]) (.seq (.reg [⟨some 67,.mv (.t 8),none⟩,⟨some 68,.bin .geq false (.t 67) (.c (.int .i64 0)),none⟩,⟨some 69,.mv (.t 68),none⟩,⟨some 70,.mv (.t 5),some (69,true)⟩,⟨some 71,.bin .lss false (.t 70) (.c (.int .i64 0)),some (69,true)⟩,⟨some 72,.mv (.t 71),some (69,true)⟩,⟨some 73,.mv (.t 8),some (72,false)⟩,⟨some 74,.bin .add false (.t 73) (.c (.int .i64 1)),some (72,false)⟩,⟨some 75,.mv (.t 5),some (72,false)⟩,⟨some 76,.bin .lss false (.t 74) (.t 75),some (72,false)⟩,⟨some 77,.pick (.t 72) (.c (.bool true)) (.t 76),some (69,true)⟩,⟨some 78,.pick (.t 69) (.t 77) (.c (.bool false)),none⟩]) (.cond (.t 78) (.reg [⟨some 79,.mv (.t 8),none⟩,⟨some 80,.bin .add false (.t 79) (.c (.int .i64 1)),none⟩,⟨some 5,.mv (.t 80),none⟩]) .skip)))) (.reg [⟨some 56,.mv (.t 7),none⟩,⟨some 57,.bin .add false (.t 56) (.c (.int .i64 1)),none⟩,⟨some 7,.mv (.t 57),none⟩]))
def q2l:C:=.seq (.seq (.reg [⟨some 13,.mv (.t 6),none⟩,⟨some 14,.faddr 6 (.t 2),none⟩,⟨some 15,.load .any false 1 (.t 14),none⟩,⟨some 16,.len false (.t 15),none⟩,⟨some 17,.bin .lss false (.t 13) (.t 16),none⟩]) (.cond (.t 17) .skip (.exit 1))) (.seq (.block 2 (.seq (.seq (.reg [⟨some 20,.faddr 6 (.t 2),none⟩,⟨some 21,.load .any false 1 (.t 20),none⟩,⟨some 22,.mv (.t 6),none⟩,⟨some 23,.iaddr 13 (.t 21) (.t 22),none⟩,⟨some 24,.faddr 4 (.t 23),none⟩,⟨some 25,.load .any false 1 (.t 24),none⟩]) (.cond (.t 25) (.exit 2) .skip)) (.seq (.seq (.reg [⟨some 26,.mv (.t 1),none⟩,⟨some 27,.faddr 6 (.t 2),none⟩,⟨some 28,.load .any false 1 (.t 27),none⟩,⟨some 29,.mv (.t 6),none⟩,⟨some 30,.iaddr 13 (.t 28) (.t 29),none⟩,⟨some 31,.faddr 2 (.t 30),none⟩,⟨some 32,.load .any false 1 (.t 31),none⟩,⟨some 33,.iaddr 1 (.t 26) (.t 32),none⟩,⟨some 34,.load .any false 1 (.t 33),none⟩,⟨some 35,.bin .lss false (.t 34) (.c (.int .i64 0)),none⟩]) (.cond (.t 35) (.seq (.reg [⟨some 4,.mv (.c (.int .i64 (-1))),none⟩]) .ret) .skip)) (.reg [⟨some 36,.mv (.t 5),none⟩,⟨some 37,.mv (.t 1),none⟩,⟨some 38,.faddr 6 (.t 2),none⟩,⟨some 39,.load .any false 1 (.t 38),none⟩,⟨some 40,.mv (.t 6),none⟩,⟨some 41,.iaddr 13 (.t 39) (.t 40),none⟩,⟨some 42,.faddr 2 (.t 41),none⟩,⟨some 43,.load .any false 1 (.t 42),none⟩,⟨some 44,.iaddr 1 (.t 37) (.t 43),none⟩,⟨some 45,.load .any false 1 (.t 44),none⟩,⟨some 46,.mm true (.t 36) (.t 45),none⟩,⟨some 5,.mv (.t 46),none⟩])))) (.reg [⟨some 18,.mv (.t 6),none⟩,⟨some 19,.bin .add false (.t 18) (.c (.int .i64 1)),none⟩,⟨some 6,.mv (.t 19),none⟩]))
def q2L:FnC:=⟨(.seq (.reg [⟨some 2,.box 10 (.t 0),none⟩,⟨some 4,.mv (.c (.int .i64 0)),none⟩]) (.seq (.reg [⟨some 5,.mv (.c (.int .i64 (-1))),none⟩]) (.seq (.seq (.reg [⟨some 9,.faddr 0 (.t 2),none⟩,⟨some 10,.load .any false 1 (.t 9),none⟩]) (.block 0 (.seq (.reg [⟨some 12,.bin .eql false (.t 10) (.c (.int .i64 5)),none⟩,⟨some 11,.mv (.t 12),none⟩]) (.cond (.t 11) (.seq (.seq (.reg [⟨some 6,.mv (.c (.int .i64 0)),none⟩]) (.block 1 (.loop q2l))) (.seq (.reg [⟨some 47,.mv (.t 5),none⟩,⟨some 48,.bin .add false (.t 47) (.c (.int .i64 1)),none⟩,⟨some 4,.mv (.t 48),none⟩]) .ret)) (.seq (.reg [⟨some 50,.bin .eql false (.t 10) (.c (.int .i64 6)),none⟩,⟨some 49,.mv (.t 50),none⟩]) (.cond (.t 49) (.seq (.seq (.reg [⟨some 7,.mv (.c (.int .i64 0)),none⟩]) (.block 3 (.loop q1O))) (.seq (.reg [⟨some 81,.mv (.t 5),none⟩,⟨some 4,.mv (.t 81),none⟩]) .ret)) .skip)))))) (.seq (.reg [⟨some 4,.mv (.c (.int .i64 0)),none⟩]) .ret)))),[(.tmp 4)],2,[]⟩
theorem ok_ref11_round:FnOk Tryz.prog 40 q2L:=⟨fun xs w=>by kernel_rfl,_,Tryz.func40,by kernel_rfl⟩
def q1c:C:=.seq (.seq (.reg [⟨some 48,.mv (.t 5),none⟩,⟨some 49,.faddr 7 (.t 2),none⟩,⟨some 50,.load .any false 1 (.t 49),none⟩,⟨some 51,.len false (.t 50),none⟩,⟨some 52,.bin .lss false (.t 48) (.t 51),none⟩]) (.cond (.t 52) .skip (.exit 0))) (.seq (.block 1 (.seq (.reg [⟨some 55,.faddr 7 (.t 2),none⟩,⟨some 56,.load .any false 1 (.t 55),none⟩,⟨some 57,.mv (.t 5),none⟩,⟨some 58,.iaddr 2 (.t 56) (.t 57),none⟩,⟨some 59,.load .any true 2 (.t 58),none⟩,⟨some 60,.faddr 7 (.t 3),none⟩,⟨some 61,.load .any false 1 (.t 60),none⟩,⟨some 62,.mv (.t 5),none⟩,⟨some 63,.iaddr 2 (.t 61) (.t 62),none⟩,⟨some 64,.load .any true 2 (.t 63),none⟩,⟨some 65,.eqa true [0,1] (.t 59) (.t 64),none⟩]) (.cond (.t 65) (.seq (.reg [⟨some 4,.mv (.c (.bool false)),none⟩]) .ret) .skip))) (.reg [⟨some 53,.mv (.t 5),none⟩,⟨some 54,.bin .add false (.t 53) (.c (.int .i64 1)),none⟩,⟨some 5,.mv (.t 54),none⟩]))
def q0G:FnC:=⟨(.seq (.reg [⟨some 2,.box 8 (.t 0),none⟩,⟨some 3,.box 8 (.t 1),none⟩,⟨some 4,.mv (.c (.bool false)),none⟩]) (.seq (.seq (.reg [⟨some 6,.faddr 0 (.t 2),none⟩,⟨some 7,.load .any false 1 (.t 6),none⟩,⟨some 8,.faddr 0 (.t 3),none⟩,⟨some 9,.load .any false 1 (.t 8),none⟩,⟨some 10,.bin .neq false (.t 7) (.t 9),none⟩,⟨some 11,.mv (.t 10),none⟩,⟨some 12,.faddr 1 (.t 2),some (11,false)⟩,⟨some 13,.load .any false 1 (.t 12),some (11,false)⟩,⟨some 14,.faddr 1 (.t 3),some (11,false)⟩,⟨some 15,.load .any false 1 (.t 14),some (11,false)⟩,⟨some 16,.bin .neq true (.t 13) (.t 15),some (11,false)⟩,⟨some 17,.pick (.t 11) (.c (.bool true)) (.t 16),none⟩,⟨some 18,.mv (.t 17),none⟩,⟨some 19,.faddr 2 (.t 2),some (18,false)⟩,⟨some 20,.load .any false 1 (.t 19),some (18,false)⟩,⟨some 21,.faddr 2 (.t 3),some (18,false)⟩,⟨some 22,.load .any false 1 (.t 21),some (18,false)⟩,⟨some 23,.bin .neq false (.t 20) (.t 22),some (18,false)⟩,⟨some 24,.pick (.t 18) (.c (.bool true)) (.t 23),none⟩,⟨some 25,.mv (.t 24),none⟩,⟨some 26,.faddr 3 (.t 2),some (25,false)⟩,⟨some 27,.load .any false 1 (.t 26),some (25,false)⟩,⟨some 28,.faddr 3 (.t 3),some (25,false)⟩,⟨some 29,.load .any false 1 (.t 28),some (25,false)⟩,⟨some 30,.bin .neq false (.t 27) (.t 29),some (25,false)⟩,⟨some 31,.pick (.t 25) (.c (.bool true)) (.t 30),none⟩,⟨some 32,.mv (.t 31),none⟩,⟨some 33,.faddr 4 (.t 2),some (32,false)⟩,⟨some 34,.load .any false 1 (.t 33),some (32,false)⟩,⟨some 35,.faddr 4 (.t 3),some (32,false)⟩,⟨some 36,.load .any false 1 (.t 35),some (32,false)⟩,⟨some 37,.bin .neq false (.t 34) (.t 36),some (32,false)⟩,⟨some 38,.pick (.t 32) (.c (.bool true)) (.t 37),none⟩,⟨some 39,.mv (.t 38),none⟩,⟨some 40,.faddr 7 (.t 2),some (39,false)⟩,⟨some 41,.load .any false 1 (.t 40),some (39,false)⟩,⟨some 42,.len false (.t 41),some (39,false)⟩,⟨some 43,.faddr 7 (.t 3),some (39,false)⟩,⟨some 44,.load .any false 1 (.t 43),some (39,false)⟩,⟨some 45,.len false (.t 44),some (39,false)⟩,⟨some 46,.bin .neq false (.t 42) (.t 45),some (39,false)⟩,⟨some 47,.pick (.t 39) (.c (.bool true)) (.t 46),none⟩]) (.cond (.t 47) (.seq (.reg [⟨some 4,.mv (.c (.bool false)),none⟩]) .ret) .skip)) (.seq (.seq (.reg [⟨some 5,.mv (.c (.int .i64 0)),none⟩]) (.block 0 (.loop q1c))) (.seq (.reg [⟨some 66,.faddr 5 (.t 2),none⟩,⟨some 67,.load .any false 1 (.t 66),none⟩,⟨some 68,.faddr 5 (.t 3),none⟩,⟨some 69,.load .any false 1 (.t 68),none⟩,⟨some 70,.call .any 58 [(.t 67),(.t 69)],none⟩,⟨some 71,.mv (.t 70),none⟩,⟨some 72,.faddr 6 (.t 2),some (71,true)⟩,⟨some 73,.load .any false 1 (.t 72),some (71,true)⟩,⟨some 74,.faddr 6 (.t 3),some (71,true)⟩,⟨some 75,.load .any false 1 (.t 74),some (71,true)⟩,⟨some 76,.call .any 58 [(.t 73),(.t 75)],some (71,true)⟩,⟨some 77,.pick (.t 71) (.t 76) (.c (.bool false)),none⟩,⟨some 4,.mv (.t 77),none⟩]) .ret)))),[(.tmp 4)],2,[]⟩
theorem q7J:FnOk Tryz.prog 41 q0G:=⟨fun xs w=>by kernel_rfl,_,Tryz.func41,by kernel_rfl⟩
def q1P:C:=.seq (.seq (.reg [⟨some 48,.mv (.t 7),none⟩,⟨some 49,.mv (.t 6),none⟩,⟨some 50,.len false (.t 49),none⟩,⟨some 51,.bin .lss false (.t 48) (.t 50),none⟩]) (.cond (.t 51) .skip (.exit 4))) (.seq (.block 5 (.seq (.reg [⟨some 54,.mv (.t 6),none⟩,⟨some 55,.mv (.t 7),none⟩,⟨some 56,.iaddr 1 (.t 54) (.t 55),none⟩,⟨some 57,.load .any false 1 (.t 56),none⟩,⟨some 58,.bin .lss false (.t 57) (.c (.int .i64 0)),none⟩,⟨some 59,.mv (.t 58),none⟩,⟨some 60,.mv (.t 6),some (59,false)⟩,⟨some 61,.mv (.t 7),some (59,false)⟩,⟨some 62,.iaddr 1 (.t 60) (.t 61),some (59,false)⟩,⟨some 63,.load .any false 1 (.t 62),some (59,false)⟩,⟨some 64,.faddr 0 (.t 1),some (59,false)⟩,⟨some 65,.load .any false 1 (.t 64),some (59,false)⟩,⟨some 66,.len false (.t 65),some (59,false)⟩,⟨some 67,.bin .geq false (.t 63) (.t 66),some (59,false)⟩,⟨some 68,.pick (.t 59) (.c (.bool true)) (.t 67),none⟩]) (.cond (.t 68) (.seq (.reg [⟨some 2,.mv (.c (.int .i64 4)),none⟩]) .ret) .skip))) (.reg [⟨some 52,.mv (.t 7),none⟩,⟨some 53,.bin .add false (.t 52) (.c (.int .i64 1)),none⟩,⟨some 7,.mv (.t 53),none⟩]))
def q1x:C:=.seq (.seq (.reg [⟨some 27,.mv (.t 5),none⟩,⟨some 28,.mv (.t 3),none⟩,⟨some 29,.bin .lss false (.t 27) (.t 28),none⟩]) (.cond (.t 29) .skip (.exit 2))) (.seq (.block 3 (.seq (.reg [⟨some 32,.faddr 0 (.t 4),none⟩,⟨some 33,.load .any false 1 (.t 32),none⟩,⟨some 34,.call .any 52 [(.t 33)],none⟩,⟨some 35,.mv (.t 34),none⟩,⟨some 36,.faddr 0 (.t 1),some (35,true)⟩,⟨some 37,.load .any false 1 (.t 36),some (35,true)⟩,⟨some 38,.mv (.t 5),some (35,true)⟩,⟨some 39,.iaddr 10 (.t 37) (.t 38),some (35,true)⟩,⟨some 40,.faddr 1 (.t 39),some (35,true)⟩,⟨some 41,.load .any false 1 (.t 40),some (35,true)⟩,⟨some 42,.faddr 1 (.t 4),some (35,true)⟩,⟨some 43,.load .any false 1 (.t 42),some (35,true)⟩,⟨some 44,.bin .eql false (.t 41) (.t 43),some (35,true)⟩,⟨some 45,.pick (.t 35) (.t 44) (.c (.bool false)),none⟩]) (.cond (.t 45) (.seq (.reg [⟨some 2,.mv (.c (.int .i64 1)),none⟩]) .ret) .skip))) (.reg [⟨some 30,.mv (.t 5),none⟩,⟨some 31,.bin .add false (.t 30) (.c (.int .i64 1)),none⟩,⟨some 5,.mv (.t 31),none⟩]))
def q35:C:=.seq (.seq (.reg [⟨some 12,.mv (.t 3),none⟩,⟨some 13,.faddr 0 (.t 1),none⟩,⟨some 14,.load .any false 1 (.t 13),none⟩,⟨some 15,.len false (.t 14),none⟩,⟨some 16,.bin .lss false (.t 12) (.t 15),none⟩]) (.cond (.t 16) .skip (.exit 0))) (.seq (.block 1 (.seq (.reg [⟨some 19,.faddr 0 (.t 1),none⟩,⟨some 20,.load .any false 1 (.t 19),none⟩,⟨some 21,.mv (.t 3),none⟩,⟨some 22,.iaddr 10 (.t 20) (.t 21),none⟩,⟨some 23,.load .any true 10 (.t 22),none⟩,⟨some 4,.alloc [(.int .i64 0),(.str (ByteArray.mk #[])),(.int .i64 0),(.int .i64 0),(.int .i64 0),(.sl true []),(.sl true []),(.int .i64 0),(.int .i64 0),(.bool false)],none⟩,⟨none,.store .any true 10 (.t 4) (.t 23),none⟩]) (.seq (.seq (.reg [⟨some 24,.load .any true 10 (.t 4),none⟩,⟨some 25,.call .any 59 [(.t 24)],none⟩,⟨some 26,.un .not (.t 25),none⟩]) (.cond (.t 26) (.seq (.reg [⟨some 2,.mv (.c (.int .i64 1)),none⟩]) .ret) .skip)) (.seq (.seq (.reg [⟨some 5,.mv (.c (.int .i64 0)),none⟩]) (.block 2 (.loop q1x))) (.seq (.reg [⟨some 46,.load .any true 10 (.t 4),none⟩,⟨some 47,.call .any 60 [(.t 46)],none⟩,⟨some 6,.mv (.t 47),none⟩]) (.seq (.seq (.reg [⟨some 7,.mv (.c (.int .i64 0)),none⟩]) (.block 4 (.loop q1P))) (.seq (.reg [⟨some 69,.faddr 0 (.t 4),none⟩,⟨some 70,.load .any false 1 (.t 69),none⟩,⟨some 71,.bin .eql false (.t 70) (.c (.int .i64 8)),none⟩,⟨some 72,.mv (.t 71),none⟩,⟨some 73,.faddr 0 (.t 1),some (72,true)⟩,⟨some 74,.load .any false 1 (.t 73),some (72,true)⟩,⟨some 75,.faddr 7 (.t 4),some (72,true)⟩,⟨some 76,.load .any false 1 (.t 75),some (72,true)⟩,⟨some 77,.iaddr 10 (.t 74) (.t 76),some (72,true)⟩,⟨some 78,.faddr 0 (.t 77),some (72,true)⟩,⟨some 79,.load .any false 1 (.t 78),some (72,true)⟩,⟨some 80,.call .any 61 [(.t 79)],some (72,true)⟩,⟨some 81,.un .not (.t 80),some (72,true)⟩,⟨some 82,.pick (.t 72) (.t 81) (.c (.bool false)),none⟩]) (.cond (.t 82) (.seq (.reg [⟨some 2,.mv (.c (.int .i64 1)),none⟩]) .ret) .skip)))))))) (.reg [⟨some 17,.mv (.t 3),none⟩,⟨some 18,.bin .add false (.t 17) (.c (.int .i64 1)),none⟩,⟨some 3,.mv (.t 18),none⟩]))
def q3t:FnC:=⟨(.seq (.reg [⟨some 1,.box 1 (.t 0),none⟩,⟨some 2,.mv (.c (.int .i64 0)),none⟩]) (.seq (.seq (.reg [⟨some 8,.faddr 0 (.t 1),none⟩,⟨some 9,.load .any false 1 (.t 8),none⟩,⟨some 10,.len false (.t 9),none⟩,⟨some 11,.bin .gtr false (.t 10) (.c (.int .i64 32)),none⟩]) (.cond (.t 11) (.seq (.reg [⟨some 2,.mv (.c (.int .i64 3)),none⟩]) .ret) .skip)) (.seq (.seq (.reg [⟨some 3,.mv (.c (.int .i64 0)),none⟩]) (.block 0 (.loop q35))) (.seq (.reg [⟨some 2,.mv (.c (.int .i64 0)),none⟩]) .ret)))),[(.tmp 2)],1,[]⟩
theorem ok_ref07_Valid:FnOk Tryz.prog 42 q3t:=⟨fun xs w=>by kernel_rfl,_,Tryz.func42,by kernel_rfl⟩
def q14:C:=.seq (.seq (.reg [⟨some 27,.mv (.t 8),none⟩,⟨some 28,.mv (.t 7),none⟩,⟨some 29,.len false (.t 28),none⟩,⟨some 30,.bin .lss false (.t 27) (.t 29),none⟩]) (.cond (.t 30) .skip (.exit 2))) (.seq (.block 3 (.seq (.reg [⟨some 33,.mv (.t 7),none⟩,⟨some 34,.mv (.t 8),none⟩,⟨some 35,.iaddr 13 (.t 33) (.t 34),none⟩,⟨some 36,.faddr 4 (.t 35),none⟩,⟨some 37,.load .any false 1 (.t 36),none⟩,⟨some 38,.mv (.t 37),none⟩,⟨some 39,.load .any true 1 (.t 1),some (38,true)⟩,⟨some 40,.mv (.t 7),some (38,true)⟩,⟨some 41,.mv (.t 8),some (38,true)⟩,⟨some 42,.iaddr 13 (.t 40) (.t 41),some (38,true)⟩,⟨some 43,.faddr 2 (.t 42),some (38,true)⟩,⟨some 44,.load .any false 1 (.t 43),some (38,true)⟩,⟨some 45,.mv (.t 7),some (38,true)⟩,⟨some 46,.mv (.t 8),some (38,true)⟩,⟨some 47,.iaddr 13 (.t 45) (.t 46),some (38,true)⟩,⟨some 48,.faddr 5 (.t 47),some (38,true)⟩,⟨some 49,.load .any true 8 (.t 48),some (38,true)⟩,⟨some 50,.call .any 62 [(.t 39),(.t 44),(.t 49)],some (38,true)⟩,⟨some 51,.un .not (.t 50),some (38,true)⟩,⟨some 52,.pick (.t 38) (.t 51) (.c (.bool false)),none⟩]) (.cond (.t 52) (.seq (.reg [⟨some 53,.mv (.t 6),none⟩,⟨some 54,.mv (.t 7),none⟩,⟨some 55,.mv (.t 8),none⟩,⟨some 56,.iaddr 13 (.t 54) (.t 55),none⟩,⟨some 57,.faddr 0 (.t 56),none⟩,⟨some 58,.load .any false 1 (.t 57),none⟩,⟨some 2,.mv (.t 53),none⟩,⟨some 3,.mv (.t 58),none⟩,⟨some 4,.mv (.c (.int .i64 1)),none⟩]) .ret) .skip))) (.reg [⟨some 31,.mv (.t 8),none⟩,⟨some 32,.bin .add false (.t 31) (.c (.int .i64 1)),none⟩,⟨some 8,.mv (.t 32),none⟩]))
def q3c:C:=.seq (.seq (.reg [⟨some 14,.mv (.t 6),none⟩,⟨some 15,.faddr 0 (.t 1),none⟩,⟨some 16,.load .any false 1 (.t 15),none⟩,⟨some 17,.len false (.t 16),none⟩,⟨some 18,.bin .lss false (.t 14) (.t 17),none⟩]) (.cond (.t 18) .skip (.exit 0))) (.seq (.block 1 (.seq (.reg [⟨some 21,.faddr 0 (.t 1),none⟩,⟨some 22,.load .any false 1 (.t 21),none⟩,⟨some 23,.mv (.t 6),none⟩,⟨some 24,.iaddr 10 (.t 22) (.t 23),none⟩,⟨some 25,.faddr 6 (.t 24),none⟩,⟨some 26,.load .any false 1 (.t 25),none⟩,⟨some 7,.mv (.t 26),none⟩]) (.seq (.reg [⟨some 8,.mv (.c (.int .i64 0)),none⟩]) (.block 2 (.loop q14))))) (.reg [⟨some 19,.mv (.t 6),none⟩,⟨some 20,.bin .add false (.t 19) (.c (.int .i64 1)),none⟩,⟨some 6,.mv (.t 20),none⟩]))
def q2n:FnC:=⟨(.seq (.reg [⟨some 1,.box 1 (.t 0),none⟩,⟨some 2,.mv (.c (.int .i64 0)),none⟩,⟨some 3,.mv (.c (.int .i64 0)),none⟩,⟨some 4,.mv (.c (.int .i64 0)),none⟩]) (.seq (.seq (.reg [⟨some 9,.load .any true 1 (.t 1),none⟩,⟨some 10,.call .any 42 [(.t 9)],none⟩,⟨some 5,.mv (.t 10),none⟩]) (.seq (.reg [⟨some 11,.mv (.t 5),none⟩,⟨some 12,.bin .neq false (.t 11) (.c (.int .i64 0)),none⟩]) (.cond (.t 12) (.seq (.reg [⟨some 13,.mv (.t 5),none⟩,⟨some 2,.mv (.c (.int .i64 0)),none⟩,⟨some 3,.mv (.c (.int .i64 0)),none⟩,⟨some 4,.mv (.t 13),none⟩]) .ret) .skip))) (.seq (.seq (.reg [⟨some 6,.mv (.c (.int .i64 0)),none⟩]) (.block 0 (.loop q3c))) (.seq (.reg [⟨some 2,.mv (.c (.int .i64 0)),none⟩,⟨some 3,.mv (.c (.int .i64 0)),none⟩,⟨some 4,.mv (.c (.int .i64 0)),none⟩]) .ret)))),[(.tmp 2),(.tmp 3),(.tmp 4)],1,[]⟩
theorem q8s:FnOk Tryz.prog 43 q2n:=⟨fun xs w=>by kernel_rfl,_,Tryz.func43,by kernel_rfl⟩
def q1n:C:=.seq (.reg [⟨some 41,.bin .lss false (.t 40) (.t 39),none⟩]) (.seq (.cond (.t 41) .skip (.exit 2)) (.seq (.block 3 (.seq (.reg [⟨some 42,.iaddr 1 (.t 38) (.t 40),none⟩,⟨some 43,.load .any false 1 (.t 42),none⟩,⟨some 7,.mv (.t 43),none⟩]) (.seq (.reg [⟨some 44,.mv (.t 7),none⟩,⟨some 45,.bin .lss false (.t 44) (.c (.int .i64 0)),none⟩,⟨some 46,.mv (.t 45),none⟩,⟨some 47,.mv (.t 7),some (46,false)⟩,⟨some 48,.faddr 0 (.t 1),some (46,false)⟩,⟨some 49,.load .any false 1 (.t 48),some (46,false)⟩,⟨some 50,.len false (.t 49),some (46,false)⟩,⟨some 51,.bin .geq false (.t 47) (.t 50),some (46,false)⟩,⟨some 52,.pick (.t 46) (.c (.bool true)) (.t 51),none⟩]) (.cond (.t 52) (.seq (.reg [⟨some 2,.mv (.c (.int .i64 4)),none⟩]) .ret) .skip)))) (.reg [⟨some 53,.bin .add false (.t 40) (.c (.int .i64 1)),none⟩,⟨some 40,.mv (.t 53),none⟩])))
def q0z:C:=.seq (.reg [⟨some 17,.bin .lss false (.t 16) (.t 15),none⟩]) (.seq (.cond (.t 17) .skip (.exit 0)) (.seq (.block 1 (.seq (.reg [⟨some 18,.iaddr 10 (.t 14) (.t 16),none⟩,⟨some 19,.load .any true 10 (.t 18),none⟩,⟨some 5,.alloc [(.int .i64 0),(.str (ByteArray.mk #[])),(.int .i64 0),(.int .i64 0),(.int .i64 0),(.sl true []),(.sl true []),(.int .i64 0),(.int .i64 0),(.bool false)],none⟩,⟨none,.store .any true 10 (.t 5) (.t 19),none⟩]) (.seq (.seq (.reg [⟨some 20,.load .any true 10 (.t 5),none⟩,⟨some 21,.call .any 63 [(.t 20)],none⟩,⟨some 22,.un .not (.t 21),none⟩,⟨some 23,.mv (.t 22),none⟩,⟨some 24,.faddr 1 (.t 5),some (23,false)⟩,⟨some 25,.load .any false 1 (.t 24),some (23,false)⟩,⟨some 26,.bin .neq false (.t 25) (.c (.str (ByteArray.mk #[]))),some (23,false)⟩,⟨some 27,.mv (.t 26),some (23,false)⟩,⟨some 28,.mv (.t 3),some (27,true)⟩,⟨some 29,.faddr 1 (.t 5),some (27,true)⟩,⟨some 30,.load .any false 1 (.t 29),some (27,true)⟩,⟨some 31,.mget false .none (.bool false) (.t 28) (.t 30),some (27,true)⟩,⟨some 32,.pick (.t 27) (.t 31) (.c (.bool false)),some (23,false)⟩,⟨some 33,.pick (.t 23) (.c (.bool true)) (.t 32),none⟩]) (.cond (.t 33) (.seq (.reg [⟨some 2,.mv (.c (.int .i64 1)),none⟩]) .ret) .skip)) (.seq (.reg [⟨some 34,.mv (.t 3),none⟩,⟨some 35,.faddr 1 (.t 5),none⟩,⟨some 36,.load .any false 1 (.t 35),none⟩,⟨none,.mset .none (.t 34) (.t 36) (.c (.bool true)),none⟩]) (.seq (.seq (.reg [⟨some 37,.load .any true 10 (.t 5),none⟩,⟨some 38,.call .any 64 [(.t 37)],none⟩,⟨some 39,.len false (.t 38),none⟩,⟨some 40,.mv (.c (.int .i64 0)),none⟩]) (.block 2 (.loop q1n))) (.seq (.reg [⟨some 54,.faddr 0 (.t 5),none⟩,⟨some 55,.load .any false 1 (.t 54),none⟩,⟨some 56,.bin .eql false (.t 55) (.c (.int .i64 8)),none⟩,⟨some 57,.mv (.t 56),none⟩,⟨some 58,.faddr 0 (.t 1),some (57,true)⟩,⟨some 59,.load .any false 1 (.t 58),some (57,true)⟩,⟨some 60,.faddr 7 (.t 5),some (57,true)⟩,⟨some 61,.load .any false 1 (.t 60),some (57,true)⟩,⟨some 62,.iaddr 10 (.t 59) (.t 61),some (57,true)⟩,⟨some 63,.faddr 0 (.t 62),some (57,true)⟩,⟨some 64,.load .any false 1 (.t 63),some (57,true)⟩,⟨some 65,.bin .lss false (.t 64) (.c (.int .i64 1)),some (57,true)⟩,⟨some 66,.mv (.t 65),some (57,true)⟩,⟨some 67,.faddr 0 (.t 1),some (66,false)⟩,⟨some 68,.load .any false 1 (.t 67),some (66,false)⟩,⟨some 69,.faddr 7 (.t 5),some (66,false)⟩,⟨some 70,.load .any false 1 (.t 69),some (66,false)⟩,⟨some 71,.iaddr 10 (.t 68) (.t 70),some (66,false)⟩,⟨some 72,.faddr 0 (.t 71),some (66,false)⟩,⟨some 73,.load .any false 1 (.t 72),some (66,false)⟩,⟨some 74,.bin .gtr false (.t 73) (.c (.int .i64 4)),some (66,false)⟩,⟨some 75,.pick (.t 66) (.c (.bool true)) (.t 74),some (57,true)⟩,⟨some 76,.pick (.t 57) (.t 75) (.c (.bool false)),none⟩]) (.cond (.t 76) (.seq (.reg [⟨some 2,.mv (.c (.int .i64 1)),none⟩]) .ret) .skip))))))) (.reg [⟨some 77,.bin .add false (.t 16) (.c (.int .i64 1)),none⟩,⟨some 16,.mv (.t 77),none⟩])))
def q31:FnC:=⟨(.seq (.reg [⟨some 1,.box 1 (.t 0),none⟩,⟨some 2,.mv (.c (.int .i64 0)),none⟩]) (.seq (.seq (.reg [⟨some 8,.faddr 0 (.t 1),none⟩,⟨some 9,.load .any false 1 (.t 8),none⟩,⟨some 10,.len false (.t 9),none⟩,⟨some 11,.bin .gtr false (.t 10) (.c (.int .i64 32)),none⟩]) (.cond (.t 11) (.seq (.reg [⟨some 2,.mv (.c (.int .i64 3)),none⟩]) .ret) .skip)) (.seq (.reg [⟨some 12,.mkm,none⟩,⟨some 3,.mv (.t 12),none⟩]) (.seq (.seq (.reg [⟨some 13,.faddr 0 (.t 1),none⟩,⟨some 14,.load .any false 1 (.t 13),none⟩,⟨some 15,.len false (.t 14),none⟩,⟨some 16,.mv (.c (.int .i64 0)),none⟩]) (.block 0 (.loop q0z))) (.seq (.reg [⟨some 2,.mv (.c (.int .i64 0)),none⟩]) .ret))))),[(.tmp 2)],1,[]⟩
theorem ok_schema_Valid:FnOk Tryz.prog 44 q31:=⟨fun xs w=>by kernel_rfl,_,Tryz.func44,by kernel_rfl⟩
def q13:C:=.seq (.reg [⟨some 27,.bin .lss false (.t 26) (.t 25),none⟩]) (.seq (.cond (.t 27) .skip (.exit 2)) (.seq (.block 3 (.seq (.reg [⟨some 28,.iaddr 13 (.t 24) (.t 26),none⟩,⟨some 29,.load .any true 13 (.t 28),none⟩,⟨some 9,.alloc [(.int .i64 0),(.str (ByteArray.mk #[])),(.int .i64 0),(.bool false),(.bool false),(.int .i64 0),(.bool false),(.int .i64 0),(.str (ByteArray.mk #[])),(.int .i64 0),(.sl true []),(.sl true []),(.sl true [])],none⟩,⟨none,.store .any true 13 (.t 9) (.t 29),none⟩]) (.seq (.reg [⟨some 30,.faddr 4 (.t 9),none⟩,⟨some 31,.load .any false 1 (.t 30),none⟩,⟨some 32,.mv (.t 31),none⟩,⟨some 33,.load .any true 1 (.t 1),some (32,true)⟩,⟨some 34,.faddr 2 (.t 9),some (32,true)⟩,⟨some 35,.load .any false 1 (.t 34),some (32,true)⟩,⟨some 36,.faddr 5 (.t 9),some (32,true)⟩,⟨some 37,.load .any true 8 (.t 36),some (32,true)⟩,⟨some 38,.call .any 65 [(.t 33),(.t 35),(.t 37)],some (32,true)⟩,⟨some 39,.un .not (.t 38),some (32,true)⟩,⟨some 40,.pick (.t 32) (.t 39) (.c (.bool false)),none⟩]) (.cond (.t 40) (.seq (.reg [⟨some 41,.mv (.t 6),none⟩,⟨some 42,.faddr 0 (.t 9),none⟩,⟨some 43,.load .any false 1 (.t 42),none⟩,⟨some 2,.mv (.t 41),none⟩,⟨some 3,.mv (.t 43),none⟩,⟨some 4,.mv (.c (.int .i64 1)),none⟩]) .ret) .skip)))) (.reg [⟨some 44,.bin .add false (.t 26) (.c (.int .i64 1)),none⟩,⟨some 26,.mv (.t 44),none⟩])))
def q3i:C:=.seq (.reg [⟨some 19,.bin .lss false (.t 18) (.t 17),none⟩]) (.seq (.cond (.t 19) .skip (.exit 0)) (.seq (.block 1 (.seq (.reg [⟨some 20,.mv (.t 18),none⟩,⟨some 21,.iaddr 10 (.t 16) (.t 18),none⟩,⟨some 22,.load .any true 10 (.t 21),none⟩,⟨some 7,.alloc [(.int .i64 0),(.str (ByteArray.mk #[])),(.int .i64 0),(.int .i64 0),(.int .i64 0),(.sl true []),(.sl true []),(.int .i64 0),(.int .i64 0),(.bool false)],none⟩,⟨some 6,.mv (.t 20),none⟩,⟨none,.store .any true 10 (.t 7) (.t 22),none⟩]) (.seq (.reg [⟨some 23,.faddr 6 (.t 7),none⟩,⟨some 24,.load .any false 1 (.t 23),none⟩,⟨some 25,.len false (.t 24),none⟩,⟨some 26,.mv (.c (.int .i64 0)),none⟩]) (.block 2 (.loop q13))))) (.reg [⟨some 45,.bin .add false (.t 18) (.c (.int .i64 1)),none⟩,⟨some 18,.mv (.t 45),none⟩])))
def q2p:FnC:=⟨(.seq (.reg [⟨some 1,.box 1 (.t 0),none⟩,⟨some 2,.mv (.c (.int .i64 0)),none⟩,⟨some 3,.mv (.c (.int .i64 0)),none⟩,⟨some 4,.mv (.c (.int .i64 0)),none⟩]) (.seq (.seq (.reg [⟨some 10,.load .any true 1 (.t 1),none⟩,⟨some 11,.call .any 44 [(.t 10)],none⟩,⟨some 5,.mv (.t 11),none⟩]) (.seq (.reg [⟨some 12,.mv (.t 5),none⟩,⟨some 13,.bin .neq false (.t 12) (.c (.int .i64 0)),none⟩]) (.cond (.t 13) (.seq (.reg [⟨some 14,.mv (.t 5),none⟩,⟨some 2,.mv (.c (.int .i64 0)),none⟩,⟨some 3,.mv (.c (.int .i64 0)),none⟩,⟨some 4,.mv (.t 14),none⟩]) .ret) .skip))) (.seq (.seq (.reg [⟨some 15,.faddr 0 (.t 1),none⟩,⟨some 16,.load .any false 1 (.t 15),none⟩,⟨some 17,.len false (.t 16),none⟩,⟨some 18,.mv (.c (.int .i64 0)),none⟩]) (.block 0 (.loop q3i))) (.seq (.reg [⟨some 2,.mv (.c (.int .i64 0)),none⟩,⟨some 3,.mv (.c (.int .i64 0)),none⟩,⟨some 4,.mv (.c (.int .i64 0)),none⟩]) .ret)))),[(.tmp 2),(.tmp 3),(.tmp 4)],1,[]⟩
theorem q8g:FnOk Tryz.prog 45 q2p:=⟨fun xs w=>by kernel_rfl,_,Tryz.func45,by kernel_rfl⟩
def q3v:C:=.seq (.reg [⟨some 55,.bin .lss false (.t 54) (.t 53),none⟩]) (.seq (.cond (.t 55) .skip (.exit 3)) (.seq (.block 4 (.seq (.reg [⟨some 56,.iaddr 13 (.t 52) (.t 54),none⟩,⟨some 57,.load .any true 13 (.t 56),none⟩,⟨some 10,.alloc [(.int .i64 0),(.str (ByteArray.mk #[])),(.int .i64 0),(.bool false),(.bool false),(.int .i64 0),(.bool false),(.int .i64 0),(.str (ByteArray.mk #[])),(.int .i64 0),(.sl true []),(.sl true []),(.sl true [])],none⟩,⟨none,.store .any true 13 (.t 10) (.t 57),none⟩]) (.reg [⟨some 58,.mv (.t 8),none⟩,⟨some 59,.mv (.t 1),none⟩,⟨some 60,.faddr 2 (.t 10),none⟩,⟨some 61,.load .any false 1 (.t 60),none⟩,⟨some 62,.iaddr 1 (.t 59) (.t 61),none⟩,⟨some 63,.load .any false 1 (.t 62),none⟩,⟨some 64,.bin .add false (.t 58) (.t 63),none⟩,⟨some 8,.mv (.t 64),none⟩]))) (.reg [⟨some 65,.bin .add false (.t 54) (.c (.int .i64 1)),none⟩,⟨some 54,.mv (.t 65),none⟩])))
def q3s:C:=.seq (.reg [⟨some 36,.bin .lss false (.t 35) (.t 34),none⟩]) (.seq (.cond (.t 36) .skip (.exit 1)) (.seq (.block 2 (.seq (.reg [⟨some 37,.iaddr 13 (.t 33) (.t 35),none⟩,⟨some 38,.load .any true 13 (.t 37),none⟩,⟨some 7,.alloc [(.int .i64 0),(.str (ByteArray.mk #[])),(.int .i64 0),(.bool false),(.bool false),(.int .i64 0),(.bool false),(.int .i64 0),(.str (ByteArray.mk #[])),(.int .i64 0),(.sl true []),(.sl true []),(.sl true [])],none⟩,⟨none,.store .any true 13 (.t 7) (.t 38),none⟩]) (.reg [⟨some 39,.mv (.t 5),none⟩,⟨some 40,.mv (.t 1),none⟩,⟨some 41,.faddr 2 (.t 7),none⟩,⟨some 42,.load .any false 1 (.t 41),none⟩,⟨some 43,.iaddr 1 (.t 40) (.t 42),none⟩,⟨some 44,.load .any false 1 (.t 43),none⟩,⟨some 45,.bin .mul false (.t 39) (.t 44),none⟩,⟨some 46,.mm false (.c (.int .i64 2)) (.t 45),none⟩,⟨some 5,.mv (.t 46),none⟩]))) (.reg [⟨some 47,.bin .add false (.t 35) (.c (.int .i64 1)),none⟩,⟨some 35,.mv (.t 47),none⟩])))
def q09:FnC:=⟨(.seq (.reg [⟨some 2,.box 10 (.t 0),none⟩,⟨some 4,.mv (.c (.int .i64 0)),none⟩]) (.seq (.seq (.reg [⟨some 11,.faddr 0 (.t 2),none⟩,⟨some 12,.load .any false 1 (.t 11),none⟩]) (.block 0 (.seq (.reg [⟨some 14,.bin .eql false (.t 12) (.c (.int .i64 2)),none⟩,⟨some 13,.mv (.t 14),none⟩]) (.cond (.t 13) (.seq (.reg [⟨some 15,.faddr 2 (.t 2),none⟩,⟨some 16,.load .any false 1 (.t 15),none⟩,⟨some 17,.faddr 3 (.t 2),none⟩,⟨some 18,.load .any false 1 (.t 17),none⟩,⟨some 19,.bin .eql false (.t 16) (.t 18),none⟩]) (.cond (.t 19) (.seq (.reg [⟨some 4,.mv (.c (.int .i64 1)),none⟩]) .ret) .skip)) (.seq (.reg [⟨some 21,.bin .eql false (.t 12) (.c (.int .i64 3)),none⟩,⟨some 20,.mv (.t 21),none⟩]) (.cond (.t 20) (.seq (.reg [⟨some 22,.faddr 4 (.t 2),none⟩,⟨some 23,.load .any false 1 (.t 22),none⟩,⟨some 24,.bin .eql false (.t 23) (.c (.int .i64 0)),none⟩]) (.cond (.t 24) (.seq (.reg [⟨some 4,.mv (.c (.int .i64 1)),none⟩]) .ret) .skip)) (.seq (.reg [⟨some 26,.bin .eql false (.t 12) (.c (.int .i64 4)),none⟩,⟨some 25,.mv (.t 26),none⟩]) (.cond (.t 25) (.seq (.reg [⟨some 27,.faddr 5 (.t 2),none⟩,⟨some 28,.load .any false 1 (.t 27),none⟩,⟨some 29,.len false (.t 28),none⟩,⟨some 4,.mv (.t 29),none⟩]) .ret) (.seq (.reg [⟨some 31,.bin .eql false (.t 12) (.c (.int .i64 5)),none⟩,⟨some 30,.mv (.t 31),none⟩]) (.cond (.t 30) (.seq (.reg [⟨some 5,.mv (.c (.int .i64 1)),none⟩]) (.seq (.seq (.reg [⟨some 32,.faddr 6 (.t 2),none⟩,⟨some 33,.load .any false 1 (.t 32),none⟩,⟨some 34,.len false (.t 33),none⟩,⟨some 35,.mv (.c (.int .i64 0)),none⟩]) (.block 1 (.loop q3s))) (.seq (.reg [⟨some 48,.mv (.t 5),none⟩,⟨some 4,.mv (.t 48),none⟩]) .ret))) (.seq (.reg [⟨some 50,.bin .eql false (.t 12) (.c (.int .i64 6)),none⟩,⟨some 49,.mv (.t 50),none⟩]) (.cond (.t 49) (.seq (.reg [⟨some 8,.mv (.c (.int .i64 0)),none⟩]) (.seq (.seq (.reg [⟨some 51,.faddr 6 (.t 2),none⟩,⟨some 52,.load .any false 1 (.t 51),none⟩,⟨some 53,.len false (.t 52),none⟩,⟨some 54,.mv (.c (.int .i64 0)),none⟩]) (.block 3 (.loop q3v))) (.seq (.reg [⟨some 66,.mv (.t 8),none⟩,⟨some 4,.mv (.t 66),none⟩]) .ret))) (.seq (.reg [⟨some 68,.bin .eql false (.t 12) (.c (.int .i64 7)),none⟩,⟨some 67,.mv (.t 68),none⟩]) (.cond (.t 67) (.seq (.reg [⟨some 69,.faddr 4 (.t 2),none⟩,⟨some 70,.load .any false 1 (.t 69),none⟩,⟨some 71,.bin .eql false (.t 70) (.c (.int .i64 0)),none⟩,⟨some 72,.mv (.t 71),none⟩,⟨some 73,.mv (.t 1),some (72,false)⟩,⟨some 74,.faddr 8 (.t 2),some (72,false)⟩,⟨some 75,.load .any false 1 (.t 74),some (72,false)⟩,⟨some 76,.iaddr 1 (.t 73) (.t 75),some (72,false)⟩,⟨some 77,.load .any false 1 (.t 76),some (72,false)⟩,⟨some 78,.bin .eql false (.t 77) (.c (.int .i64 0)),some (72,false)⟩,⟨some 79,.pick (.t 72) (.c (.bool true)) (.t 78),none⟩]) (.cond (.t 79) (.seq (.reg [⟨some 4,.mv (.c (.int .i64 1)),none⟩]) .ret) .skip)) (.seq (.reg [⟨some 81,.bin .eql false (.t 12) (.c (.int .i64 8)),none⟩,⟨some 80,.mv (.t 81),none⟩]) (.cond (.t 80) (.seq (.reg [⟨some 82,.faddr 4 (.t 2),none⟩,⟨some 83,.load .any false 1 (.t 82),none⟩,⟨some 84,.bin .eql false (.t 83) (.c (.int .i64 0)),none⟩,⟨some 85,.mv (.t 84),none⟩,⟨some 86,.mv (.t 1),some (85,false)⟩,⟨some 87,.faddr 8 (.t 2),some (85,false)⟩,⟨some 88,.load .any false 1 (.t 87),some (85,false)⟩,⟨some 89,.iaddr 1 (.t 86) (.t 88),some (85,false)⟩,⟨some 90,.load .any false 1 (.t 89),some (85,false)⟩,⟨some 91,.bin .eql false (.t 90) (.c (.int .i64 0)),some (85,false)⟩,⟨some 92,.pick (.t 85) (.c (.bool true)) (.t 91),none⟩,⟨some 93,.mv (.t 92),none⟩,⟨some 94,.mv (.t 1),some (93,false)⟩,⟨some 95,.faddr 7 (.t 2),some (93,false)⟩,⟨some 96,.load .any false 1 (.t 95),some (93,false)⟩,⟨some 97,.iaddr 1 (.t 94) (.t 96),some (93,false)⟩,⟨some 98,.load .any false 1 (.t 97),some (93,false)⟩,⟨some 99,.bin .eql false (.t 98) (.c (.int .i64 0)),some (93,false)⟩,⟨some 100,.pick (.t 93) (.c (.bool true)) (.t 99),none⟩]) (.cond (.t 100) (.seq (.reg [⟨some 4,.mv (.c (.int .i64 1)),none⟩]) .ret) .skip)) (.seq (.reg [⟨some 102,.bin .eql false (.t 12) (.c (.int .i64 9)),none⟩,⟨some 101,.mv (.t 102),none⟩]) (.cond (.t 101) (.seq (.reg [⟨some 103,.mv (.t 1),none⟩,⟨some 104,.faddr 8 (.t 2),none⟩,⟨some 105,.load .any false 1 (.t 104),none⟩,⟨some 106,.iaddr 1 (.t 103) (.t 105),none⟩,⟨some 107,.load .any false 1 (.t 106),none⟩,⟨some 108,.bin .add false (.c (.int .i64 1)) (.t 107),none⟩,⟨some 4,.mv (.t 108),none⟩]) .ret) .skip)))))))))))))))))) (.seq (.reg [⟨some 4,.mv (.c (.int .i64 2)),none⟩]) .ret))),[(.tmp 4)],2,[]⟩
theorem q90:FnOk Tryz.prog 46 q09:=⟨fun xs w=>by kernel_rfl,_,Tryz.func46,by kernel_rfl⟩
def q4e:C:=.seq (.seq (.reg [⟨some 53,.mv (.t 8),none⟩,⟨some 54,.faddr 6 (.t 2),none⟩,⟨some 55,.load .any false 1 (.t 54),none⟩,⟨some 56,.len false (.t 55),none⟩,⟨some 57,.bin .lss false (.t 53) (.t 56),none⟩]) (.cond (.t 57) .skip (.exit 3))) (.seq (.block 4 (.reg [⟨some 60,.mv (.t 7),none⟩,⟨some 61,.mv (.t 1),none⟩,⟨some 62,.faddr 6 (.t 2),none⟩,⟨some 63,.load .any false 1 (.t 62),none⟩,⟨some 64,.mv (.t 8),none⟩,⟨some 65,.iaddr 13 (.t 63) (.t 64),none⟩,⟨some 66,.faddr 2 (.t 65),none⟩,⟨some 67,.load .any false 1 (.t 66),none⟩,⟨some 68,.iaddr 1 (.t 61) (.t 67),none⟩,⟨some 69,.load .any false 1 (.t 68),none⟩,⟨some 70,.bin .add false (.t 60) (.t 69),none⟩,⟨some 71,.mm false (.c (.int .i64 2)) (.t 70),none⟩,⟨some 7,.mv (.t 71),none⟩])) (.reg [⟨some 58,.mv (.t 8),none⟩,⟨some 59,.bin .add false (.t 58) (.c (.int .i64 1)),none⟩,⟨some 8,.mv (.t 59),none⟩]))
def q4i:C:=.seq (.seq (.reg [⟨some 31,.mv (.t 6),none⟩,⟨some 32,.faddr 6 (.t 2),none⟩,⟨some 33,.load .any false 1 (.t 32),none⟩,⟨some 34,.len false (.t 33),none⟩,⟨some 35,.bin .lss false (.t 31) (.t 34),none⟩]) (.cond (.t 35) .skip (.exit 1))) (.seq (.block 2 (.reg [⟨some 38,.mv (.t 5),none⟩,⟨some 39,.mv (.t 1),none⟩,⟨some 40,.faddr 6 (.t 2),none⟩,⟨some 41,.load .any false 1 (.t 40),none⟩,⟨some 42,.mv (.t 6),none⟩,⟨some 43,.iaddr 13 (.t 41) (.t 42),none⟩,⟨some 44,.faddr 2 (.t 43),none⟩,⟨some 45,.load .any false 1 (.t 44),none⟩,⟨some 46,.iaddr 1 (.t 39) (.t 45),none⟩,⟨some 47,.load .any false 1 (.t 46),none⟩,⟨some 48,.bin .mul false (.t 38) (.t 47),none⟩,⟨some 49,.mm false (.c (.int .i64 2)) (.t 48),none⟩,⟨some 5,.mv (.t 49),none⟩])) (.reg [⟨some 36,.mv (.t 6),none⟩,⟨some 37,.bin .add false (.t 36) (.c (.int .i64 1)),none⟩,⟨some 6,.mv (.t 37),none⟩]))
def q0e:FnC:=⟨(.seq (.reg [⟨some 2,.box 10 (.t 0),none⟩,⟨some 4,.mv (.c (.int .i64 0)),none⟩]) (.seq (.seq (.reg [⟨some 9,.faddr 0 (.t 2),none⟩,⟨some 10,.load .any false 1 (.t 9),none⟩]) (.block 0 (.seq (.reg [⟨some 12,.bin .eql false (.t 10) (.c (.int .i64 2)),none⟩,⟨some 11,.mv (.t 12),none⟩]) (.cond (.t 11) (.seq (.reg [⟨some 13,.faddr 2 (.t 2),none⟩,⟨some 14,.load .any false 1 (.t 13),none⟩,⟨some 15,.faddr 3 (.t 2),none⟩,⟨some 16,.load .any false 1 (.t 15),none⟩,⟨some 17,.bin .eql false (.t 14) (.t 16),none⟩]) (.cond (.t 17) (.seq (.reg [⟨some 4,.mv (.c (.int .i64 1)),none⟩]) .ret) .skip)) (.seq (.reg [⟨some 19,.bin .eql false (.t 10) (.c (.int .i64 3)),none⟩,⟨some 18,.mv (.t 19),none⟩]) (.cond (.t 18) (.seq (.reg [⟨some 20,.faddr 4 (.t 2),none⟩,⟨some 21,.load .any false 1 (.t 20),none⟩,⟨some 22,.bin .eql false (.t 21) (.c (.int .i64 0)),none⟩]) (.cond (.t 22) (.seq (.reg [⟨some 4,.mv (.c (.int .i64 1)),none⟩]) .ret) .skip)) (.seq (.reg [⟨some 24,.bin .eql false (.t 10) (.c (.int .i64 4)),none⟩,⟨some 23,.mv (.t 24),none⟩]) (.cond (.t 23) (.seq (.reg [⟨some 25,.faddr 5 (.t 2),none⟩,⟨some 26,.load .any false 1 (.t 25),none⟩,⟨some 27,.len false (.t 26),none⟩,⟨some 28,.mm false (.c (.int .i64 2)) (.t 27),none⟩,⟨some 4,.mv (.t 28),none⟩]) .ret) (.seq (.reg [⟨some 30,.bin .eql false (.t 10) (.c (.int .i64 5)),none⟩,⟨some 29,.mv (.t 30),none⟩]) (.cond (.t 29) (.seq (.reg [⟨some 5,.mv (.c (.int .i64 1)),none⟩]) (.seq (.seq (.reg [⟨some 6,.mv (.c (.int .i64 0)),none⟩]) (.block 1 (.loop q4i))) (.seq (.reg [⟨some 50,.mv (.t 5),none⟩,⟨some 4,.mv (.t 50),none⟩]) .ret))) (.seq (.reg [⟨some 52,.bin .eql false (.t 10) (.c (.int .i64 6)),none⟩,⟨some 51,.mv (.t 52),none⟩]) (.cond (.t 51) (.seq (.reg [⟨some 7,.mv (.c (.int .i64 0)),none⟩]) (.seq (.seq (.reg [⟨some 8,.mv (.c (.int .i64 0)),none⟩]) (.block 3 (.loop q4e))) (.seq (.reg [⟨some 72,.mv (.t 7),none⟩,⟨some 4,.mv (.t 72),none⟩]) .ret))) (.seq (.seq (.reg [⟨some 74,.bin .eql false (.t 10) (.c (.int .i64 7)),none⟩,⟨some 73,.mv (.t 74),none⟩]) (.cond (.t 73) .skip (.reg [⟨some 75,.bin .eql false (.t 10) (.c (.int .i64 8)),none⟩,⟨some 73,.mv (.t 75),none⟩]))) (.cond (.t 73) (.seq (.reg [⟨some 76,.faddr 4 (.t 2),none⟩,⟨some 77,.load .any false 1 (.t 76),none⟩,⟨some 78,.bin .eql false (.t 77) (.c (.int .i64 0)),none⟩,⟨some 79,.mv (.t 78),none⟩,⟨some 80,.mv (.t 1),some (79,false)⟩,⟨some 81,.faddr 8 (.t 2),some (79,false)⟩,⟨some 82,.load .any false 1 (.t 81),some (79,false)⟩,⟨some 83,.iaddr 1 (.t 80) (.t 82),some (79,false)⟩,⟨some 84,.load .any false 1 (.t 83),some (79,false)⟩,⟨some 85,.bin .eql false (.t 84) (.c (.int .i64 0)),some (79,false)⟩,⟨some 86,.pick (.t 79) (.c (.bool true)) (.t 85),none⟩]) (.cond (.t 86) (.seq (.reg [⟨some 4,.mv (.c (.int .i64 1)),none⟩]) .ret) .skip)) (.seq (.reg [⟨some 88,.bin .eql false (.t 10) (.c (.int .i64 9)),none⟩,⟨some 87,.mv (.t 88),none⟩]) (.cond (.t 87) (.seq (.reg [⟨some 89,.mv (.t 1),none⟩,⟨some 90,.faddr 8 (.t 2),none⟩,⟨some 91,.load .any false 1 (.t 90),none⟩,⟨some 92,.iaddr 1 (.t 89) (.t 91),none⟩,⟨some 93,.load .any false 1 (.t 92),none⟩,⟨some 94,.bin .add false (.c (.int .i64 1)) (.t 93),none⟩,⟨some 95,.mm false (.c (.int .i64 2)) (.t 94),none⟩,⟨some 4,.mv (.t 95),none⟩]) .ret) .skip)))))))))))))))) (.seq (.reg [⟨some 4,.mv (.c (.int .i64 2)),none⟩]) .ret))),[(.tmp 4)],2,[]⟩
theorem ok_ref11_count:FnOk Tryz.prog 47 q0e:=⟨fun xs w=>by kernel_rfl,_,Tryz.func47,by kernel_rfl⟩
noncomputable def q5p:FnC:=(q25 Go.Proofs.Tryz.prog [] Go.Proofs.Tryz.f48).getD ⟨.skip,[],0,[]⟩
theorem q7B:FnOk Tryz.prog 48 q5p:=⟨fun xs w=>by kernel_rfl,_,Tryz.func48,by kernel_rfl⟩
noncomputable def q65:FnC:=(q25 Go.Proofs.Tryz.prog [] Go.Proofs.Tryz.f49).getD ⟨.skip,[],0,[]⟩
theorem q8r:FnOk Tryz.prog 49 q65:=⟨fun xs w=>by kernel_rfl,_,Tryz.func49,by kernel_rfl⟩
def q52:FnC:=⟨(.seq (.reg [⟨some 2,.box 1 (.t 0),none⟩,⟨some 4,.mv (.c (.int .i64 0)),none⟩]) (.seq (.reg [⟨some 5,.faddr 0 (.t 2),none⟩,⟨some 6,.load .any false 1 (.t 5),none⟩,⟨some 7,.mv (.t 1),none⟩,⟨some 8,.iaddr 5 (.t 6) (.t 7),none⟩,⟨some 9,.faddr 0 (.t 8),none⟩,⟨some 10,.load .any false 1 (.t 9),none⟩,⟨some 11,.bin .rem false (.t 10) (.c (.int .u8 9)),none⟩,⟨some 12,.conv (.some .i64) (.t 11),none⟩,⟨some 13,.bin .add false (.c (.int .i64 1)) (.t 12),none⟩,⟨some 4,.mv (.t 13),none⟩]) .ret)),[(.tmp 4)],2,[]⟩
theorem ok_ref07_kind:FnOk Tryz.prog 51 q52:=⟨fun xs w=>by kernel_rfl,_,Tryz.func51,by kernel_rfl⟩
def q4q:FnC:=⟨(.seq (.reg [⟨some 2,.mv (.c (.bool false)),none⟩]) (.seq (.reg [⟨some 3,.mv (.t 0),none⟩,⟨some 4,.bin .eql false (.t 3) (.c (.int .i64 4)),none⟩,⟨some 5,.mv (.t 4),none⟩,⟨some 6,.mv (.t 0),some (5,false)⟩,⟨some 7,.bin .eql false (.t 6) (.c (.int .i64 5)),some (5,false)⟩,⟨some 8,.pick (.t 5) (.c (.bool true)) (.t 7),none⟩,⟨some 9,.mv (.t 8),none⟩,⟨some 10,.mv (.t 0),some (9,false)⟩,⟨some 11,.bin .eql false (.t 10) (.c (.int .i64 6)),some (9,false)⟩,⟨some 12,.pick (.t 9) (.c (.bool true)) (.t 11),none⟩,⟨some 2,.mv (.t 12),none⟩]) .ret)),[(.tmp 2)],1,[]⟩
theorem ok_ref07_Named:FnOk Tryz.prog 52 q4q:=⟨fun xs w=>by kernel_rfl,_,Tryz.func52,by kernel_rfl⟩
def q5F:FnC:=⟨(.seq (.reg [⟨some 1,.box 5 (.t 0),none⟩,⟨some 2,.mv (.c (.int .i64 0)),none⟩]) (.seq (.reg [⟨some 3,.faddr 1 (.t 1),none⟩,⟨some 4,.load .any false 1 (.t 3),none⟩,⟨some 5,.bin .rem false (.t 4) (.c (.int .u8 7)),none⟩,⟨some 6,.conv (.some .i64) (.t 5),none⟩,⟨some 7,.bin .sub false (.t 6) (.c (.int .i64 3)),none⟩,⟨some 2,.mv (.t 7),none⟩]) .ret)),[(.tmp 2)],1,[]⟩
theorem ok_ref07_low:FnOk Tryz.prog 53 q5F:=⟨fun xs w=>by kernel_rfl,_,Tryz.func53,by kernel_rfl⟩
def q5c:FnC:=⟨(.seq (.reg [⟨some 1,.box 5 (.t 0),none⟩,⟨some 2,.mv (.c (.int .i64 0)),none⟩]) (.seq (.reg [⟨some 3,.load .any true 5 (.t 1),none⟩,⟨some 4,.call .any 53 [(.t 3)],none⟩,⟨some 5,.faddr 2 (.t 1),none⟩,⟨some 6,.load .any false 1 (.t 5),none⟩,⟨some 7,.bin .rem false (.t 6) (.c (.int .u8 6)),none⟩,⟨some 8,.conv (.some .i64) (.t 7),none⟩,⟨some 9,.bin .add false (.t 4) (.t 8),none⟩,⟨some 2,.mv (.t 9),none⟩]) .ret)),[(.tmp 2)],1,[]⟩
theorem ok_ref07_high:FnOk Tryz.prog 54 q5c:=⟨fun xs w=>by kernel_rfl,_,Tryz.func54,by kernel_rfl⟩
def q32:C:=.seq (.seq (.reg [⟨some 5,.mv (.t 4),none⟩,⟨some 6,.bin .lss false (.t 5) (.c (.int .i64 6)),none⟩]) (.cond (.t 6) .skip (.exit 0))) (.seq (.block 1 (.seq (.reg [⟨some 9,.faddr 1 (.t 1),none⟩,⟨some 10,.load .any false 1 (.t 9),none⟩,⟨some 11,.mv (.t 4),none⟩,⟨some 12,.bin .shr false (.t 10) (.t 11),none⟩,⟨some 13,.bin .rem false (.t 12) (.c (.int .u8 2)),none⟩,⟨some 14,.bin .eql false (.t 13) (.c (.int .u8 1)),none⟩]) (.cond (.t 14) (.reg [⟨some 15,.mv (.t 3),none⟩,⟨some 16,.mv (.t 4),none⟩,⟨some 17,.bin .add false (.t 16) (.c (.int .i64 1)),none⟩,⟨some 18,.bsl [(.int .i64 0)] 1 [(0,(.t 17))],none⟩,⟨some 19,.app .any 3 1 8 (.t 15) (.t 18),none⟩,⟨some 3,.mv (.t 19),none⟩]) .skip))) (.reg [⟨some 7,.mv (.t 4),none⟩,⟨some 8,.bin .add false (.t 7) (.c (.int .i64 1)),none⟩,⟨some 4,.mv (.t 8),none⟩]))
def q5W:FnC:=⟨(.seq (.reg [⟨some 1,.box 5 (.t 0),none⟩,⟨some 2,.mv (.c (.sl true [])),none⟩]) (.seq (.reg [⟨some 3,.mv (.c (.sl true [])),none⟩]) (.seq (.seq (.reg [⟨some 4,.mv (.c (.int .i64 0)),none⟩]) (.block 0 (.loop q32))) (.seq (.seq (.reg [⟨some 20,.mv (.t 3),none⟩,⟨some 21,.len false (.t 20),none⟩,⟨some 22,.bin .eql false (.t 21) (.c (.int .i64 0)),none⟩]) (.cond (.t 22) (.reg [⟨some 23,.mv (.t 3),none⟩,⟨some 24,.bsl [(.int .i64 0)] 1 [(0,(.c (.int .i64 1)))],none⟩,⟨some 25,.app .any 3 1 8 (.t 23) (.t 24),none⟩,⟨some 3,.mv (.t 25),none⟩]) .skip)) (.seq (.reg [⟨some 26,.mv (.t 3),none⟩,⟨some 2,.mv (.t 26),none⟩]) .ret))))),[(.tmp 2)],1,[]⟩
theorem ok_ref07_ids:FnOk Tryz.prog 55 q5W:=⟨fun xs w=>by kernel_rfl,_,Tryz.func55,by kernel_rfl⟩
def q0o:C:=.seq (.seq (.reg [⟨some 23,.mv (.t 10),none⟩,⟨some 24,.faddr 4 (.t 7),none⟩,⟨some 25,.load .any false 1 (.t 24),none⟩,⟨some 26,.len false (.t 25),none⟩,⟨some 27,.bin .lss false (.t 23) (.t 26),none⟩]) (.cond (.t 27) .skip (.exit 2))) (.seq (.block 3 (.seq (.reg [⟨some 30,.faddr 4 (.t 7),none⟩,⟨some 31,.load .any false 1 (.t 30),none⟩,⟨some 32,.mv (.t 10),none⟩,⟨some 33,.iaddr 3 (.t 31) (.t 32),none⟩,⟨some 34,.load .any true 3 (.t 33),none⟩,⟨some 11,.alloc [(.int .u8 0),(.int .u8 0),(.int .u8 0)],none⟩,⟨none,.store .any true 3 (.t 11) (.t 34),none⟩]) (.seq (.reg [⟨some 35,.load .any true 1 (.t 3),none⟩,⟨some 36,.mv (.t 1),none⟩,⟨some 37,.faddr 1 (.t 11),none⟩,⟨some 38,.load .any false 1 (.t 37),none⟩,⟨some 39,.call .any 70 [(.t 35),(.t 36),(.t 38)],none⟩,⟨some 12,.mv (.t 39),none⟩]) (.seq (.seq (.reg [⟨some 40,.faddr 0 (.t 11),none⟩,⟨some 41,.load .any false 1 (.t 40),none⟩,⟨some 42,.bin .rem false (.t 41) (.c (.int .u8 12)),none⟩,⟨some 43,.conv (.some .i64) (.t 42),none⟩,⟨some 44,.bin .add false (.c (.int .i64 1)) (.t 43),none⟩,⟨some 45,.mv (.t 9),none⟩,⟨some 46,.bin .neq false (.t 44) (.t 45),none⟩,⟨some 47,.mv (.t 46),none⟩,⟨some 48,.mv (.t 12),some (47,false)⟩,⟨some 49,.bin .lss false (.t 48) (.c (.int .i64 0)),some (47,false)⟩,⟨some 50,.pick (.t 47) (.c (.bool true)) (.t 49),none⟩]) (.cond (.t 50) (.exit 3) .skip)) (.seq (.reg [⟨some 51,.mv (.t 9),none⟩,⟨some 52,.mv (.t 9),none⟩,⟨some 53,.bin .add false (.c (.int .i64 97)) (.t 52),none⟩,⟨some 54,.conv (.some .i32) (.t 53),none⟩,⟨some 55,.rstr (.t 54),none⟩,⟨some 56,.bin .add false (.c (.str (ByteArray.mk #[109]))) (.t 55),none⟩,⟨some 57,.mv (.t 12),none⟩,⟨some 58,.build [(.int .i64 0),(.str (ByteArray.mk #[])),(.int .i64 0),(.bool false),(.bool false),(.int .i64 0),(.bool false),(.int .i64 0),(.str (ByteArray.mk #[])),(.int .i64 0),(.sl true []),(.sl true []),(.sl true [])] [(0,(1,(.t 51))),(1,(1,(.t 56))),(2,(1,(.t 57)))],none⟩,⟨some 13,.alloc [(.int .i64 0),(.str (ByteArray.mk #[])),(.int .i64 0),(.bool false),(.bool false),(.int .i64 0),(.bool false),(.int .i64 0),(.str (ByteArray.mk #[])),(.int .i64 0),(.sl true []),(.sl true []),(.sl true [])],none⟩,⟨none,.store .any true 13 (.t 13) (.t 58),none⟩]) (.seq (.seq (.reg [⟨some 59,.mv (.t 2),none⟩,⟨some 60,.mv (.t 59),none⟩,⟨some 61,.faddr 2 (.t 11),some (60,true)⟩,⟨some 62,.load .any false 1 (.t 61),some (60,true)⟩,⟨some 63,.bin .rem false (.t 62) (.c (.int .u8 4)),some (60,true)⟩,⟨some 64,.bin .eql false (.t 63) (.c (.int .u8 1)),some (60,true)⟩,⟨some 65,.pick (.t 60) (.t 64) (.c (.bool false)),none⟩]) (.cond (.t 65) (.reg [⟨some 66,.faddr 3 (.t 13),none⟩,⟨none,.store .any false 1 (.t 66) (.c (.bool true)),none⟩]) .skip)) (.seq (.seq (.reg [⟨some 67,.mv (.t 2),none⟩,⟨some 68,.mv (.t 67),none⟩,⟨some 69,.faddr 2 (.t 11),some (68,true)⟩,⟨some 70,.load .any false 1 (.t 69),some (68,true)⟩,⟨some 71,.bin .rem false (.t 70) (.c (.int .u8 4)),some (68,true)⟩,⟨some 72,.bin .geq false (.t 71) (.c (.int .u8 2)),some (68,true)⟩,⟨some 73,.pick (.t 68) (.t 72) (.c (.bool false)),none⟩]) (.cond (.t 73) (.reg [⟨some 75,.load .any true 1 (.t 3),none⟩,⟨some 76,.mv (.t 12),none⟩,⟨some 77,.faddr 2 (.t 11),none⟩,⟨some 78,.load .any false 1 (.t 77),none⟩,⟨some 79,.bin .quo false (.t 78) (.c (.int .u8 4)),none⟩,⟨some 80,.call .any 71 [(.t 75),(.t 76),(.t 79)],none⟩,⟨some 74,.mv (.t 80),none⟩,⟨some 81,.ext (.t 74) 0,none⟩,⟨some 82,.ext (.t 74) 1,none⟩,⟨some 83,.faddr 5 (.t 13),none⟩,⟨none,.store .any true 8 (.t 83) (.t 81),none⟩,⟨some 84,.faddr 4 (.t 13),none⟩,⟨none,.store .any false 1 (.t 84) (.t 82),none⟩]) .skip)) (.seq (.reg [⟨some 85,.mv (.t 8),none⟩,⟨some 86,.load .any true 13 (.t 13),none⟩,⟨some 87,.bsl [(.int .i64 0),(.str (ByteArray.mk #[])),(.int .i64 0),(.bool false),(.bool false),(.int .i64 0),(.bool false),(.int .i64 0),(.str (ByteArray.mk #[])),(.int .i64 0),(.sl true []),(.sl true []),(.sl true [])] 1 [(0,(.t 86))],none⟩,⟨some 88,.appm .any 64 13 160 (.t 85) (.t 87),none⟩,⟨some 8,.mv (.t 88),none⟩]) (.exit 2))))))))) (.reg [⟨some 28,.mv (.t 10),none⟩,⟨some 29,.bin .add false (.t 28) (.c (.int .i64 1)),none⟩,⟨some 10,.mv (.t 29),none⟩]))
def q4f:C:=.seq (.seq (.reg [⟨some 19,.mv (.t 9),none⟩,⟨some 20,.bin .leq false (.t 19) (.c (.int .i64 12)),none⟩]) (.cond (.t 20) .skip (.exit 0))) (.seq (.block 1 (.seq (.reg [⟨some 10,.mv (.c (.int .i64 0)),none⟩]) (.block 2 (.loop q0o)))) (.reg [⟨some 21,.mv (.t 9),none⟩,⟨some 22,.bin .add false (.t 21) (.c (.int .i64 1)),none⟩,⟨some 9,.mv (.t 22),none⟩]))
def q4t:FnC:=⟨(.seq (.reg [⟨some 3,.box 1 (.t 0),none⟩,⟨some 6,.mv (.c (.sl true [])),none⟩]) (.seq (.reg [⟨some 14,.faddr 0 (.t 3),none⟩,⟨some 15,.load .any false 1 (.t 14),none⟩,⟨some 16,.mv (.t 1),none⟩,⟨some 17,.iaddr 5 (.t 15) (.t 16),none⟩,⟨some 18,.load .any true 5 (.t 17),none⟩,⟨some 7,.alloc [(.int .u8 0),(.int .u8 0),(.int .u8 0),(.int .u8 0),(.sl true [])],none⟩,⟨none,.store .any true 5 (.t 7) (.t 18),none⟩]) (.seq (.reg [⟨some 8,.mv (.c (.sl true [])),none⟩]) (.seq (.seq (.reg [⟨some 9,.mv (.c (.int .i64 1)),none⟩]) (.block 0 (.loop q4f))) (.seq (.reg [⟨some 89,.mv (.t 8),none⟩,⟨some 6,.mv (.t 89),none⟩]) .ret))))),[(.tmp 6)],3,[177]⟩
theorem ok_ref07_parts:FnOk Tryz.prog 56 q4t:=⟨fun xs w=>by kernel_rfl,_,Tryz.func56,by kernel_rfl⟩
def q3Y:C:=.seq (.seq (.reg [⟨some 11,.mv (.t 6),none⟩,⟨some 12,.mv (.t 5),none⟩,⟨some 13,.bin .lss false (.t 11) (.t 12),none⟩]) (.cond (.t 13) .skip (.exit 0))) (.seq (.block 1 (.seq (.reg [⟨some 16,.mv (.t 1),none⟩,⟨some 17,.conv (.some .i64) (.t 16),none⟩,⟨some 18,.mv (.t 6),none⟩,⟨some 19,.bin .add false (.t 17) (.t 18),none⟩,⟨some 20,.mv (.t 5),none⟩,⟨some 21,.bin .rem false (.t 19) (.t 20),none⟩,⟨some 7,.mv (.t 21),none⟩]) (.seq (.reg [⟨some 22,.load .any true 1 (.t 2),none⟩,⟨some 23,.mv (.t 7),none⟩,⟨some 24,.call .any 51 [(.t 22),(.t 23)],none⟩,⟨some 25,.call .any 61 [(.t 24)],none⟩]) (.cond (.t 25) (.seq (.reg [⟨some 26,.mv (.t 7),none⟩,⟨some 4,.mv (.t 26),none⟩]) .ret) .skip)))) (.reg [⟨some 14,.mv (.t 6),none⟩,⟨some 15,.bin .add false (.t 14) (.c (.int .i64 1)),none⟩,⟨some 6,.mv (.t 15),none⟩]))
def q5J:FnC:=⟨(.seq (.reg [⟨some 2,.box 1 (.t 0),none⟩,⟨some 4,.mv (.c (.int .i64 0)),none⟩]) (.seq (.reg [⟨some 8,.faddr 0 (.t 2),none⟩,⟨some 9,.load .any false 1 (.t 8),none⟩,⟨some 10,.len false (.t 9),none⟩,⟨some 5,.mv (.t 10),none⟩]) (.seq (.seq (.reg [⟨some 6,.mv (.c (.int .i64 0)),none⟩]) (.block 0 (.loop q3Y))) (.seq (.reg [⟨some 4,.mv (.c (.int .i64 (-1))),none⟩]) .ret)))),[(.tmp 4)],2,[]⟩
theorem ok_ref07_key:FnOk Tryz.prog 57 q5J:=⟨fun xs w=>by kernel_rfl,_,Tryz.func57,by kernel_rfl⟩
def q1p:C:=.seq (.seq (.reg [⟨some 11,.mv (.t 5),none⟩,⟨some 12,.mv (.t 0),none⟩,⟨some 13,.len false (.t 12),none⟩,⟨some 14,.bin .lss false (.t 11) (.t 13),none⟩]) (.cond (.t 14) .skip (.exit 0))) (.seq (.block 1 (.seq (.reg [⟨some 17,.mv (.t 0),none⟩,⟨some 18,.mv (.t 5),none⟩,⟨some 19,.iaddr 8 (.t 17) (.t 18),none⟩,⟨some 20,.load .any true 8 (.t 19),none⟩,⟨some 21,.mv (.t 1),none⟩,⟨some 22,.mv (.t 5),none⟩,⟨some 23,.iaddr 8 (.t 21) (.t 22),none⟩,⟨some 24,.load .any true 8 (.t 23),none⟩,⟨some 25,.call .any 41 [(.t 20),(.t 24)],none⟩,⟨some 26,.un .not (.t 25),none⟩]) (.cond (.t 26) (.seq (.reg [⟨some 4,.mv (.c (.bool false)),none⟩]) .ret) .skip))) (.reg [⟨some 15,.mv (.t 5),none⟩,⟨some 16,.bin .add false (.t 15) (.c (.int .i64 1)),none⟩,⟨some 5,.mv (.t 16),none⟩]))
def q1W:FnC:=⟨(.seq (.reg [⟨some 4,.mv (.c (.bool false)),none⟩]) (.seq (.seq (.reg [⟨some 6,.mv (.t 0),none⟩,⟨some 7,.len false (.t 6),none⟩,⟨some 8,.mv (.t 1),none⟩,⟨some 9,.len false (.t 8),none⟩,⟨some 10,.bin .neq false (.t 7) (.t 9),none⟩]) (.cond (.t 10) (.seq (.reg [⟨some 4,.mv (.c (.bool false)),none⟩]) .ret) .skip)) (.seq (.seq (.reg [⟨some 5,.mv (.c (.int .i64 0)),none⟩]) (.block 0 (.loop q1p))) (.seq (.reg [⟨some 4,.mv (.c (.bool true)),none⟩]) .ret)))),[(.tmp 4)],2,[]⟩
theorem q7d:FnOk Tryz.prog 58 q1W:=⟨fun xs w=>by kernel_rfl,_,Tryz.func58,by kernel_rfl⟩
def q0a:FnC:=⟨(.seq (.reg [⟨some 1,.box 10 (.t 0),none⟩,⟨some 2,.mv (.c (.bool false)),none⟩]) (.seq (.seq (.reg [⟨some 3,.faddr 0 (.t 1),none⟩,⟨some 4,.load .any false 1 (.t 3),none⟩,⟨some 5,.bin .lss false (.t 4) (.c (.int .i64 1)),none⟩,⟨some 6,.mv (.t 5),none⟩,⟨some 7,.faddr 0 (.t 1),some (6,false)⟩,⟨some 8,.load .any false 1 (.t 7),some (6,false)⟩,⟨some 9,.bin .gtr false (.t 8) (.c (.int .i64 9)),some (6,false)⟩,⟨some 10,.pick (.t 6) (.c (.bool true)) (.t 9),none⟩,⟨some 11,.mv (.t 10),none⟩,⟨some 12,.load .any true 10 (.t 1),some (11,false)⟩,⟨some 13,.load .any true 10 (.t 1),some (11,false)⟩,⟨some 14,.call .any 73 [(.t 13)],some (11,false)⟩,⟨some 15,.call .any 72 [(.t 12),(.t 14)],some (11,false)⟩,⟨some 16,.un .not (.t 15),some (11,false)⟩,⟨some 17,.pick (.t 11) (.c (.bool true)) (.t 16),none⟩,⟨some 18,.mv (.t 17),none⟩,⟨some 19,.faddr 0 (.t 1),some (18,false)⟩,⟨some 20,.load .any false 1 (.t 19),some (18,false)⟩,⟨some 21,.call .any 52 [(.t 20)],some (18,false)⟩,⟨some 22,.mv (.t 21),some (18,false)⟩,⟨some 23,.faddr 1 (.t 1),some (22,true)⟩,⟨some 24,.load .any false 1 (.t 23),some (22,true)⟩,⟨some 25,.call .any 74 [(.t 24)],some (22,true)⟩,⟨some 26,.un .not (.t 25),some (22,true)⟩,⟨some 27,.pick (.t 22) (.t 26) (.c (.bool false)),some (18,false)⟩,⟨some 28,.pick (.t 18) (.c (.bool true)) (.t 27),none⟩]) (.cond (.t 28) (.seq (.reg [⟨some 2,.mv (.c (.bool false)),none⟩]) .ret) .skip)) (.seq (.seq (.reg [⟨some 29,.faddr 0 (.t 1),none⟩,⟨some 30,.load .any false 1 (.t 29),none⟩]) (.block 0 (.seq (.reg [⟨some 32,.bin .eql false (.t 30) (.c (.int .i64 2)),none⟩,⟨some 31,.mv (.t 32),none⟩]) (.cond (.t 31) (.seq (.reg [⟨some 33,.faddr 2 (.t 1),none⟩,⟨some 34,.load .any false 1 (.t 33),none⟩,⟨some 35,.faddr 3 (.t 1),none⟩,⟨some 36,.load .any false 1 (.t 35),none⟩,⟨some 37,.bin .leq false (.t 34) (.t 36),none⟩,⟨some 2,.mv (.t 37),none⟩]) .ret) (.seq (.reg [⟨some 39,.bin .eql false (.t 30) (.c (.int .i64 3)),none⟩,⟨some 38,.mv (.t 39),none⟩]) (.cond (.t 38) (.seq (.reg [⟨some 40,.faddr 4 (.t 1),none⟩,⟨some 41,.load .any false 1 (.t 40),none⟩,⟨some 42,.bin .geq false (.t 41) (.c (.int .i64 0)),none⟩,⟨some 43,.mv (.t 42),none⟩,⟨some 44,.faddr 4 (.t 1),some (43,true)⟩,⟨some 45,.load .any false 1 (.t 44),some (43,true)⟩,⟨some 46,.bin .leq false (.t 45) (.c (.int .i64 200)),some (43,true)⟩,⟨some 47,.pick (.t 43) (.t 46) (.c (.bool false)),none⟩,⟨some 2,.mv (.t 47),none⟩]) .ret) (.seq (.reg [⟨some 49,.bin .eql false (.t 30) (.c (.int .i64 4)),none⟩,⟨some 48,.mv (.t 49),none⟩]) (.cond (.t 48) (.seq (.reg [⟨some 50,.faddr 5 (.t 1),none⟩,⟨some 51,.load .any false 1 (.t 50),none⟩,⟨some 52,.call .any 75 [(.t 51)],none⟩,⟨some 2,.mv (.t 52),none⟩]) .ret) (.seq (.seq (.reg [⟨some 54,.bin .eql false (.t 30) (.c (.int .i64 5)),none⟩,⟨some 53,.mv (.t 54),none⟩]) (.cond (.t 53) .skip (.reg [⟨some 55,.bin .eql false (.t 30) (.c (.int .i64 6)),none⟩,⟨some 53,.mv (.t 55),none⟩]))) (.cond (.t 53) (.seq (.reg [⟨some 56,.faddr 6 (.t 1),none⟩,⟨some 57,.load .any false 1 (.t 56),none⟩,⟨some 58,.faddr 0 (.t 1),none⟩,⟨some 59,.load .any false 1 (.t 58),none⟩,⟨some 60,.bin .eql false (.t 59) (.c (.int .i64 5)),none⟩,⟨some 61,.call .any 76 [(.t 57),(.t 60)],none⟩,⟨some 2,.mv (.t 61),none⟩]) .ret) (.seq (.seq (.reg [⟨some 63,.bin .eql false (.t 30) (.c (.int .i64 7)),none⟩,⟨some 62,.mv (.t 63),none⟩]) (.cond (.t 62) .skip (.reg [⟨some 64,.bin .eql false (.t 30) (.c (.int .i64 8)),none⟩,⟨some 62,.mv (.t 64),none⟩]))) (.cond (.t 62) (.seq (.reg [⟨some 65,.faddr 4 (.t 1),none⟩,⟨some 66,.load .any false 1 (.t 65),none⟩,⟨some 67,.bin .geq false (.t 66) (.c (.int .i64 0)),none⟩,⟨some 68,.mv (.t 67),none⟩,⟨some 69,.faddr 4 (.t 1),some (68,true)⟩,⟨some 70,.load .any false 1 (.t 69),some (68,true)⟩,⟨some 71,.bin .leq false (.t 70) (.c (.int .i64 50)),some (68,true)⟩,⟨some 72,.pick (.t 68) (.t 71) (.c (.bool false)),none⟩,⟨some 2,.mv (.t 72),none⟩]) .ret) .skip)))))))))))) (.seq (.reg [⟨some 2,.mv (.c (.bool true)),none⟩]) .ret)))),[(.tmp 2)],1,[]⟩
theorem ok_ref07_own:FnOk Tryz.prog 59 q0a:=⟨fun xs w=>by kernel_rfl,_,Tryz.func59,by kernel_rfl⟩
def q2F:C:=.seq (.seq (.reg [⟨some 5,.mv (.t 4),none⟩,⟨some 6,.faddr 6 (.t 1),none⟩,⟨some 7,.load .any false 1 (.t 6),none⟩,⟨some 8,.len false (.t 7),none⟩,⟨some 9,.bin .lss false (.t 5) (.t 8),none⟩]) (.cond (.t 9) .skip (.exit 0))) (.seq (.block 1 (.reg [⟨some 12,.mv (.t 3),none⟩,⟨some 13,.faddr 6 (.t 1),none⟩,⟨some 14,.load .any false 1 (.t 13),none⟩,⟨some 15,.mv (.t 4),none⟩,⟨some 16,.iaddr 13 (.t 14) (.t 15),none⟩,⟨some 17,.faddr 2 (.t 16),none⟩,⟨some 18,.load .any false 1 (.t 17),none⟩,⟨some 19,.bsl [(.int .i64 0)] 1 [(0,(.t 18))],none⟩,⟨some 20,.app .any 3 1 8 (.t 12) (.t 19),none⟩,⟨some 3,.mv (.t 20),none⟩])) (.reg [⟨some 10,.mv (.t 4),none⟩,⟨some 11,.bin .add false (.t 10) (.c (.int .i64 1)),none⟩,⟨some 4,.mv (.t 11),none⟩]))
def q59:FnC:=⟨(.seq (.reg [⟨some 1,.box 10 (.t 0),none⟩,⟨some 2,.mv (.c (.sl true [])),none⟩]) (.seq (.reg [⟨some 3,.mv (.c (.sl true [])),none⟩]) (.seq (.seq (.reg [⟨some 4,.mv (.c (.int .i64 0)),none⟩]) (.block 0 (.loop q2F))) (.seq (.seq (.reg [⟨some 21,.faddr 0 (.t 1),none⟩,⟨some 22,.load .any false 1 (.t 21),none⟩,⟨some 23,.bin .eql false (.t 22) (.c (.int .i64 8)),none⟩]) (.cond (.t 23) (.reg [⟨some 24,.mv (.t 3),none⟩,⟨some 25,.faddr 7 (.t 1),none⟩,⟨some 26,.load .any false 1 (.t 25),none⟩,⟨some 27,.bsl [(.int .i64 0)] 1 [(0,(.t 26))],none⟩,⟨some 28,.app .any 3 1 8 (.t 24) (.t 27),none⟩,⟨some 3,.mv (.t 28),none⟩]) .skip)) (.seq (.seq (.reg [⟨some 29,.faddr 0 (.t 1),none⟩,⟨some 30,.load .any false 1 (.t 29),none⟩,⟨some 31,.bin .eql false (.t 30) (.c (.int .i64 7)),none⟩,⟨some 32,.mv (.t 31),none⟩,⟨some 33,.faddr 0 (.t 1),some (32,false)⟩,⟨some 34,.load .any false 1 (.t 33),some (32,false)⟩,⟨some 35,.bin .eql false (.t 34) (.c (.int .i64 8)),some (32,false)⟩,⟨some 36,.pick (.t 32) (.c (.bool true)) (.t 35),none⟩,⟨some 37,.mv (.t 36),none⟩,⟨some 38,.faddr 0 (.t 1),some (37,false)⟩,⟨some 39,.load .any false 1 (.t 38),some (37,false)⟩,⟨some 40,.bin .eql false (.t 39) (.c (.int .i64 9)),some (37,false)⟩,⟨some 41,.pick (.t 37) (.c (.bool true)) (.t 40),none⟩]) (.cond (.t 41) (.reg [⟨some 42,.mv (.t 3),none⟩,⟨some 43,.faddr 8 (.t 1),none⟩,⟨some 44,.load .any false 1 (.t 43),none⟩,⟨some 45,.bsl [(.int .i64 0)] 1 [(0,(.t 44))],none⟩,⟨some 46,.app .any 3 1 8 (.t 42) (.t 45),none⟩,⟨some 3,.mv (.t 46),none⟩]) .skip)) (.seq (.reg [⟨some 47,.mv (.t 3),none⟩,⟨some 2,.mv (.t 47),none⟩]) .ret)))))),[(.tmp 2)],1,[]⟩
theorem ok_ref07_uses:FnOk Tryz.prog 60 q59:=⟨fun xs w=>by kernel_rfl,_,Tryz.func60,by kernel_rfl⟩
def q3o:FnC:=⟨(.seq (.reg [⟨some 2,.mv (.c (.bool false)),none⟩]) (.seq (.reg [⟨some 3,.mv (.t 0),none⟩,⟨some 4,.bin .geq false (.t 3) (.c (.int .i64 1)),none⟩,⟨some 5,.mv (.t 4),none⟩,⟨some 6,.mv (.t 0),some (5,true)⟩,⟨some 7,.bin .leq false (.t 6) (.c (.int .i64 4)),some (5,true)⟩,⟨some 8,.pick (.t 5) (.t 7) (.c (.bool false)),none⟩,⟨some 2,.mv (.t 8),none⟩]) .ret)),[(.tmp 2)],1,[]⟩
theorem q91:FnOk Tryz.prog 61 q3o:=⟨fun xs w=>by kernel_rfl,_,Tryz.func61,by kernel_rfl⟩
def q4w:FnC:=⟨(.seq (.reg [⟨some 3,.box 1 (.t 0),none⟩,⟨some 5,.box 8 (.t 2),none⟩,⟨some 6,.mv (.c (.bool false)),none⟩]) (.seq (.reg [⟨some 7,.load .any true 1 (.t 3),none⟩,⟨some 8,.mv (.t 1),none⟩,⟨some 9,.load .any true 8 (.t 5),none⟩,⟨some 10,.call .any 77 [(.t 7),(.t 8),(.t 9),(.c (.bool true))],none⟩,⟨some 6,.mv (.t 10),none⟩]) .ret)),[(.tmp 6)],3,[]⟩
theorem ok_ref08_Plain:FnOk Tryz.prog 62 q4w:=⟨fun xs w=>by kernel_rfl,_,Tryz.func62,by kernel_rfl⟩
def q07:FnC:=⟨(.seq (.reg [⟨some 1,.box 10 (.t 0),none⟩,⟨some 2,.mv (.c (.bool false)),none⟩]) (.seq (.reg [⟨some 5,.load .any true 10 (.t 1),none⟩,⟨some 3,.alloc [(.int .i64 0),(.str (ByteArray.mk #[])),(.int .i64 0),(.int .i64 0),(.int .i64 0),(.sl true []),(.sl true []),(.int .i64 0),(.int .i64 0),(.bool false)],none⟩,⟨none,.store .any true 10 (.t 3) (.t 5),none⟩]) (.seq (.reg [⟨some 6,.faddr 0 (.t 3),none⟩,⟨none,.store .any false 1 (.t 6) (.c (.int .i64 0)),none⟩]) (.seq (.reg [⟨some 4,.mv (.c (.bool true)),none⟩]) (.seq (.seq (.reg [⟨some 7,.faddr 0 (.t 1),none⟩,⟨some 8,.load .any false 1 (.t 7),none⟩]) (.block 0 (.seq (.reg [⟨some 10,.bin .eql false (.t 8) (.c (.int .i64 1)),none⟩,⟨some 9,.mv (.t 10),none⟩]) (.cond (.t 9) .skip (.seq (.reg [⟨some 12,.bin .eql false (.t 8) (.c (.int .i64 2)),none⟩,⟨some 11,.mv (.t 12),none⟩]) (.cond (.t 11) (.seq (.reg [⟨some 13,.faddr 2 (.t 1),none⟩,⟨some 14,.load .any false 1 (.t 13),none⟩,⟨some 15,.faddr 3 (.t 1),none⟩,⟨some 16,.load .any false 1 (.t 15),none⟩,⟨some 17,.bin .leq false (.t 14) (.t 16),none⟩,⟨some 4,.mv (.t 17),none⟩]) (.reg [⟨some 18,.faddr 2 (.t 3),none⟩,⟨none,.store .any false 1 (.t 18) (.c (.int .i64 0)),none⟩,⟨some 19,.faddr 3 (.t 3),none⟩,⟨none,.store .any false 1 (.t 19) (.c (.int .i64 0)),none⟩])) (.seq (.reg [⟨some 21,.bin .eql false (.t 8) (.c (.int .i64 3)),none⟩,⟨some 20,.mv (.t 21),none⟩]) (.cond (.t 20) (.seq (.reg [⟨some 22,.faddr 4 (.t 1),none⟩,⟨some 23,.load .any false 1 (.t 22),none⟩,⟨some 24,.bin .geq false (.t 23) (.c (.int .i64 0)),none⟩,⟨some 25,.mv (.t 24),none⟩,⟨some 26,.faddr 4 (.t 1),some (25,true)⟩,⟨some 27,.load .any false 1 (.t 26),some (25,true)⟩,⟨some 28,.bin .leq false (.t 27) (.c (.int .i64 200)),some (25,true)⟩,⟨some 29,.pick (.t 25) (.t 28) (.c (.bool false)),none⟩,⟨some 4,.mv (.t 29),none⟩]) (.reg [⟨some 30,.faddr 4 (.t 3),none⟩,⟨none,.store .any false 1 (.t 30) (.c (.int .i64 0)),none⟩])) (.seq (.reg [⟨some 32,.bin .eql false (.t 8) (.c (.int .i64 4)),none⟩,⟨some 31,.mv (.t 32),none⟩]) (.cond (.t 31) (.seq (.reg [⟨some 33,.faddr 1 (.t 1),none⟩,⟨some 34,.load .any false 1 (.t 33),none⟩,⟨some 35,.call .any 78 [(.t 34)],none⟩,⟨some 36,.mv (.t 35),none⟩,⟨some 37,.faddr 5 (.t 1),some (36,true)⟩,⟨some 38,.load .any false 1 (.t 37),some (36,true)⟩,⟨some 39,.call .any 79 [(.t 38)],some (36,true)⟩,⟨some 40,.pick (.t 36) (.t 39) (.c (.bool false)),none⟩,⟨some 4,.mv (.t 40),none⟩]) (.reg [⟨some 41,.faddr 1 (.t 3),none⟩,⟨none,.store .any false 1 (.t 41) (.c (.str (ByteArray.mk #[]))),none⟩,⟨some 42,.faddr 5 (.t 3),none⟩,⟨none,.store .any false 1 (.t 42) (.c (.sl true [])),none⟩,⟨some 43,.faddr 9 (.t 3),none⟩,⟨none,.store .any false 1 (.t 43) (.c (.bool false)),none⟩])) (.seq (.seq (.reg [⟨some 45,.bin .eql false (.t 8) (.c (.int .i64 5)),none⟩,⟨some 44,.mv (.t 45),none⟩]) (.cond (.t 44) .skip (.reg [⟨some 46,.bin .eql false (.t 8) (.c (.int .i64 6)),none⟩,⟨some 44,.mv (.t 46),none⟩]))) (.cond (.t 44) (.seq (.reg [⟨some 47,.faddr 1 (.t 1),none⟩,⟨some 48,.load .any false 1 (.t 47),none⟩,⟨some 49,.call .any 78 [(.t 48)],none⟩,⟨some 50,.mv (.t 49),none⟩,⟨some 51,.load .any true 10 (.t 1),some (50,true)⟩,⟨some 52,.call .any 80 [(.t 51)],some (50,true)⟩,⟨some 53,.pick (.t 50) (.t 52) (.c (.bool false)),none⟩,⟨some 4,.mv (.t 53),none⟩]) (.seq (.reg [⟨some 54,.faddr 1 (.t 3),none⟩,⟨none,.store .any false 1 (.t 54) (.c (.str (ByteArray.mk #[]))),none⟩,⟨some 55,.faddr 6 (.t 3),none⟩,⟨none,.store .any false 1 (.t 55) (.c (.sl true [])),none⟩]) (.reg [⟨some 56,.faddr 9 (.t 1),none⟩,⟨some 57,.load .any false 1 (.t 56),none⟩,⟨some 58,.mv (.t 57),none⟩,⟨some 59,.faddr 0 (.t 1),some (58,true)⟩,⟨some 60,.load .any false 1 (.t 59),some (58,true)⟩,⟨some 61,.bin .eql false (.t 60) (.c (.int .i64 5)),some (58,true)⟩,⟨some 62,.pick (.t 58) (.t 61) (.c (.bool false)),none⟩,⟨some 63,.faddr 9 (.t 3),none⟩,⟨none,.store .any false 1 (.t 63) (.t 62),none⟩]))) (.seq (.seq (.reg [⟨some 65,.bin .eql false (.t 8) (.c (.int .i64 7)),none⟩,⟨some 64,.mv (.t 65),none⟩]) (.cond (.t 64) .skip (.reg [⟨some 66,.bin .eql false (.t 8) (.c (.int .i64 8)),none⟩,⟨some 64,.mv (.t 66),none⟩]))) (.cond (.t 64) (.seq (.reg [⟨some 67,.faddr 4 (.t 1),none⟩,⟨some 68,.load .any false 1 (.t 67),none⟩,⟨some 69,.bin .geq false (.t 68) (.c (.int .i64 0)),none⟩,⟨some 70,.mv (.t 69),none⟩,⟨some 71,.faddr 4 (.t 1),some (70,true)⟩,⟨some 72,.load .any false 1 (.t 71),some (70,true)⟩,⟨some 73,.bin .leq false (.t 72) (.c (.int .i64 50)),some (70,true)⟩,⟨some 74,.pick (.t 70) (.t 73) (.c (.bool false)),none⟩,⟨some 4,.mv (.t 74),none⟩]) (.seq (.reg [⟨some 75,.faddr 4 (.t 3),none⟩,⟨none,.store .any false 1 (.t 75) (.c (.int .i64 0)),none⟩,⟨some 76,.faddr 8 (.t 3),none⟩,⟨none,.store .any false 1 (.t 76) (.c (.int .i64 0)),none⟩]) (.seq (.reg [⟨some 77,.faddr 0 (.t 1),none⟩,⟨some 78,.load .any false 1 (.t 77),none⟩,⟨some 79,.bin .eql false (.t 78) (.c (.int .i64 8)),none⟩]) (.cond (.t 79) (.reg [⟨some 80,.faddr 7 (.t 3),none⟩,⟨none,.store .any false 1 (.t 80) (.c (.int .i64 0)),none⟩]) .skip)))) (.seq (.reg [⟨some 82,.bin .eql false (.t 8) (.c (.int .i64 9)),none⟩,⟨some 81,.mv (.t 82),none⟩]) (.cond (.t 81) (.reg [⟨some 83,.faddr 8 (.t 3),none⟩,⟨none,.store .any false 1 (.t 83) (.c (.int .i64 0)),none⟩]) (.seq (.reg [⟨some 2,.mv (.c (.bool false)),none⟩]) .ret))))))))))))))))) (.seq (.reg [⟨some 84,.mv (.t 4),none⟩,⟨some 85,.mv (.t 84),none⟩,⟨some 86,.load .any true 10 (.t 3),some (85,true)⟩,⟨some 87,.build [(.int .i64 0),(.str (ByteArray.mk #[])),(.int .i64 0),(.int .i64 0),(.int .i64 0),(.sl true []),(.sl true []),(.int .i64 0),(.int .i64 0),(.bool false)] [],some (85,true)⟩,⟨some 88,.call .any 81 [(.t 86),(.t 87)],some (85,true)⟩,⟨some 89,.pick (.t 85) (.t 88) (.c (.bool false)),none⟩,⟨some 2,.mv (.t 89),none⟩]) .ret)))))),[(.tmp 2)],1,[]⟩
theorem ok_schema_form:FnOk Tryz.prog 63 q07:=⟨fun xs w=>by kernel_rfl,_,Tryz.func63,by kernel_rfl⟩
def q2q:C:=.seq (.reg [⟨some 10,.bin .lss false (.t 9) (.t 8),none⟩]) (.seq (.cond (.t 10) .skip (.exit 0)) (.seq (.block 1 (.seq (.reg [⟨some 11,.iaddr 13 (.t 7) (.t 9),none⟩,⟨some 12,.load .any true 13 (.t 11),none⟩,⟨some 5,.alloc [(.int .i64 0),(.str (ByteArray.mk #[])),(.int .i64 0),(.bool false),(.bool false),(.int .i64 0),(.bool false),(.int .i64 0),(.str (ByteArray.mk #[])),(.int .i64 0),(.sl true []),(.sl true []),(.sl true [])],none⟩,⟨none,.store .any true 13 (.t 5) (.t 12),none⟩]) (.reg [⟨some 13,.mv (.t 3),none⟩,⟨some 14,.faddr 2 (.t 5),none⟩,⟨some 15,.load .any false 1 (.t 14),none⟩,⟨some 16,.bsl [(.int .i64 0)] 1 [(0,(.t 15))],none⟩,⟨some 17,.app .any 3 1 8 (.t 13) (.t 16),none⟩,⟨some 3,.mv (.t 17),none⟩]))) (.reg [⟨some 18,.bin .add false (.t 9) (.c (.int .i64 1)),none⟩,⟨some 9,.mv (.t 18),none⟩])))
def q4E:FnC:=⟨(.seq (.reg [⟨some 1,.box 10 (.t 0),none⟩,⟨some 2,.mv (.c (.sl true [])),none⟩]) (.seq (.reg [⟨some 3,.mv (.c (.sl true [])),none⟩]) (.seq (.seq (.reg [⟨some 6,.faddr 6 (.t 1),none⟩,⟨some 7,.load .any false 1 (.t 6),none⟩,⟨some 8,.len false (.t 7),none⟩,⟨some 9,.mv (.c (.int .i64 0)),none⟩]) (.block 0 (.loop q2q))) (.seq (.seq (.reg [⟨some 19,.faddr 0 (.t 1),none⟩,⟨some 20,.load .any false 1 (.t 19),none⟩,⟨some 21,.bin .eql false (.t 20) (.c (.int .i64 8)),none⟩]) (.cond (.t 21) (.reg [⟨some 22,.mv (.t 3),none⟩,⟨some 23,.faddr 7 (.t 1),none⟩,⟨some 24,.load .any false 1 (.t 23),none⟩,⟨some 25,.bsl [(.int .i64 0)] 1 [(0,(.t 24))],none⟩,⟨some 26,.app .any 3 1 8 (.t 22) (.t 25),none⟩,⟨some 3,.mv (.t 26),none⟩]) .skip)) (.seq (.seq (.reg [⟨some 27,.faddr 0 (.t 1),none⟩,⟨some 28,.load .any false 1 (.t 27),none⟩,⟨some 29,.bin .geq false (.t 28) (.c (.int .i64 7)),none⟩]) (.cond (.t 29) (.reg [⟨some 30,.mv (.t 3),none⟩,⟨some 31,.faddr 8 (.t 1),none⟩,⟨some 32,.load .any false 1 (.t 31),none⟩,⟨some 33,.bsl [(.int .i64 0)] 1 [(0,(.t 32))],none⟩,⟨some 34,.app .any 3 1 8 (.t 30) (.t 33),none⟩,⟨some 3,.mv (.t 34),none⟩]) .skip)) (.seq (.reg [⟨some 35,.mv (.t 3),none⟩,⟨some 2,.mv (.t 35),none⟩]) .ret)))))),[(.tmp 2)],1,[]⟩
theorem ok_schema_uses:FnOk Tryz.prog 64 q4E:=⟨fun xs w=>by kernel_rfl,_,Tryz.func64,by kernel_rfl⟩
def q4v:FnC:=⟨(.seq (.reg [⟨some 3,.box 1 (.t 0),none⟩,⟨some 5,.box 8 (.t 2),none⟩,⟨some 6,.mv (.c (.bool false)),none⟩]) (.seq (.reg [⟨some 7,.load .any true 1 (.t 3),none⟩,⟨some 8,.mv (.t 1),none⟩,⟨some 9,.load .any true 8 (.t 5),none⟩,⟨some 10,.call .any 82 [(.t 7),(.t 8),(.t 9),(.c (.bool true))],none⟩,⟨some 6,.mv (.t 10),none⟩]) .ret)),[(.tmp 6)],3,[]⟩
theorem ok_value_Plain:FnOk Tryz.prog 65 q4v:=⟨fun xs w=>by kernel_rfl,_,Tryz.func65,by kernel_rfl⟩
noncomputable def q5m:FnC:=(q25 Go.Proofs.Tryz.prog [] Go.Proofs.Tryz.f66).getD ⟨.skip,[],0,[]⟩
theorem q7A:FnOk Tryz.prog 66 q5m:=⟨fun xs w=>by kernel_rfl,_,Tryz.func66,by kernel_rfl⟩
noncomputable def q6a:FnC:=(q25 Go.Proofs.Tryz.prog [] Go.Proofs.Tryz.f67).getD ⟨.skip,[],0,[]⟩
theorem q87:FnOk Tryz.prog 67 q6a:=⟨fun xs w=>by kernel_rfl,_,Tryz.func67,by kernel_rfl⟩
end Go.Proofs.YtdjomefkhdimaaaGreat
