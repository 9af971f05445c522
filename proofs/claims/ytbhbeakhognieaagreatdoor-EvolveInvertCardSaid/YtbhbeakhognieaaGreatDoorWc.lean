/- A part of the proof. -/
import Derived.Test.YtbhbeakhognieaaGreatDoorWb
import Derived.LoopN
import Derived.Deep.Slices
import Derived.Deep.Fields
import Derived.ChangeSame
import Derived.OpenShut
import Derived.Carry
import Derived.ChangeOld
import Derived.Test.YtbhbeakhognieaaGreatDoorChecked
import Derived.Lib.Builder
import Derived.Lib.UnsafeStr
import Derived.Shelf.RegionOpenPlain
import Derived.SizedLaws
import Derived.ProofKit
import Derived.JoinedCond
set_option linter.all false
set_option maxRecDepth 100000
set_option maxHeartbeats 8000000
open Option renaming bind_some → J, bind_eq_some_iff → y9, map_eq_some_iff → yl
open List renaming map_map → y5, length_map → y7, all_eq_true → y8, length_append → yb, getElem?_map → yc, getElem?_eq_getElem → yg, getElem?_eq_some_iff → yh, drop_eq_getElem_cons → yj, length_take → ym, drop_eq_nil_of_le → yn, append_assoc → yo, mem_cons_self → yp, mem_append → yq, getElem?_drop → yu, flatten_cons → yv, mem_cons → yw, getElem?_take → yy, length_cons → yA, length_drop → yC, mem_of_getElem? → yD, getElem_mem → yF, mem_cons_of_mem → yG, map_congr_left → yH, size_toArray → yO, mem_map → yQ, take_of_length_le → yS, drop_zero → yY, take_append_drop → Y05, getElem?_eq_none → Y07
open Bool renaming and_eq_true → ye, false_eq_true → yI
open Nat renaming le_refl → yf, zero_add → yr, le_trans → yB, add_zero → yJ, succ_mul → yM, min_eq_left → yU, mul_le_mul_right → Y02
open Array renaming getD_eq_getD_getElem? → Y04
namespace Go.Proofs.YtbhbeakhognieaaGreatDoor
open Go
section
open Go Go.RowKit
section
variable {P:Program} {O:XE} {nt B:Nat} {F0:BN} {aa:Av} {w0:World} {s s':pA} {a:Act} {w w':World} {call:uB} {lp:LH}
def exOf:Ex->Exit
 | .nrm=>.normal
 | .exit id=>.exit id
 | .ret=>.ret
def LpOk (P:Program) (O:XE) (N:Nat) (lp:LpT):Prop :=
 ∀ (boxes:List Nat) (nt B:Nat) (F0:BN) (aa:Av) (w0:World) (code:Code) (b:C) (s:pA) (k:Ex->pA->Option RV) (r:RV) (a:Act) (w:World) (Q:Exit->Act->World->Prop),comp P boxes nt code=some b->lp b s k=some r->WD P O nt B F0 aa w0 (fun _=>False) s a w →
  (∀ e s' a' w',WD P O nt B F0 aa w0 (fun _=>False) s' a' w'->k e s'=some r->Q (exOf e) a' w')->Code.rounds P code Q N a w
theorem mE (hm:P.follows .mixedOrders=true) (ib:∀ f args S r,call f args S=some r->LA P O f args S r) {N:Nat} (io:LpOk P O N lp.l) (di:HZ P O lp.h) {boxes:List Nat} :
  ∀ (code:Code) (c:C) (s:pA) (k:Ex->pA->Option RV) (r:RV) (a:Act) (w:World) (Q:Exit->Act->World->Prop),comp P boxes nt code=some c->c.run call lp s k=some r->WD P O nt B F0 aa w0 (fun _=>False) s a w →
   (∀ e s' a' w',WD P O nt B F0 aa w0 (fun _=>False) s' a' w'->k e s'=some r->Q (exOf e) a' w')->code.wp P Q a w
 | .skip,c,s,k,r,a,w,Q,hc,hr,R,hk=>by
  injection hc with hc;subst hc;exact wp_skip (hk .nrm s a w R hr)
 | .seq x y,c,s,k,r,a,w,Q,hc,hr,R,hk=>by
  unfold comp at hc;split at hc
  ·rename_i cx cy hx hy;injection hc with hc;subst hc;refine wp_seq (mE hm ib io di x cx s _ r a w _ hx hr R fun e s' a' w' R' he=>?_);cases e with
   | nrm=>exact mE hm ib io di y cy s' k r a' w' Q hy he R' hk
   | exit id=>exact hk _ _ _ _ R' he
   | ret=>exact hk _ _ _ _ R' he
  ·cases hc
 | .region id ops draw,c,s,k,r,a,w,Q,hc,hr,R,hk=>by
  unfold comp at hc;split at hc
  ·rename_i cs al;split at hc
   ·rename_i sa;injection hc with hc;subst hc;simp only [ye,Bool.or_eq_true] at sa;simp only [C.run] at hr;exact w5 hm ib di al sa.1 (fun h=>by rcases sa.2 with h' | h'; rw [h] at h'; cases h'; exact h') R hr fun s' a' w' R' rg=>hk .nrm _ _ _ R' rg
   ·cases hc
  ·cases hc
 | .cond x t e,c,s,k,r,a,w,Q,hc,hr,R,hk=>by
  unfold comp at hc;split at hc
  ·rename_i cx ct ce hx ht he;injection hc with hc;subst hc;simp only [C.run] at hr;split at hr
   ·rename_i b hb;have hv:a.eval x=.bool b:=by
     obtain ⟨ι,Θ,R⟩:=R;have:=(R.opd hx).1
     rwa [hb,nB] at this
    cases b with
    | true=>exact wp_cond_true hv (mE hm ib io di t ct s k r a w Q ht (by simpa using hr) R hk)
    | false=>exact wp_cond_false hv (mE hm ib io di e ce s k r a w Q he (by simpa using hr) R hk)
   ·cases hr
  ·cases hc
 | .block id b,c,s,k,r,a,w,Q,hc,hr,R,hk=>by
  unfold comp at hc;obtain ⟨cb,hb,rfl⟩:=yl.1 hc;refine wp_block (mE hm ib io di b cb s _ r a w _ hb hr R fun e s' a' w' R' he=>?_);cases e with
  | nrm=>exact hk _ _ _ _ R' he
  | ret=>exact hk _ _ _ _ R' he
  | exit j =>
   simp only at he;show Exit.inBlock id Q (.exit j) a' w';unfold Exit.inBlock;split at he
   ·rename_i e; simp only [e,if_true]; exact hk _ _ _ _ R' he
   ·rename_i e; simp only [e,if_false]; exact hk _ _ _ _ R' he
 | .loop b,c,s,k,r,a,w,Q,hc,hr,R,hk=>by
  unfold comp at hc;obtain ⟨cb,hb,rfl⟩:=yl.1 hc;exact wp_loop_rounds N (io boxes nt B F0 aa w0 b cb s k r a w Q hb hr R hk)
 | .exit id,c,s,k,r,a,w,Q,hc,hr,R,hk=>by
  injection hc with hc;subst hc;exact wp_exit (hk (.exit id) s a w R hr)
 | .ret,c,s,k,r,a,w,Q,hc,hr,R,hk=>by
  injection hc with hc;subst hc;exact wp_ret (hk .ret s a w R hr)
 | .scope b,c,s,k,r,a,w,Q,hc,hr,R,hk=>by
  unfold comp at hc;refine wp_scope_straight (mE hm ib io di b c s k r a w _ hc hr R fun e s' a' w' R' he=>?_);have:=hk _ _ _ _ R' he;cases e <;> exact this
 | .rangeFunc ..,_,_,_,_,_,_,_,hc,_,_,_=>by cases hc
 | .label _,_,_,_,_,_,_,_,hc,_,_,_=>by cases hc
 | .goto _,_,_,_,_,_,_,_,hc,_,_,_=>by cases hc
 | .refuse _,_,_,_,_,_,_,_,hc,_,_,_=>by cases hc
theorem rep_of_S {ι:Ix} {av:Av} {x:AV} {v:Value} (h:GA ι av (fun _ _=>False) w x v) (hx:x.free=true):ID av w x v:=by
  cases x <;> first
    | exact h
    | (simp [AV.free,AV.free0] at hx; done)
    | (obtain ⟨us,hv,hc⟩:=h
       exact ⟨us,hv,FG hc fun y hy=>y8.1 hx y hy⟩)
theorem UV {av:Av}:∀ {xs:List AV} {us:List Value},mL av w xs us->us.length=xs.length
 | [],_,h=>by simp only [mL] at h; subst h; rfl
 | x :: r,_,h=>by
  simp only [mL] at h;obtain ⟨u,db,rfl,_,h⟩:=h;simp [UV h]
theorem uS {p:Nat} {av:Av}:∀ {xs:List AV} {us:List Value},WK p av w xs us->us.length=xs.length
 | [],_,h=>by simp only [WK] at h; subst h; rfl
 | x :: r,_,h=>by
  simp only [WK] at h;obtain ⟨u,db,rfl,_,h⟩:=h;simp [uS h]
def cM (ι:Ix) (av avb:Av) (w:World):List AV->List Value->Prop
 | [],us=>us=[]
 | x :: r,us=>∃ u db,us=u :: db/\GA ι av avb w x u/\cM ι av avb w r db
theorem GA.toRep {ι:Ix} {av rb avb:Av} {x:AV} {v:Value} (h:GA ι av avb w x v) (hx:x.free=true) (pd:∀ b o,rb b o->av b o):ID rb w x v :=
 ID.held (FA.less pd) _ _ (rep_of_S (pY (ι':=ι) h hx) hx)
theorem cM.toT {ι:Ix} {av rb avb:Av} (pd:∀ b o,rb b o->av b o):∀ {xs:List AV} {us:List Value},cM ι av avb w xs us->(∀ v∈xs,v.free=true)->mL rb w xs us
 | [],_,h,_=>h
 | x :: r,_,h,hf=>by
  simp only [cM] at h;obtain ⟨u,db,rfl,h0,h⟩:=h;exact ⟨u,db,rfl,h0.toRep (hf x yp) pd,h.toT pd fun v hv=>hf v (yG _ hv)⟩
theorem f9 {t n:Nat} {x:AV} (h:(bI t n x).isObj=true):x=.ptr t n 0:=by
 cases x with
 | ptr t' n' o =>
  simp only [bI] at h;split at h
  ·rename_i e; obtain ⟨rfl,rfl,rfl⟩:=e; rfl
  ·cases h
 | _=>cases h
theorem T7 {t n:Nat} {x:AV} (h:(bI t n x).free=true):bI t n x=x:=by
 cases x with
 | ptr t' n' o =>
  simp only [bI] at h;split at h <;> cases h
 | _=>rfl
theorem cM.toO {ι:Ix} {av rb avb:Av} {t n p:Nat} (hp:ι t n=some p) (pd:∀ b o,rb b o->av b o):∀ {xs:List AV} {us:List Value},cM ι av avb w xs us->(∀ v∈xs,((bI t n v).free||(bI t n v).isObj)=true)->WK p rb w (xs.map (bI t n)) us
 | [],_,h,_=>h
 | x :: r,_,h,hf=>by
  simp only [cM] at h;obtain ⟨u,db,rfl,h0,h⟩:=h;refine ⟨u,db,rfl,?_,h.toO hp pd fun v hv=>hf v (yG _ hv)⟩;have h1:=hf x yp;unfold MT;split
  ·rename_i ho;have:=f9 ho;subst this;obtain ⟨b,hb,hv⟩:=h0;rw [hp] at hb;injection hb with hb;rw [hv,hb]
  ·rename_i ho;have se:(bI t n x).free=true:=by
    rcases Bool.or_eq_true_iff.1 h1 with h | h
    ·exact h
    ·exact absurd h ho
   have bg:=T7 se;rw [bg] at se ⊢;exact h0.toRep se pd
theorem cM.frz {D:Nat->Prop} {ι:Ix} {Θ:aJ} (R:DB P O nt B F0 aa w0 D s a w ι Θ):∀ {xs:List AV} {us:List Value},cM ι (BB aa ι Θ) (eC ι Θ) w xs us->cM ι (P9 s (BB aa ι Θ) ι) (eC ι Θ) w (xs.map (AV.frz s)) us
 | [],_,h=>h
 | x :: r,_,h=>by
  simp only [cM] at h;obtain ⟨u,db,rfl,h0,h⟩:=h;exact ⟨u,db,rfl,h0.frz R,h.frz R⟩
def wM (us:List Value):Value:=if h:us.toArray.size=1 then us.toArray[0] else .tuple us.toArray
theorem lZ {av:Av}:∀ {xs:List AV} {us:List Value},mL av w xs us->ID av w (w7 xs) (wM us)
 | [],us,h=>by simp only [mL] at h; subst h; exact ⟨#[],rfl,rfl⟩
 | [x],us,h=>by
  simp only [mL] at h;obtain ⟨u,db,rfl,h0,rfl⟩:=h;exact h0
 | x :: y :: r,us,h=>by
  have hl:=UV h;have:¬ us.toArray.size=1:=by simp; simp at hl; omega
  unfold wM;rw [dif_neg this];exact ⟨_,rfl,h⟩
theorem pack_repN {p:Nat} {av:Av}:∀ {xs:List AV} {us:List Value},WK p av w xs us->(∀ v∈xs,(v.free||v.isObj)=true)->G7 p av w (w7 xs) (wM us)
 | [],us,h,_=>by simp only [WK] at h; subst h; exact ⟨#[],rfl,rfl⟩
 | [x],us,h,hf=>by
  simp only [WK] at h;obtain ⟨u,db,rfl,h0,rfl⟩:=h;have:=hf x yp;cases x with
  | tup vs=>cases this
  | _=>exact h0
 | x :: y :: r,us,h,_=>by
  have hl:=uS h;have:¬ us.toArray.size=1:=by simp; simp at hl; omega
  unfold wM;rw [dif_neg this];exact ⟨_,rfl,h⟩
def jM (tmps:Array Value):ResultVar->Sem Value
 | .tmp t=>pure (tmps.getD t undef)
 | .cell b t=>do loadVar t (<- asAddr (tmps.getD b undef))
theorem gX {D:Nat->Prop} {ι:Ix} {Θ:aJ} (R:DB P O nt B F0 aa w0 D s a w ι Θ):∀ {rs:List ResultVar} {cs:List ResC} {vs:List AV},jK P rs=some cs->T1 s cs=some vs →
  ∃ us,(rs.mapM (jM a.tmps)).run P w=Result.ok us w/\cM ι (BB aa ι Θ) (eC ι Θ) w vs us
 | [],cs,vs,h,hr=>by
  injection h with h;subst h;injection hr with hr;subst hr;exact ⟨[],by simp,rfl⟩
 | .tmp t :: rs,cs,vs,h,hr=>by
  unfold jK at h;obtain ⟨l,hl,rfl⟩:=yl.1 h;simp only [T1] at hr;obtain ⟨mw,hv,rfl⟩:=yl.1 hr;obtain ⟨us,hu,hT⟩:=gX R hl hv;refine ⟨a.tmps.getD t undef :: us,by rw [List.mapM_cons]; simp only [jM,Sem.run_bind,Sem.run_pure,Result.andThen_ok,hu],_,us,rfl,R.env t,hT⟩
 | .cell b t :: rs,cs,vs,h,hr=>by
  unfold jK at h;split at h
  ·rename_i ag z l hA hz hl;injection h with h;subst h;simp only [T1] at hr;split at hr
   ·rename_i t' n off hb;cases hm:s.mem t' n with
    | none=>rw [hm] at hr; cases hr
    | some row =>
     rw [hm,J] at hr;obtain ⟨x,hx,hr⟩:=y9.1 hr;obtain ⟨mw,hv,rfl⟩:=yl.1 hr;obtain ⟨us,hu,hT⟩:=gX R hl hv;have hv:=R.env b;rw [hb,KF] at hv;obtain ⟨bb,hbb,hv⟩:=hv;obtain ⟨sh,b',cur,ty,jb,ra,ja,_⟩:=R.rows t' n row hm;rw [hbb] at jb;injection jb with jb;subst jb;have gc:∀ (j:Nat) (u:Value),((cur.toList.take row.length).drop off)[j]?=some u->w.cell? ⟨bb,off + j,none⟩=some u:=fun j u hu=>by
      rw [cell_of_row w bb (off + j) cur ty (0,0) ra];rw [yu,yy] at hu;split at hu
      ·simpa using hu
      ·cases hu
     have ic:=GE off ja.rep;have hi:GF ag z ((row.map (·.v)).drop off)=some x.v:=by
      cases ag with
      | true =>
       simp only [aA,if_true] at hx;split at hx
       ·rename_i sb;injection hx with hx;subst hx;simp only [GF,if_true,yC,y7];rw [if_pos (by omega)];simp [List.map_take,List.map_drop]
       ·cases hx
      | false =>
       simp only [aA,yI,if_false] at hx;simp [GF,yu,hx]
     obtain ⟨u,na,hS,_⟩:=UP (P:=P) (avb:=eC ι Θ) hA hz ic gc hi;refine ⟨u :: us,by rw [List.mapM_cons]; simp only [jM,Sem.run_bind,hv,asAddr,Sem.run_pure,Result.andThen_ok,na,hu],_,us,rfl,hS,hT⟩
   ·cases hr
  ·cases h
structure zA (P:Program) (f:FuncId) (c:DA):Prop where
 enter:∀ xs w,(callFunc f xs).run P w=.ok (.enter f xs) w
 fn:∃ fn,P.funcs[f]?=some fn/\jR P c.mu fn=some c
theorem EV {ι:Ix} {av avl:Av}:∀ {xs:List AV} {us:List Value},sG ι av avl w xs us->us.length=xs.length
 | [],_,h=>by simp only [sG] at h; subst h; rfl
 | x :: r,_,h=>by
  simp only [sG] at h;obtain ⟨u,db,rfl,_,h⟩:=h;simp [EV h]
theorem O5 {ι:Ix} {av avl:Av}:∀ {xs:List AV} {us:List Value} (_:sG ι av avl w xs us) (t:Nat),GA ι av avl w (xs.getD t .undef) (us.getD t undef)
 | [],_,_,_=>by simp [GA]
 | x :: r,_,h,t=>by
  simp only [sG] at h;obtain ⟨u,db,rfl,h0,h⟩:=h;cases t with
  | zero=>simpa using h0
  | succ t=>simpa using O5 h t
section
variable {vs:List Value} {args:List AV}
include vs args
theorem kU {ι:Ix} {av avl:Av} {np:Nat} (h:sG ι av avl w args vs) (hl:args.length=np) (hn:np<=nt):(vs.toArray++Array.replicate (nt - vs.toArray.size) undef).size=nt:=by
 have:=EV h;simp;omega
theorem kY {ι ι':Ix} {av rb avb avl:Av} {S0:Option AV} (h:sG ι av avl w args vs) (hι:Ix.Le ι ι') (hA:FA av rb w w) (hB:FA avl avb w w) (t:Nat) :
  GA ι' rb avb w ((pA.init args S0).env t).v ((vs.toArray++Array.replicate (nt - vs.toArray.size) undef).getD t undef):=by
 have h1:=GA.held hι hA hB _ _ (O5 h t);have h2:(vs.toArray++Array.replicate (nt - vs.toArray.size) undef).getD t undef=vs.getD t undef:=by
  simp only [Y04,List.getD_eq_getElem?_getD,Array.getElem?_append,yO,List.getElem?_toArray];split
  ·rfl
  ·rename_i th;rw [Y07 (by omega)];simp only [Array.getElem?_replicate];split <;> rfl
 rw [h2];exact h1
theorem jU {av:Av} {np:Nat} (h:sG Ix.none av (fun _ _=>False) w args vs) (pd:∀ b o,av b o->b<w.heap.size) (hl:args.length=np) (hn:np<=nt) :
  WD P O nt w.heap.size ⟨fun _=>False,none,fun _=>False,0,fun _=>undef⟩ av w (fun _=>False) (pA.init args none) { tmps:=vs.toArray++Array.replicate (nt - vs.toArray.size) undef,defers:=[] } w:=by
 have ew:∀ b o,eC Ix.none (fun _=>none) b o->False:=fun b o h=>by rcases h with (⟨t,n,h⟩ | ⟨t,n,H,h,_⟩) | ⟨k,ow,h,_⟩ <;> cases h
 have hA:FA av (BB av Ix.none (fun _=>none)) w w:=FA.less fun b o h=>h.resolve_right (ew b o)
 have hB:FA (fun _ _=>False) (eC Ix.none (fun _=>none)) w w:=FA.less fun b o h=>ew b o h
 exact ⟨Ix.none,fun _=>none,rfl,kU h hl hn,fun t=>kY h (Ix.Le.refl _) hA hB t,fun t=>trivial,fun t n r h=>(by cases h),fun t n b h=>(by cases h),fun _ _ _ _ _ h=>(by cases h),fun _ _ h=>(by cases h),fun _ _ _ _ h=>(by cases h),fun _ _ _ _ h=>(by cases h),pd,fun _ h=>(by cases h),ZA.refl _ _,rfl,fun t n S h=>(by simp [pA.init] at h),fun t n H h=>(by cases h),fun _=>trivial,fun _=>trivial⟩
theorem init_some {av:Av} {np p:Nat} {H:Nat->Prop} {S:AV} (h:sG (Ix.one p) av (fun b _=>H b) w args vs) (pd:∀ b o,av b o->b<w.heap.size) (hH:∀ b o,H b->av b o) (jd:O.at_ S H p w) (hni:A6 S=true) (hl:args.length=np) (hn:np<=nt) :
  WD P O nt w.heap.size ⟨H,some p,fun _=>False,0,fun _=>undef⟩ av w (fun _=>False) (pA.init args (some S)) { tmps:=vs.toArray++Array.replicate (nt - vs.toArray.size) undef,defers:=[] } w:=by
 obtain ⟨ι,hι⟩:∃ ι:Ix,ι=⟨fun t n=>if t=0/\n=0 then some p else none,fun t n=>if t=0/\n=0 then some H else none,fun _=>0⟩:=⟨_,rfl⟩;have hf:∀ t n b,ι t n=some b->t=0/\n=0/\b=p:=fun t n b h=>by
  subst hι;have h':(if t=0/\n=0 then some p else none)=some b:=h;split at h'
  ·rename_i e; injection h' with h'; exact ⟨e.1,e.2,h'.symm⟩
  ·cases h'
 have ho:∀ t n H1,ι.ob t n=some H1->t=0/\n=0/\H1=H:=fun t n b h=>by
  subst hι;simp only at h;split at h
  ·rename_i e; injection h with h'; exact ⟨e.1,e.2,h'.symm⟩
  ·cases h
 have h0:ι 0 0=some p:=by subst hι; rfl
 have h1:ι.ob 0 0=some H:=by subst hι; rfl
 have wc:∀ t n b,Ix.one p t n=some b->ι t n=some b:=fun t n b h=>by subst hι; exact h
 have sb:Ix.Le (Ix.one p) ι:=⟨wc,fun _ _ _ _=>by subst hι; rfl⟩;clear hι;have hpH:=O.main jd;have ew:∀ b o,eC ι (fun _=>none) b o->H b:=fun b o h=>by
  rcases h with (⟨t,n,h⟩ | ⟨t,n,H1,h,hb⟩) | ⟨k,ow,h,_⟩
  ·rw [(hf _ _ _ h).2.2]; exact hpH
  ·rw [(ho _ _ _ h).2.2] at hb; exact hb
  ·cases h
 have hA:FA av (BB av ι (fun _=>none)) w w:=FA.less fun b o h=>h.elim id fun h=>hH b o (ew b o h)
 refine ⟨ι,fun _=>none,rfl,kU h hl hn,fun t=>?_,fun t=>trivial,fun t n r h=>(by cases h),fun t n b h=>?_,fun t n t' n' b h h'=>?_,fun _ _ h=>(by cases h),fun _ _ _ _ h=>(by cases h),fun _ _ _ _ h=>(by cases h),pd,fun q h=>?_,ZA.refl _ _,rfl,fun t n S1 h=>?_,fun t n H1 h=>?_,fun _=>trivial,fun _=>trivial⟩
 ·exact kY h sb hA (FA.less fun b o h=>ew b o h) t
 ·obtain ⟨rfl,rfl,rfl⟩:=hf _ _ _ h;exact ⟨.inr hpH,O.lt jd hpH,.inl (by simp [pA.init])⟩
 ·obtain ⟨rfl,rfl,_⟩:=hf _ _ _ h;obtain ⟨rfl,rfl,_⟩:=hf _ _ _ h';exact ⟨rfl,rfl⟩
 ·injection h with h;subst h;exact ⟨h0,.inr ⟨H,h1⟩⟩
 ·simp only [pA.init] at h;split at h
  ·rename_i e;injection h with h;subst h;exact ⟨p,H,by rw [e.1,e.2]; exact h0,by rw [e.1,e.2]; exact h1,jd,W5.no hni⟩
  ·cases h
 ·obtain ⟨rfl,rfl,rfl⟩:=ho _ _ _ h;refine ⟨fun b hb=>⟨.inr hb,O.lt jd hb,fun t' n' h=>?_,fun _ _ h=>(by cases h),fun t' n' H' h _=>?_⟩,.inl (by simp [pA.init])⟩
  ·obtain ⟨rfl,rfl,_⟩:=hf _ _ _ h; exact ⟨rfl,rfl⟩
  ·obtain ⟨rfl,rfl,_⟩:=ho _ _ _ h; exact ⟨rfl,rfl⟩
end
theorem init_row {vs:List Value} {args cs:List AV} {av:Av} {np p:Nat} {cur:Array Value} {ty:TypeId} (h:sG (Ix.row p cur.size) av (fun b _=>b=p) w args vs) (pd:∀ b o,av b o->b<w.heap.size) (nc:∀ o,av p o) (ra:w.heap[p]?=some (.cells cur ty (0,0))) (al:cs.length<=cur.size) (ic:rB av w cs (cur.toList.take cs.length)) (hl:args.length=np) (hn:np<=nt) :
  WD P O nt w.heap.size ⟨fun b=>b=p,some p,fun b=>b=p,cur.size,fun _=>undef⟩ av w (fun _=>False) (pA.initR args cs) { tmps:=vs.toArray++Array.replicate (nt - vs.toArray.size) undef,defers:=[] } w:=by
 have hf:∀ t n b,(Ix.row p cur.size) t n=some b->t=0/\n=0/\b=p:=fun t n b h=>by
  have h':(if t=0/\n=0 then some p else none)=some b:=h;split at h'
  ·rename_i e; injection h' with h'; exact ⟨e.1,e.2,h'.symm⟩
  ·cases h'
 have ew:∀ b o,eC (Ix.row p cur.size) (fun _=>none) b o->b=p:=fun b o h=>by
  rcases h with (⟨t,n,h⟩ | ⟨t,n,H1,h,hb⟩) | ⟨k,ow,h,_⟩
  ·exact (hf _ _ _ h).2.2
  ·cases h
  ·cases h
 have hA:FA av (BB av (Ix.row p cur.size) (fun _=>none)) w w:=FA.less fun b o h=>h.elim id fun h=>ew b o h ▸ nc o
 refine ⟨Ix.row p cur.size,fun _=>none,rfl,kU h hl hn,fun t=>?_,fun t=>trivial,fun t n r h=>?_,fun t n b h=>?_,fun t n t' n' b h h'=>?_,fun _ _ h=>(by cases h),fun _ _ _ _ h=>(by cases h),fun _ _ _ _ h=>(by cases h),pd,fun q h=>?_,ZA.refl _ _,rfl,fun t n S1 h=>(by cases h),fun t n H1 h=>(by cases h),fun _=>trivial,fun _=>trivial⟩
 ·exact kY (S0:=none) h (Ix.Le.refl _) hA (FA.less fun b o h=>ew b o h) t
 ·simp only [pA.initR] at h;split at h
  ·rename_i e;injection h with h;subst h;refine ⟨rfl,p,cur,ty,by rw [e.1,e.2]; rfl,ra,row_ofz (rB.held hA _ _ ic) fun j u hu=>?_,.inr rfl,rfl⟩;have hj:j<cs.length:=by
    have:=(yh.1 hu).1;rw [ym] at this;omega
   rw [List.getElem?_take_of_lt hj] at hu;simpa using hu
  ·cases h
 ·obtain ⟨rfl,rfl,rfl⟩:=hf _ _ _ h;exact ⟨.inr rfl,cA ra,.inl (by simp [pA.initR])⟩
 ·obtain ⟨rfl,rfl,_⟩:=hf _ _ _ h;obtain ⟨rfl,rfl,_⟩:=hf _ _ _ h';exact ⟨rfl,rfl⟩
 ·injection h with h;subst h;exact ⟨rfl,.inl ⟨rfl,rfl⟩⟩
theorem DB.drop0 {D:Nat->Prop} {ι:Ix} {Θ:aJ} (R:DB P O nt B F0 aa w0 D s a w ι Θ):DB P O nt B F0 aa w0 D s.drop0 a w ι Θ :=
 ⟨R.defers,R.size,R.env,R.ann,fun t n r h=>by
  simp only [pA.drop0] at h;split at h
  ·cases h
  ·exact R.rows t n r h,R.mine,R.inj,R.tok,R.tinj,R.apart,R.out,R.pin,R.kept,R.base,R.objs,R.obs,R.gen,R.gann⟩
theorem FT {D:Nat->Prop} {ι:Ix} {Θ:aJ} (R:DB P O nt B F0 aa w0 D s a w ι Θ):∀ {rs:List ResultVar} {cs:List ResC} {vs:List rA},jK P rs=some cs->JE s cs=some vs →
  ∃ us,(rs.mapM (jM a.tmps)).run P w=Result.ok us w/\PF ι Θ (BB aa ι Θ) (eC ι Θ) w vs us
 | [],cs,vs,h,hr=>by
  injection h with h;subst h;injection hr with hr;subst hr;exact ⟨[],by simp,rfl⟩
 | .tmp t :: rs,cs,vs,h,hr=>by
  unfold jK at h;obtain ⟨l,hl,rfl⟩:=yl.1 h;simp only [JE] at hr;obtain ⟨mw,hv,rfl⟩:=yl.1 hr;obtain ⟨us,hu,hT⟩:=FT R hl hv;refine ⟨a.tmps.getD t undef :: us,by rw [List.mapM_cons]; simp only [jM,Sem.run_bind,Sem.run_pure,Result.andThen_ok,hu],_,us,rfl,R.env t,R.ann t,hT⟩
 | .cell b t :: rs,cs,vs,h,hr=>by
  unfold jK at h;split at h
  ·rename_i ag z l hA hz hl;injection h with h;subst h;simp only [JE] at hr;split at hr
   ·rename_i t' n off hb;cases hm:s.mem t' n with
    | none=>rw [hm] at hr; cases hr
    | some row =>
     rw [hm,J] at hr;obtain ⟨x,hx,hr⟩:=y9.1 hr;obtain ⟨mw,hv,rfl⟩:=yl.1 hr;obtain ⟨us,hu,hT⟩:=FT R hl hv;have hv:=R.env b;rw [hb,KF] at hv;obtain ⟨bb,hbb,hv⟩:=hv;obtain ⟨sh,b',cur,ty,jb,ra,ja,_⟩:=R.rows t' n row hm;rw [hbb] at jb;injection jb with jb;subst jb;have gc:∀ (j:Nat) (u:Value),((cur.toList.take row.length).drop off)[j]?=some u->w.cell? ⟨bb,off + j,none⟩=some u:=fun j u hu=>by
      rw [cell_of_row w bb (off + j) cur ty (0,0) ra];rw [yu,yy] at hu;split at hu
      ·simpa using hu
      ·cases hu
     have ic:=GE off ja.rep;have hi:GF ag z ((row.map (·.v)).drop off)=some x.v:=by
      cases ag with
      | true =>
       simp only [aA,if_true] at hx;split at hx
       ·rename_i sb;injection hx with hx;subst hx;simp only [GF,if_true,yC,y7];rw [if_pos (by omega)];simp [List.map_take,List.map_drop]
       ·cases hx
      | false =>
       simp only [aA,yI,if_false] at hx;simp [GF,yu,hx]
     obtain ⟨u,na,hS,_⟩:=UP (P:=P) (avb:=eC ι Θ) hA hz ic gc hi;refine ⟨u :: us,by rw [List.mapM_cons]; simp only [jM,Sem.run_bind,hv,asAddr,Sem.run_pure,Result.andThen_ok,na,hu],u,us,rfl,hS,trivial,hT⟩
   ·cases hr
  ·cases h
theorem own_sound (hm:P.follows .mixedOrders=true) {call:uB} {lp:LH} {N:Nat} (ib:∀ f args S r,call f args S=some r->LA P O f args S r) (io:LpOk P O N lp.l) (di:HZ P O lp.h) {f:FuncId} {fn:Func} {c:DA} (ad:∀ xs w,(callFunc f xs).run P w=.ok (.enter f xs) w) (om:P.funcs[f]?=some fn) (zd:jR P c.mu fn=some c) {args:List AV} {r:RV} (da:args.length=c.np)
  (h:c.code.run call lp (pA.init args none) (UJ c)=some r):SG P O f args none r:=by
 unfold jR at zd;split at zd
 ·cases zd
 ·rename_i code jj;split at zd
  ·rename_i cc rr ah hrr;split at zd
   ·rename_i ia;injection zd with zd;obtain ⟨mu,jn⟩:∃ mu,mu=c.mu:=⟨_,rfl⟩;rw [<- jn] at zd ah;clear jn;subst zd;have dy:fn.params.size + fn.nfree<=fn.ntmps:=ia;have key:∀ (av:Av) (w:World) (vs:List Value),(∀ b o,av b o->b<w.heap.size)->sG Ix.none av (fun _ _=>False) w args vs->∀ E:Ending->World->Prop,
      (∀ s' a' w' ι Θ us xs,DB P O fn.ntmps w.heap.size ⟨fun _=>False,none,fun _=>False,0,fun _=>undef⟩ av w (fun _=>False) s' a' w' ι Θ->PF ι Θ (BB av ι Θ) (eC ι Θ) w' xs us->JE s' rr=some xs->UJ ⟨cc,rr,fn.params.size + fn.nfree,mu⟩ .ret s'=some r->E (.returned (wM us)) w')->Calls P f vs.toArray w E:=fun av w vs pd eb E hE=>by
     refine calls_of_wp om jj ?_;refine mE hm ib io di code cc _ _ _ _ w _ ah h (jU eb pd da dy) fun e s' a' w' R' he=>?_
     have lj:e=.nrm\/e=.ret:=by
      cases e with
      | nrm=>exact .inl rfl
      | ret=>exact .inr rfl
      | exit id=>cases he
     have kh:UJ ⟨cc,rr,fn.params.size + fn.nfree,mu⟩ .ret s'=some r:=by rcases lj with rfl | rfl <;> exact he
     obtain ⟨xs,lc⟩:∃ xs,JE s' rr=some xs:=by
      cases hx:JE s' rr with
      | none=>simp only [UJ,hx] at kh; cases kh
      | some xs=>exact ⟨xs,rfl⟩
     obtain ⟨ι,Θ,R'⟩:=R';obtain ⟨us,de,tp⟩:=FT R' hrr lc;have wi:(results fn a'.tmps).run P w'=.ok (wM us) w':=by
      have he:results fn a'.tmps=(do let vs <- fn.results.mapM (jM a'.tmps); pure (if h:vs.size=1 then vs[0] else .tuple vs)):=rfl;rw [he,Array.mapM_eq_mapM_toList];simp only [Sem.run_bind,Sem.run_map,de,Result.andThen_ok,Sem.run_pure];rfl
     have post:a'.defers=[]/\∃ v,(results fn a'.tmps).run P w'=.ok v w'/\E (.returned v) w':=⟨R'.defers,_,wi,hE s' a' w' ι Θ us xs R' tp lc kh⟩;rcases lj with rfl | rfl <;> exact post
    have one:∀ {x:rA} {us:List Value} {ι:Ix} {Θ:aJ} {av avb:Av} {w:World},PF ι Θ av avb w [x] us->∃ u,wM us=u/\GA ι av avb w x.v u/\kJ Θ x.a u:=fun {x us ι Θ av avb w} h=>by
     simp only [PF] at h;obtain ⟨u,db,rfl,h0,h1,rfl⟩:=h;exact ⟨u,rfl,h0,h1⟩
    refine ⟨ad,?_⟩;obtain ⟨r1,r2⟩:=r;have main:∀ (nl:Bool) (l:List (List AV)),(r1,r2)=(.sl nl l,none)->∀ (av:Av) (w:World) (vs:List Value),(∀ b o,av b o->b<w.heap.size)->sG Ix.none av (fun _ _=>False) w args vs →
      Calls P f vs.toArray w fun e w'=>∃ v,e=.returned v/\(if l=[] then ID av w' (.sl nl []) v/\∃ A,v=.slice A 0 0 else ∀ z,AA z l=true->H3 w (fun _=>False) z av w' l v)/\Below w.heap.size w w':=fun nl l hr av w vs pd eb=>by
     refine key av w vs pd eb _ fun s' a' w' ι Θ us xs R' hT lc hf=>?_
     rw [hr] at hf;simp only [UJ,lc] at hf;split at hf
     ·rename_i b a0 he;injection he with he;split at hf
      case isFalse=>cases hf
      rename_i kj;injection hf with hf;injection hf with hf _;injection hf with h1 h2;subst h1; subst h2; subst he;obtain ⟨u,hu,h0,h9⟩:=one hT;refine ⟨_,rfl,?_,R'.kept.below⟩;rw [if_pos rfl,hu];refine ⟨ID.held (FA.less fun b o h=>.inl h) _ _ h0,?_⟩;obtain ⟨A,c,rfl,_,_,h3,_⟩:=h0;cases b with
      | true =>
       obtain ⟨rfl,_,rfl⟩:=h3 rfl;exact ⟨_,rfl⟩
      | false =>
       unfold uX iB at kj;cases a0 with
       | ex =>
        obtain ⟨A',n',h⟩:=h9;injection h with h1 h2 h3;exact ⟨A,by rw [h3,<- h2]; rfl⟩
       | no=>cases kj
       | own k e=>cases kj
     ·rename_i t n sz len cap a0 he;injection he with he;subst he;obtain ⟨l1,uf,hf⟩:=yl.1 hf;injection hf with hf _;injection hf with h1 h2;subst h1; subst h2;obtain ⟨row,we,gb⟩:=y9.1 uf;obtain ⟨u,hu,h0,_⟩:=one hT;obtain ⟨b,hb,sb,cc2,hcc2,en,hv⟩:=h0;obtain ⟨zc,b',cur,ty,jb,ra,ja,cj,xk⟩:=R'.rows t n row we;rw [hb] at jb;injection jb with jb;subst jb;obtain ⟨q1,q2,us2,q3,q4⟩:=IG ja ra gb;have za:l1≠[]:=fun e=>by rw [e] at q1; simp at q1
      have de:us2=cur.toList.take l1.flatten.length:=take_of q3 fun j u hj=>by
       have:=q4 j u hj;simpa [World.cell?,ra] using this
      rw [de] at q3;refine ⟨_,rfl,?_,R'.kept.below⟩;rw [if_neg za,hu];intro z hz;have oc:z=sz:=by
       cases l1 with
       | nil=>exact absurd rfl za
       | cons c r =>
        rw [cB] at hz;simp only [ye,decide_eq_true_eq] at hz;rw [<- hz.1,q2 c yp]
      subst oc;refine ⟨b,cc2,cur,ty,by rw [q1]; exact hv,.inl (cj.elim id False.elim),ra,by rw [q1]; exact yB sb hcc2,by rw [xk]; simpa using en,rB.held (FA.less fun b' o h=>?_) _ _ q3⟩;rcases h with h | rfl
      ·exact .inl h
      ·exact .inr (.inl (.inl ⟨t,n,hb⟩))
     ·cases hf
    split
    all_goals first
     | exact True.intro
     | exact main _ _ (by assumption)
     | (rename_i e; cases e; done)
     | (rename_i e _; cases e; done)
   ·cases zd
  ·cases zd
theorem row_sound (hm:P.follows .mixedOrders=true) {call:uB} {lp:LH} {N:Nat} (ib:∀ f args S r,call f args S=some r->LA P O f args S r) (io:LpOk P O N lp.l) (di:HZ P O lp.h) {f:FuncId} {fn:Func} {c:DA} (ad:∀ xs w,(callFunc f xs).run P w=.ok (.enter f xs) w) (om:P.funcs[f]?=some fn) (zd:jR P c.mu fn=some c) {rest cs:List AV} {r:RV} (da:rest.length=c.np)
  (h:c.code.run call lp (pA.initR rest cs) (finR c cs.length)=some r):S3 P f rest (some (.agg cs)) r:=by
 unfold jR at zd;split at zd
 ·cases zd
 ·rename_i code jj;split at zd
  ·rename_i cc rr ah hrr;split at zd
   ·rename_i ia;injection zd with zd;obtain ⟨mu,jn⟩:∃ mu,mu=c.mu:=⟨_,rfl⟩;rw [<- jn] at zd ah;clear jn;subst zd;have dy:fn.params.size + fn.nfree<=fn.ntmps:=ia;refine ⟨ad,?_⟩;obtain ⟨r1,r2⟩:=r
    match r2,h with
    | some (.agg pw),h =>
     intro av w vs p cur ty pd nc ra sb ic eb;refine calls_of_wp om jj ?_;refine mE hm ib io di code cc _ _ _ _ w _ ah h (init_row eb pd nc ra sb ic da dy) fun e s' a' w' R' he=>?_
     have lj:e=.nrm\/e=.ret:=by
      cases e with
      | nrm=>exact .inl rfl
      | ret=>exact .inr rfl
      | exit id=>cases he
     have kh:∃ xs,T1 s' rr=some xs/\finVR cs.length s' (xs.map (AV.frz s'.drop0))=some (r1,some (.agg pw)):=by
      rcases lj with rfl | rfl <;> exact y9.1 he
     obtain ⟨xs,lc,ee⟩:=kh;obtain ⟨ι,Θ,R'⟩:=R';obtain ⟨us,de,tp⟩:=gX R' hrr lc;have wi:(results fn a'.tmps).run P w'=.ok (wM us) w':=by
      have he:results fn a'.tmps=(do let vs <- fn.results.mapM (jM a'.tmps); pure (if h:vs.size=1 then vs[0] else .tuple vs)):=rfl;rw [he,Array.mapM_eq_mapM_toList];simp only [Sem.run_bind,Sem.run_map,de,Result.andThen_ok,Sem.run_pure];rfl
     have hs:=tp.frz R'.drop0;unfold finVR at ee;split at ee
     ·rename_i bc;obtain ⟨row,pe,ee⟩:=y9.1 ee;split at ee
      ·rename_i ia;injection ee with ee;injection ee with hfv1 hfv2;injection hfv2 with hfv2;injection hfv2 with hfv2;subst hfv1;subst hfv2;obtain ⟨zc,b,ua,uh,hb,dq,ja,_,hz⟩:=R'.rows 0 0 row pe;obtain ⟨hpp,hpz⟩:=R'.pin p rfl;rw [hpp] at hb;injection hb with hb;subst hb;have hz':ι.z p=cur.size:=by
        rcases hpz with ⟨_,h⟩ | ⟨H,h⟩
        ·exact h
        ·rw [h] at zc; cases zc
       have wc:∀ b o,av b o->P9 s'.drop0 (BB av ι Θ) ι b o:=fun b o h=>⟨.inl h,fun ⟨t,n,r,hm,hb⟩=>by
        simp only [pA.drop0] at hm;split at hm
        ·cases hm
        ·rename_i hn;obtain ⟨_,b',_,_,jb,_,_,cj,_⟩:=R'.rows t n r hm;rw [hb] at jb;injection jb with jb;subst jb;rcases cj with cj | cj
         ·have:=pd _ _ h; omega
         ·have:b=p:=cj;subst this;exact hn (R'.inj _ _ _ _ _ hb hpp)⟩
       have post:a'.defers=[]/\∃ v,(results fn a'.tmps).run P w'=.ok v w'/\∃ v' cur'' ty'',Ending.returned v=.returned v'/\ID av w' (w7 (xs.map (AV.frz s'.drop0))) v'/\w'.heap[p]?=some (.cells cur'' ty'' (0,0))/\cur''.size=cur.size/\rB av w' (row.map fun x=>AV.frz0 s'.drop0 x.v) (cur''.toList.take (row.map fun x=>AV.frz0 s'.drop0 x.v).length)/\ZA (fun b=>b=p) w w':=by
        refine ⟨R'.defers,_,wi,_,ua,uh,rfl,lZ (hs.toT wc fun v hv=>y8.1 bc v hv),dq,hz.trans hz',?_,R'.kept⟩;have h1:=ja.rep.frz R'.drop0;rw [y5] at h1;have h2:=FG h1 fun x hx=>y8.1 ia.1 x hx
        rw [y7];exact rB.held (FA.less wc) _ _ h2
       rcases lj with rfl | rfl <;> exact post
      ·cases ee
     ·cases ee
    | none,h=>trivial
    | some (.int ..),h=>trivial
    | some (.bool _),h=>trivial
    | some (.str _),h=>trivial
    | some .nilP,h=>trivial
    | some (.ptr ..),h=>trivial
    | some (.ip _),h=>trivial
    | some (.bp _),h=>trivial
    | some (.sl ..),h=>trivial
    | some (.bl _),h=>trivial
    | some (.ref ..),h=>trivial
    | some (.mp ..),h=>trivial
    | some (.fn ..),h=>trivial
    | some (.tup _),h=>trivial
    | some .undef,h=>trivial
   ·cases zd
  ·cases zd
theorem jN {ι:Ix} {Θ:aJ} {av avb:Av}:∀ {xs:List rA} {us:List Value},PF ι Θ av avb w xs us->us.length=xs.length
 | [],_,h=>by simp only [PF] at h; subst h; rfl
 | x :: r,_,h=>by
  simp only [PF] at h;obtain ⟨u,db,rfl,_,_,h⟩:=h;simp [jN h]
theorem qU {ι:Ix} {Θ:aJ} {av avb:Av}:∀ {xs:List rA} {us:List Value} (_:PF ι Θ av avb w xs us) (t:Nat),GA ι av avb w (xs.getD t ⟨.undef,.no⟩).v (us.getD t undef)/\kJ Θ (xs.getD t ⟨.undef,.no⟩).a (us.getD t undef)
 | [],_,_,_=>by simp [GA,kJ]
 | x :: r,_,h,t=>by
  simp only [PF] at h;obtain ⟨u,db,rfl,h0,h1,h⟩:=h;cases t with
  | zero=>simpa using ⟨h0,h1⟩
  | succ t=>simpa using qU h t
theorem RepU_ofS {ι:Ix} {av avb:Av} {x:AV} {v:Value} (h:GA ι av avb w x v) (hx:x.tupOk=true):qP ι av w x v:=by
 cases x <;> first
  | exact h
  | (cases hx; done)
theorem bX {ι:Ix} {Θ:aJ} {av avb:Av}:∀ {xs:List rA} {us:List Value},PF ι Θ av avb w xs us->xs.all (fun x=>x.v.tupOk)=true->wG ι av w (xs.map (·.v)) us
 | [],_,h,_=>h
 | x :: r,_,h,hf=>by
  simp only [PF] at h;obtain ⟨u,db,rfl,h0,_,h⟩:=h;simp only [List.all_cons,ye] at hf;exact ⟨u,db,rfl,RepU_ofS h0 hf.1,bX h hf.2⟩
theorem packS_rep {ι:Ix} {Θ:aJ} {av avb:Av}:∀ {xs:List rA} {us:List Value} {y:rA},PF ι Θ av avb w xs us->sH xs=some y->GA ι av avb w y.v (wM us)/\kJ Θ y.a (wM us)
 | [],us,y,h,hp=>by
  simp only [PF] at h;subst h;injection hp with hp;subst hp;exact ⟨⟨#[],rfl,rfl⟩,trivial⟩
 | [x],us,y,h,hp=>by
  simp only [PF] at h;obtain ⟨u,db,rfl,h0,h1,rfl⟩:=h;injection hp with hp;subst hp;exact ⟨h0,h1⟩
 | x :: z :: r,us,y,h,hp=>by
  have hl:=jN h;have:¬ us.toArray.size=1:=by simp; simp at hl; omega
  unfold wM;rw [dif_neg this];unfold sH at hp;split at hp
  ·rename_i e; cases e
  ·split at hp
   ·rename_i bc;injection hp with hp;subst hp;exact ⟨⟨_,rfl,bX h bc⟩,trivial⟩
   ·cases hp
theorem initH_rel {B:Nat} {F0:BN} {aa:Av} {w0 w:World} {ι:Ix} {Θ:aJ} {xs:List rA} {us:List Value} (R:I5 P O B F0 aa w0 s w ι Θ) (h:PF ι Θ (BB aa ι Θ) (eC ι Θ) w xs us) {np:Nat} (hl:xs.length=np) (hn:np<=nt) :
  DB P O nt B F0 aa w0 (fun _=>False) (s.initH xs) { tmps:=us.toArray++Array.replicate (nt - us.toArray.size) undef,defers:=[] } w ι Θ:=by
 have hg:∀ t,(us.toArray++Array.replicate (nt - us.toArray.size) undef).getD t undef=us.getD t undef:=fun t=>by
  simp only [Y04,List.getD_eq_getElem?_getD,Array.getElem?_append,yO,List.getElem?_toArray];split
  ·rfl
  ·rename_i th;rw [Y07 (by omega)];simp only [Array.getElem?_replicate];split <;> rfl
 have oc:(us.toArray++Array.replicate (nt - us.toArray.size) undef).size=nt:=by
  have:=jN h;simp;omega
 exact ⟨rfl,oc,fun t=>by simp only [pA.initH]; rw [hg]; exact (qU h t).1,fun t=>by simp only [pA.initH]; rw [hg]; exact (qU h t).2,R.rows,R.mine,R.inj,R.tok,R.tinj,R.apart,R.out,R.pin,R.kept,R.base,R.objs,R.obs,R.gen,R.gann⟩
theorem DB.bare {D:Nat->Prop} {ι:Ix} {Θ:aJ} (R:DB P O nt B F0 aa w0 (fun _=>False) s a w ι Θ):I5 P O B F0 aa w0 s w ι Θ :=
 ⟨rfl,rfl,fun _=>trivial,fun _=>trivial,R.rows,R.mine,R.inj,R.tok,R.tinj,R.apart,R.out,R.pin,R.kept,R.base,R.objs,R.obs,R.gen,R.gann⟩
theorem d8 (hm:P.follows .mixedOrders=true) {call:uB} {lp:LH} {N:Nat} (ib:∀ f args S r,call f args S=some r->LA P O f args S r) (io:LpOk P O N lp.l) (di:HZ P O lp.h) {f:FuncId} {fn:Func} {c:DA} (ad:∀ xs w,(callFunc f xs).run P w=.ok (.enter f xs) w) (om:P.funcs[f]?=some fn) (zd:jR P c.mu fn=some c) {xs:List rA} {k:rA->pA->Option RV} {r:RV} (da:xs.length=c.np)
  (h:c.code.run call lp (s.initH xs) (CH c k)=some r):(∀ vs w,(callFunc f vs).run P w=.ok (.enter f vs) w) ∧
 ∀ (B:Nat) (F0:BN) (aa:Av) (w0 w:World) (ι:Ix) (Θ:aJ) (us:List Value) (E:Ending->World->Prop),I5 P O B F0 aa w0 s w ι Θ->PF ι Θ (BB aa ι Θ) (eC ι Θ) w xs us →
  (∀ y s' w' ι' Θ' v,I5 P O B F0 aa w0 s' w' ι' Θ'->GA ι' (BB aa ι' Θ') (eC ι' Θ') w' y.v v->kJ Θ' y.a v->k y s'=some r->E (.returned v) w')->Calls P f us.toArray w E:=by
 unfold jR at zd;split at zd
 ·cases zd
 ·rename_i code jj;split at zd
  ·rename_i cc rr ah hrr;split at zd
   ·rename_i ia;injection zd with zd;obtain ⟨mu,jn⟩:∃ mu,mu=c.mu:=⟨_,rfl⟩;rw [<- jn] at zd ah;clear jn;subst zd;have dy:fn.params.size + fn.nfree<=fn.ntmps:=ia;refine ⟨ad,fun B F0 aa w0 w ι Θ us E R lc hE=>?_⟩;refine calls_of_wp om jj ?_;refine mE hm ib io di code cc _ _ _ _ w _ ah h ⟨ι,Θ,initH_rel R lc da dy⟩ fun e s' a' w' R' he=>?_
    have lj:e=.nrm\/e=.ret:=by
     cases e with
     | nrm=>exact .inl rfl
     | ret=>exact .inr rfl
     | exit id=>cases he
    have kh:∃ y,(JE s' rr).bind sH=some y/\k y s'=some r:=by
     rcases lj with rfl | rfl <;> exact y9.1 he
    obtain ⟨y,hy,hk⟩:=kh;obtain ⟨l,hl,hp⟩:=y9.1 hy;obtain ⟨ι',Θ',R'⟩:=R';obtain ⟨vs,hvs,tp⟩:=FT R' hrr hl;have wi:(results fn a'.tmps).run P w'=.ok (wM vs) w':=by
     have he:results fn a'.tmps=(do let vs <- fn.results.mapM (jM a'.tmps); pure (if h:vs.size=1 then vs[0] else .tuple vs)):=rfl;rw [he,Array.mapM_eq_mapM_toList];simp only [Sem.run_bind,Sem.run_map,hvs,Result.andThen_ok,Sem.run_pure];rfl
    obtain ⟨jk,pk⟩:=packS_rep tp hp;have post:a'.defers=[]/\∃ v,(results fn a'.tmps).run P w'=.ok v w'/\E (.returned v) w':=⟨R'.defers,_,wi,hE y s' w' ι' Θ' _ (DB.bare (D:=fun _=>False) R') jk pk hk⟩;rcases lj with rfl | rfl <;> exact post
   ·cases zd
  ·cases zd
theorem E8 {args rest:List AV} (h:zR args=some rest):args=.undef :: .undef :: rest:=by
 unfold zR at h;split at h
 ·injection h with h; subst h; rfl
 ·cases h
theorem AX (hm:P.follows .mixedOrders=true) {T:Nat->Option DA} {ext:uB} (hT:∀ f c,T f=some c->zA P f c) (au:∀ f args S r,ext f args S=some r->LA P O f args S r) :
  ∀ N,(∀ f args S r,QD T ext N f args S=some r->LA P O f args S r)/\LpOk P O N (QI T ext N)/\HZ P O (HJ T ext N)
 | 0=>by
  refine ⟨fun f args S r h=>?_,fun _ _ _ _ _ _ _ _ _ _ _ _ _ _ _ h _ _=>(by cases h),fun _ _ _ _ _ h=>(by cases h)⟩;unfold QD at h;split at h
  ·exact au f args S r h
  ·cases h
 | N + 1=>by
  obtain ⟨wo,xl,xo⟩:=AX hm hT au N;refine ⟨fun f args S0 r h=>?_,fun boxes nt B F0 aa w0 code b s k r a w Q hc h R hk=>?_,fun f xs s k r h=>?_⟩
  ·unfold QD at h;split at h
   ·exact au f args S0 r h
   ·rename_i c hTc;obtain ⟨ad,fn,om,zd⟩:=hT f c hTc;cases hmk:zR args with
    | some rest =>
     rw [hmk] at h
     match S0,h with
     | some (.agg cs),h =>
      simp only at h;split at h
      ·rename_i hl;rw [E8 hmk];exact row_sound (lp:=⟨QI T ext N,HJ T ext N⟩) hm wo xl xo ad om zd hl.1 h
      ·cases h
     | none,h=>cases h
     | some (.int ..),h=>cases h
     | some (.bool _),h=>cases h
     | some (.str _),h=>cases h
     | some .nilP,h=>cases h
     | some (.ptr ..),h=>cases h
     | some (.ip _),h=>cases h
     | some (.bp _),h=>cases h
     | some (.sl ..),h=>cases h
     | some (.bl _),h=>cases h
     | some (.ref ..),h=>cases h
     | some (.mp ..),h=>cases h
     | some (.fn ..),h=>cases h
     | some (.tup _),h=>cases h
     | some .undef,h=>cases h
    | none =>
    rw [hmk] at h;simp only at h;split at h
    case isFalse =>
     split at h
     ·rename_i xx;obtain ⟨da,xq,hmt,hS⟩:=xx;cases args with
      | nil=>cases xq
      | cons x rest =>
       cases x with
       | undef =>
        simp only [List.tail_cons] at hmt h;cases S0 with
        | some S=>cases hS
        | none =>
         have h2:=own_sound (O:=O) (lp:=⟨QI T ext N,HJ T ext N⟩) hm wo xl xo ad om zd (by simpa using da) h;cases rest with
         | nil=>exact h2
         | cons y r=>cases y <;> first | exact h2 | (simp [OF] at hmt; done)
       | _=>cases xq
     ·cases h
    ·rename_i xx;obtain ⟨da,xq,hnoit⟩:=xx;unfold jR at zd;split at zd
     ·cases zd
     ·rename_i code jj;split at zd
      ·rename_i cc rr ah hrr;split at zd
       ·rename_i ia;injection zd with zd;obtain ⟨mu,jn⟩:∃ mu,mu=c.mu:=⟨_,rfl⟩;rw [<- jn] at zd ah;clear jn;subst zd;have dy:fn.params.size + fn.nfree<=fn.ntmps:=ia;have ending:∀ {F0:BN} {av:Av} {w:World} {vs:List Value} {E:Ending->World->Prop},
          WD P O fn.ntmps w.heap.size F0 av w (fun _=>False) (pA.init args S0) { tmps:=vs.toArray++Array.replicate (fn.ntmps - vs.toArray.size) undef,defers:=[] } w →
          (∀ (s':pA) (a':Act) (w':World) (ι:Ix) (Θ:aJ) (us:List Value) (xs:List AV),DB P O fn.ntmps w.heap.size F0 av w (fun _=>False) s' a' w' ι Θ->cM ι (P9 s' (BB av ι Θ) ι) (eC ι Θ) w' xs us->t8 S0 s' xs=some r->E (.returned (wM us)) w')->Calls P f vs.toArray w E:=fun {F0 av w vs E} R hE=>by
         refine calls_of_wp om jj ?_;refine mE (lp:=⟨QI T ext N,HJ T ext N⟩) hm wo xl xo code cc _ _ r _ w _ ah h R fun e s' a' w' R' he=>?_
         have lj:e=.nrm\/e=.ret:=by
          cases e with
          | nrm=>exact .inl rfl
          | ret=>exact .inr rfl
          | exit id=>cases he
         have kh:∃ xs,T1 s' rr=some xs/\t8 S0 s' (xs.map (AV.frz s'))=some r:=by
          rcases lj with rfl | rfl <;> exact y9.1 he
         obtain ⟨xs,lc,ee⟩:=kh;obtain ⟨ι,Θ,R'⟩:=R';obtain ⟨us,de,tp⟩:=gX R' hrr lc;have wi:(results fn a'.tmps).run P w'=.ok (wM us) w':=by
          have he:results fn a'.tmps=(do let vs <- fn.results.mapM (jM a'.tmps); pure (if h:vs.size=1 then vs[0] else .tuple vs)):=rfl;rw [he,Array.mapM_eq_mapM_toList];simp only [Sem.run_bind,Sem.run_map,de,Result.andThen_ok,Sem.run_pure];rfl
         have post:a'.defers=[]/\∃ v,(results fn a'.tmps).run P w'=.ok v w'/\E (.returned v) w':=⟨R'.defers,_,wi,hE s' a' w' ι Θ us _ R' (tp.frz R') ee⟩;rcases lj with rfl | rfl <;> exact post
        refine (LA.of xq).2 ⟨ad,?_⟩;obtain ⟨r1,r2⟩:=r;cases S0 with
        | none =>
         cases r2 with
         | none =>
          intro av w vs pd eb;refine ending (jU eb pd da dy) fun s' a' w' ι Θ us xs R' hs ee=>?_
          refine ⟨_,rfl,?_,R'.kept.below⟩;simp only [t8] at ee;split at ee
          ·rename_i bc;injection ee with ee;injection ee with ee;subst ee;exact lZ (hs.toT (fun b o h=>⟨.inl h,fun ⟨t,n,r,hm,hb⟩=>by
            obtain ⟨_,b',cur,ty,jb,_,_,cj,_⟩:=R'.rows t n r hm;rw [hb] at jb;injection jb with jb;subst jb;have:=pd _ _ h;have:=cj.elim id False.elim;omega⟩) fun v hv=>y8.1 bc v hv)
          ·split at ee
           ·split at ee
            ·split at ee <;> cases ee
            ·cases ee
           ·cases ee
         | some S' =>
          intro av w vs pd eb;refine ending (jU eb pd da dy) fun s' a' w' ι Θ us xs R' hs ee=>?_
          simp only [t8] at ee;split at ee
          ·cases ee
          ·split at ee
           ·rename_i t n _;split at ee
            ·rename_i S hS;split at ee
             ·rename_i bc;injection ee with ee;injection ee with hfv1 hfv2;injection hfv2 with hfv2;subst hfv1;subst hfv2;obtain ⟨p,H,hp,ub,jd,_⟩:=R'.objs t n S hS;refine ⟨_,p,H,rfl,?_,jd,fun b hb=>(((R'.obs t n H ub).1 b hb).1).elim id False.elim,R'.kept.below⟩;have fd:∀ v∈xs,((bI t n v).free||(bI t n v).isObj)=true:=fun v hv=>y8.1 bc _ (List.mem_map_of_mem hv)
              refine pack_repN (hs.toO hp (fun b o h=>?_) fd) fun v hv=>y8.1 bc v hv
              refine ⟨?_,fun ⟨t',n',r,hm,hb⟩=>?_⟩
              ·rcases h with h | h
               ·exact .inl h
               ·exact .inr (.inl (.inr ⟨t,n,H,ub,h⟩))
              ·obtain ⟨zc,b',cur,ty,jb,_,_,cj,_⟩:=R'.rows t' n' r hm;rw [hb] at jb;injection jb with jb;subst jb;rcases h with h | h
               ·have:=pd _ _ h;have:=cj.elim id False.elim;omega
               ·have e:=((R'.obs t n H ub).1 b h).2.2.1 t' n' hb;rw [e.1,e.2,ub] at zc;cases zc
             ·cases ee
            ·cases ee
           ·cases ee
        | some S =>
         cases r2 with
         | none =>
          trivial
         | some S' =>
          intro av w vs p H pd hH jd eb;have hni:A6 S=true:=hnoit;refine ending (init_some eb pd hH jd hni da dy) fun s' a' w' ι Θ us xs R' hs ee=>?_
          simp only [t8] at ee;split at ee
          ·rename_i bc;obtain ⟨S1,hS1,ee⟩:=yl.1 ee;injection ee with hfv1 hfv2;injection hfv2 with hfv2;subst hfv1;subst hfv2;obtain ⟨p',H',hp,ub,wk,_⟩:=R'.objs 0 0 S1 hS1;have hpp:=(R'.pin p rfl).1;rw [hpp] at hp;injection hp with hp;subst hp;refine ⟨_,H',rfl,lZ (hs.toT (fun b o h=>?_) fun v hv=>y8.1 bc v hv),wk,fun b hb=>(((R'.obs 0 0 H' ub).1 b hb).1).symm,R'.kept⟩;refine ⟨?_,fun ⟨t',n',r,hm,hb⟩=>?_⟩
           ·rcases h with h | h
            ·exact .inl h
            ·exact .inr (.inl (.inr ⟨0,0,H',ub,h⟩))
           ·obtain ⟨zc,b',cur,ty,jb,_,_,cj,_⟩:=R'.rows t' n' r hm;rw [hb] at jb;injection jb with jb;subst jb;rcases h with h | h
            ·have:=pd _ _ h;have:=cj.elim id False.elim;omega
            ·have e:=((R'.obs 0 0 H' ub).1 b h).2.2.1 t' n' hb;rw [e.1,e.2,ub] at zc;cases zc
          ·cases ee
       ·cases zd
      ·cases zd
  ·unfold QI at h;rw [rounds_succ];refine mE (lp:=⟨QI T ext N,HJ T ext N⟩) hm wo xl xo code b s _ r a w _ hc h R fun e s' a' w' R' he=>?_
   cases e with
   | nrm=>exact xl boxes nt B F0 aa w0 code b s' k r a' w' Q hc he R' hk
   | exit id=>exact hk _ _ _ _ R' he
   | ret=>exact hk _ _ _ _ R' he
  ·unfold HJ at h;split at h
   ·cases h
   ·rename_i c hTc;obtain ⟨ad,fn,om,zd⟩:=hT f c hTc;split at h
    ·rename_i da;exact d8 (lp:=⟨QI T ext N,HJ T ext N⟩) hm wo xl xo ad om zd da h
    ·cases h
end
end
section
section
variable {α:Type}
def xB (p:Nat->Prop):Prop:=∃ n,∀ m,n<=m->p m
theorem xB.and {p q:Nat->Prop} (h:xB p) (h':xB q):xB fun m=>p m/\q m:=by
 obtain ⟨n,h⟩:=h;obtain ⟨n',h'⟩:=h';exact ⟨max n n',fun m hm=>⟨h m (by omega),h' m (by omega)⟩⟩
theorem xB.imp {p q:Nat->Prop} (h:xB p) (hi:∀ m,p m->q m):xB q:=by
 obtain ⟨n,h⟩:=h;exact ⟨n,fun m hm=>hi m (h m hm)⟩
theorem xB.now {p:Prop} (h:p):xB fun _=>p:=⟨0,fun _ _=>h⟩
theorem xB.succ {p:Nat->Prop} (h:xB p):xB fun m=>p (m + 1):=by
 obtain ⟨n,h⟩:=h;exact ⟨n,fun m hm=>h (m + 1) (by omega)⟩
theorem xB.pred {p:Nat->Prop} (h:xB fun m=>p (m + 1)):xB p:=by
 obtain ⟨n,h⟩:=h;exact ⟨n + 1,fun m hm=>by have:=h (m - 1) (by omega); simp only at this; rwa [show m - 1 + 1=m from by omega] at this⟩
theorem xB.some {p:Nat->Prop} (h:xB p):∃ m,p m:=by
 obtain ⟨n,h⟩:=h;exact ⟨n,h n (yf _)⟩
theorem s7 {s:pA} {callA:uB} {callB:Nat->uB} (hc:∀ f args S r,callA f args S=some r->xB fun m=>callB m f args S=some r) (k:K) {xe:rA × SC} (h:k.run callA s=some xe):xB fun m=>k.run (callB m) s=some xe:=by
 cases k with
 | call cl f xs =>
  simp only [K.run] at h ⊢;cases hl:JD s cl xs with
  | none=>rw [hl] at h; cases h
  | some vs =>
   rw [hl] at h;simp only [J] at h ⊢;split at h
   ·obtain ⟨r,hr,h⟩:=y9.1 h;exact (hc f vs _ r hr).imp fun m hm=>by rw [hm]; exact h
   ·obtain ⟨r,hr,h⟩:=y9.1 h;exact (hc f vs _ r hr).imp fun m hm=>by rw [hm]; exact h
   ·cases h
 | callf cl f z xs =>
  simp only [K.run] at h ⊢;cases hl:JD s cl xs with
  | none=>rw [hl] at h; cases h
  | some vs =>
   rw [hl] at h;simp only [J] at h ⊢;split at h
   ·obtain ⟨r,hr,h⟩:=y9.1 h;exact (hc f (.undef :: vs) _ r hr).imp fun m hm=>by rw [hm]; exact h
   ·cases h
 | callo cl f z xs =>
  simp only [K.run] at h ⊢;split at h
  ·rename_i vs hl ho
   try simp only [hl,ho]
   obtain ⟨r,hr,h⟩:=y9.1 h;exact (hc f (.undef :: vs) _ r hr).imp fun m hm=>by rw [hm]; exact h
  ·cases h
 | calln cl f z L x xs =>
  simp only [K.run] at h ⊢;split at h
  ·rename_i vs hl ho
   try simp only [hl,ho]
   split at h
   ·rename_i hf
    try simp only [hf,if_true]
    split at h
    ·rename_i t n z' off ln cap hx;split at h
     ·rename_i l he
      try simp only [he]
      split at h
      ·rename_i eu
       try simp only [eu,and_self,if_true]
       obtain ⟨r,hr,h⟩:=y9.1 h;exact (hc f (.undef :: .sl false l :: vs) _ r hr).imp fun m hm=>by simp_all
      ·cases h
     ·cases h
    ·rename_i b hx
     try simp only [hx]
     split at h
     ·rename_i kj
      try simp only [kj,if_true]
      obtain ⟨r,hr,h⟩:=y9.1 h;exact (hc f (.undef :: .sl b [] :: vs) _ r hr).imp fun m hm=>by simp_all
     ·cases h
    ·cases h
   ·cases h
  ·cases h
 | callq cl f xs =>
  simp only [K.run] at h ⊢;split at h
  ·rename_i eu;obtain ⟨r,hr,h⟩:=y9.1 h;exact (hc f _ _ r hr).imp fun m hm=>by rw [if_pos eu,hm]; exact h
  ·cases h
 | callv cl x xs =>
  simp only [K.run] at h ⊢;split at h
  ·rename_i f cs hx
   try simp only [hx]
   split at h
   ·rename_i vs ws hl hw ho
    try simp only [hl,hw,ho]
    obtain ⟨r,hr,h⟩:=y9.1 h;exact (hc f (vs++ws) _ r hr).imp fun m hm=>by rw [hm]; exact h
   ·cases h
  ·cases h
 | callr cl f xs =>
  simp only [K.run] at h ⊢;split at h
  ·rename_i t n hp
   try simp only [hp]
   split at h
   ·rename_i sa;simp only [if_pos sa];split at h
    ·rename_i r vs hr hv
     try simp only [hr,hv]
     split at h
     ·rename_i bc;simp only [if_pos bc];obtain ⟨q,hq,h⟩:=y9.1 h;exact (hc f _ _ q hq).imp fun m hm=>by rw [hm]; exact h
     ·cases h
    ·cases h
   ·cases h
  ·cases h
 | _=>exact xB.now h
theorem step_late {s s1:pA} {callA:uB} {callB:Nat->uB} (hc:∀ f args S r,callA f args S=some r->xB fun m=>callB m f args S=some r) (o:WA) (h1:o.step callA s=some s1):xB fun m=>o.step (callB m) s=some s1:=by
 unfold WA.step at h1 ⊢;cases hg:o.guard with
 | none =>
  rw [hg] at h1;simp only at h1 ⊢;obtain ⟨xe,hx,he⟩:=y9.1 h1;exact (s7 hc o.op hx).imp fun m hm=>by rw [hm]; exact he
 | some p =>
  obtain ⟨t,want⟩:=p;rw [hg] at h1;simp only at h1 ⊢;cases hv:(s.env t).v with
  | bool b =>
   rw [hv] at h1;simp only at h1 ⊢;by_cases hb:b=want
   ·rw [if_pos hb] at h1;simp only [if_pos hb];obtain ⟨xe,hx,he⟩:=y9.1 h1;exact (s7 hc o.op hx).imp fun m hm=>by rw [hm]; exact he
   ·rw [if_neg hb] at h1;simp only [if_neg hb];exact xB.now h1
  | tup l=>rw [hv] at h1; cases l with
   | nil=>exact xB.now h1
   | cons=>cases h1
  | _=>rw [hv] at h1; cases h1
def QV (hA:HpT) (hB:Nat->HpT):Prop:=∀ f xs s k r (km:Nat->rA->pA->Option RV),(∀ y s' r',k y s'=some r'->xB fun m=>km m y s'=some r')->hA f xs s k=some r->xB fun m=>hB m f xs s (km m)=some r
theorem jY {s:pA} {lhA:LH} {lhB:Nat->LH} (hh:QV lhA.h fun m=>(lhB m).h) (d:Option Nat) (nt:Nat) (x:bB) (xs:List bB) {k:pA->Option RV} {r:RV} {km:Nat->pA->Option RV} (hk:∀ s' r',k s'=some r'->xB fun m=>km m s'=some r') (h:FD lhA d nt x xs s k=some r):xB fun m=>FD (lhB m) d nt x xs s (km m)=some r:=by
 unfold FD at h ⊢;split at h
 ·rename_i f cs hx
  try simp only [hx]
  exact hh _ _ _ _ _ (fun m y s'=>km m ((s'.leave nt).put d y)) (fun y s' r' h'=>hk _ _ h') h
 ·cases h
theorem xB.all {l:List Nat} {Q:Nat->Nat->Prop} (h:∀ i∈l,xB fun m=>Q i m):xB fun m=>∀ i∈l,Q i m:=by
 induction l with
 | nil=>exact ⟨0,fun m _ i hi=>by cases hi⟩
 | cons a r ih =>
  refine ((h a yp).and (ih fun i hi=>h i (yG _ hi))).imp fun m hm i hi=>?_
  rcases yw.1 hi with rfl | hi
  ·exact hm.1
  ·exact hm.2 i hi
theorem SY {s:pA} (d:Option Nat) (x:bB) {k:pA->Option RV} {r:RV} {km:Nat->pA->Option RV} (hk:∀ s' r',k s'=some r'->xB fun m=>km m s'=some r') (h:AY d x s k=some r):xB fun m=>AY d x s (km m)=some r:=by
 unfold AY at h ⊢;split at h
 ·rename_i t n hx
  try simp only [hx]
  split at h
  ·rename_i tm nm N seen hi
   try simp only [hi]
   split at h
   ·rename_i L hL
    try simp only [hL]
    split at h
    ·rename_i hN
     try simp only [hN,if_true]
     obtain ⟨h1,h2⟩:=DT _ h;have ug:=xB.all (Q:=fun i m=>(match L[i]? with | some [y,v]=>if y.flat&&v.flat then km m ((s.setObj t n (i4 tm nm N (seen++[i]))).put d ⟨.tup [.bool true,y,v],.no⟩) else none | _=>none)=some r) fun i bd=>by
      have:=h2 i bd;split at this
      ·rename_i y v hy;split at this
       ·rename_i hf;simp only [hy,hf,if_true];exact hk _ _ this
       ·cases this
      ·cases this
     by_cases he:(List.range N).filter (fun i=>!seen.contains i)=[]
     ·refine (hk _ _ (h1 he)).imp fun m hm=>zZ _ (fun _=>hm) fun i bd=>?_
      rw [he] at bd;cases bd
     ·exact ug.imp fun m hm=>zZ _ (fun e=>absurd e he) hm
    ·cases h
   ·cases h
  ·cases h
 ·cases h
theorem C8 {s:pA} {callA:uB} {callB:Nat->uB} {lhA:LH} {lhB:Nat->LH} (hc:∀ f args S r,callA f args S=some r->xB fun m=>callB m f args S=some r) (hh:QV lhA.h fun m=>(lhB m).h) (o:WA) {k:pA->Option RV} {r:RV} {km:Nat->pA->Option RV} (hk:∀ s' r',k s'=some r'->xB fun m=>km m s'=some r') (h:o.stepK callA lhA s k=some r):xB fun m=>o.stepK (callB m) (lhB m) s (km m)=some r:=by
 obtain ⟨d,op,g⟩:=o;by_cases tb:isH op=true
 ·cases op with
  | callh nt x xs =>
   simp only [WA.stepK,CI] at h ⊢;cases g with
   | none=>exact jY hh d nt x xs hk h
   | some p =>
    obtain ⟨t,want⟩:=p;simp only at h ⊢;cases hv:(s.env t).v with
    | bool b =>
     rw [hv] at h;simp only at h ⊢;by_cases hb:b=want
     ·rw [if_pos hb] at h;simp only [if_pos hb];exact jY hh d nt x xs hk h
     ·rw [if_neg hb] at h;simp only [if_neg hb];exact hk _ _ h
    | tup l=>rw [hv] at h; cases l with
     | nil=>exact hk _ _ h
     | cons=>cases h
    | _=>rw [hv] at h; cases h
  | nxt x =>
   simp only [WA.stepK,CI] at h ⊢;cases g with
   | none=>exact SY d x hk h
   | some p =>
    obtain ⟨t,want⟩:=p;simp only at h ⊢;cases hv:(s.env t).v with
    | bool b =>
     rw [hv] at h;simp only at h ⊢;by_cases hb:b=want
     ·rw [if_pos hb] at h;simp only [if_pos hb];exact SY d x hk h
     ·rw [if_neg hb] at h;simp only [if_neg hb];exact hk _ _ h
    | tup l=>rw [hv] at h; cases l with
     | nil=>exact hk _ _ h
     | cons=>cases h
    | _=>rw [hv] at h; cases h
  | _=>cases tb
 ·have tb:isH op=false:=by simpa using tb
  rw [XH tb] at h;obtain ⟨s1,h1,h2⟩:=y9.1 h;exact ((step_late hc ⟨d,op,g⟩ h1).and (hk _ _ h2)).imp fun m hm=>by rw [XH tb,hm.1]; exact hm.2
theorem N6 {callA:uB} {callB:Nat->uB} {lhA:LH} {lhB:Nat->LH} (hc:∀ f args S r,callA f args S=some r->xB fun m=>callB m f args S=some r) (hh:QV lhA.h fun m=>(lhB m).h):∀ (ops:List WA) {s:pA} {k:pA->Option RV} {r:RV} {km:Nat->pA->Option RV},(∀ s' r',k s'=some r'->xB fun m=>km m s'=some r')->qG callA lhA ops s k=some r->xB fun m=>qG (callB m) (lhB m) ops s (km m)=some r
 | [],s,k,r,km,hk,h=>hk _ _ h
 | o :: l,s,k,r,km,hk,h=>C8 hc hh o (km:=fun m s=>qG (callB m) (lhB m) l s (km m)) (fun s' r' h'=>N6 hc hh l hk h') h
theorem uD {callA:uB} {lpA:LH} {callB:Nat->uB} {lpB:Nat->LH} (hc:∀ f args S r,callA f args S=some r->xB fun m=>callB m f args S=some r) (hh:QV lpA.h fun m=>(lpB m).h)
  (hl:∀ b s k r (km:Nat->Ex->pA->Option RV),(∀ e s' r',k e s'=some r'->xB fun m=>km m e s'=some r')->lpA b s k=some r->xB fun m=>lpB m b s (km m)=some r) :
  ∀ (c:C) (s:pA) (k:Ex->pA->Option RV) (r:RV) (km:Nat->Ex->pA->Option RV),(∀ e s' r',k e s'=some r'->xB fun m=>km m e s'=some r')->c.run callA lpA s k=some r->xB fun m=>c.run (callB m) (lpB m) s (km m)=some r
 | .skip,s,k,r,km,hk,h=>hk _ _ _ h
 | .exit id,s,k,r,km,hk,h=>hk _ _ _ h
 | .ret,s,k,r,km,hk,h=>hk _ _ _ h
 | .seq a b,s,k,r,km,hk,h=>by
  refine uD hc hh hl a s _ r (fun m e s'=>match e with | .nrm=>b.run (callB m) (lpB m) s' (km m) | e=>km m e s') (fun e s' r' h'=>?_) h;cases e with
  | nrm=>exact uD hc hh hl b s' k r' km hk h'
  | exit id=>exact hk _ _ _ h'
  | ret=>exact hk _ _ _ h'
 | .reg ops,s,k,r,km,hk,h=>by
  simp only [C.run] at h ⊢;exact N6 hc hh ops (km:=fun m s=>km m .nrm { s with next:=s.next + 1 }) (fun s' r' h'=>hk _ _ _ h') h
 | .cond x t e,s,k,r,km,hk,h=>by
  simp only [C.run] at h ⊢;cases hv:x.get s with
  | bool b =>
   rw [hv] at h;cases b with
   | true=>exact uD hc hh hl t s k r km hk (by simpa using h)
   | false=>exact uD hc hh hl e s k r km hk (by simpa using h)
  | _=>rw [hv] at h; cases h
 | .block id b,s,k,r,km,hk,h=>by
  refine uD hc hh hl b s _ r (fun m e s'=>match e with | .exit j=>if j=id then km m .nrm s' else km m (.exit j) s' | e=>km m e s') (fun e s' r' h'=>?_) h;cases e with
  | nrm=>exact hk _ _ _ h'
  | ret=>exact hk _ _ _ h'
  | exit j =>
   simp only at h' ⊢;by_cases e:j=id
   ·rw [if_pos e] at h'; simp only [if_pos e]; exact hk _ _ _ h'
   ·rw [if_neg e] at h'; simp only [if_neg e]; exact hk _ _ _ h'
 | .loop b,s,k,r,km,hk,h=>hl b s k r km hk h
variable {T:Nat->Option DA} {ext:uB}
theorem F7 {ext':uB} (hx:∀ f args S r,ext f args S=some r->ext' f args S=some r):∀ N,(∀ f args S r,QD T ext N f args S=some r->xB fun m=>QD T ext' m f args S=some r) ∧
  (∀ b s k r (km:Nat->Ex->pA->Option RV),(∀ e s' r',k e s'=some r'->xB fun m=>km m e s'=some r')->QI T ext N b s k=some r->xB fun m=>QI T ext' m b s (km m)=some r) ∧
  QV (HJ T ext N) (HJ T ext')
 | 0=>by
  refine ⟨fun f args S r h=>⟨0,fun m _=>?_⟩,fun b s k r km _ h=>(by cases h),fun f xs s k r km _ h=>(by cases h)⟩;unfold QD at h;cases hT:T f with
  | none=>rw [hT] at h; cases m <;> (unfold QD; rw [hT]; exact hx _ _ _ _ h)
  | some c=>rw [hT] at h; cases h
 | N + 1=>by
  obtain ⟨wo,xl,xo⟩:=F7 hx N;refine ⟨?_,?_,?_⟩
  ·intro f args S0 r h;unfold QD at h;cases hT:T f with
   | none=>rw [hT] at h; exact ⟨0,fun m _=>by cases m <;> (unfold QD; rw [hT]; exact hx _ _ _ _ h)⟩
   | some c =>
    rw [hT] at h;cases hm:zR args with
    | some rest =>
     cases S0 with
     | none=>rw [hm] at h; cases h
     | some S =>
      cases S with
      | agg cs =>
       rw [hm] at h;simp only at h;split at h
       ·rename_i hl;refine xB.pred ((uD (lpA:=⟨QI T ext N,HJ T ext N⟩) (lpB:=fun m=>⟨QI T ext' m,HJ T ext' m⟩) wo xo xl c.code _ _ r (fun _=>finR c cs.length) (fun e s' r' h'=>xB.now h') h).imp fun m ae=>?_);unfold QD;rw [hT];simp only [hm];rw [if_pos hl];exact ae
       ·cases h
      | _=>rw [hm] at h; cases h
    | none =>
     rw [hm] at h;simp only at h;split at h
     ·rename_i hl;refine xB.pred ((uD (lpA:=⟨QI T ext N,HJ T ext N⟩) (lpB:=fun m=>⟨QI T ext' m,HJ T ext' m⟩) wo xo xl c.code _ _ r (fun _=>mI c S0) (fun e s' r' h'=>xB.now h') h).imp fun m ae=>?_);unfold QD;rw [hT];simp only [hm];rw [if_pos hl];exact ae
     ·rename_i hl;split at h
      ·rename_i rm;refine xB.pred ((uD (lpA:=⟨QI T ext N,HJ T ext N⟩) (lpB:=fun m=>⟨QI T ext' m,HJ T ext' m⟩) wo xo xl c.code _ _ r (fun _=>UJ c) (fun e s' r' h'=>xB.now h') h).imp fun m ae=>?_);unfold QD;rw [hT];simp only [hm];rw [if_neg hl,if_pos rm];exact ae
      ·cases h
  ·intro b s k r km hk h;unfold QI at h;refine xB.pred ((uD (lpA:=⟨QI T ext N,HJ T ext N⟩) (lpB:=fun m=>⟨QI T ext' m,HJ T ext' m⟩) wo xo xl b s _ r (fun m=>RK (QI T ext' m) b (km (m + 1))) (fun e s' r' h'=>?_) h).imp fun m hm=>?_)
   ·cases e with
    | nrm=>exact xl b s' k r' (fun m=>km (m + 1)) (fun e s'' r'' h''=>(hk e s'' r'' h'').succ) h'
    | exit id=>exact (hk _ _ _ h').succ
    | ret=>exact (hk _ _ _ h').succ
   ·unfold QI;exact hm
  ·intro f xs s k r km hk h;unfold HJ at h;cases hT:T f with
   | none=>rw [hT] at h; cases h
   | some c =>
    rw [hT] at h;simp only at h;split at h
    ·rename_i hl;refine xB.pred ((uD (lpA:=⟨QI T ext N,HJ T ext N⟩) (lpB:=fun m=>⟨QI T ext' m,HJ T ext' m⟩) wo xo xl c.code _ _ r (fun m=>CH c (km (m + 1))) (fun e s' r' h'=>?_) h).imp fun m hm=>?_)
     ·cases e with
      | exit id=>cases h'
      | nrm =>
       simp only [CH] at h' ⊢;obtain ⟨y,hy,h'⟩:=y9.1 h';simp only [hy,J];exact (hk _ _ _ h').succ
      | ret =>
       simp only [CH] at h' ⊢;obtain ⟨y,hy,h'⟩:=y9.1 h';simp only [hy,J];exact (hk _ _ _ h').succ
     ·unfold HJ;rw [hT];simp only;rw [if_pos hl];exact hm
    ·cases h
theorem QK:∀ N,(∀ f args S r,QD T ext N f args S=some r->xB fun m=>QD T ext m f args S=some r) ∧
  (∀ b s k r (km:Nat->Ex->pA->Option RV),(∀ e s' r',k e s'=some r'->xB fun m=>km m e s'=some r')->QI T ext N b s k=some r->xB fun m=>QI T ext m b s (km m)=some r)/\QV (HJ T ext N) (HJ T ext):=F7 fun _ _ _ _ h=>h
open Classical in
noncomputable def rD (T:Nat->Option DA) (ext:uB) (f:Nat) (args:List AV) (S0:Option AV):Option RV:=if h:∃ r n,QD T ext n f args S0=some r then some h.choose else none
open Classical in
noncomputable def zF (T:Nat->Option DA) (ext:uB):LpT:=fun b s k=>if h:∃ r n,QI T ext n b s k=some r then some h.choose else none
open Classical in
noncomputable def evH (T:Nat->Option DA) (ext:uB):HpT:=fun f xs s k=>if h:∃ r n,HJ T ext n f xs s k=some r then some h.choose else none
noncomputable def IF (T:Nat->Option DA) (ext:uB):LH:=⟨zF T ext,evH T ext⟩
theorem pI {f:Nat} {args:List AV} {S0:Option AV} {r:RV}:rD T ext f args S0=some r ↔ ∃ n,QD T ext n f args S0=some r:=by
 unfold rD;constructor
 ·intro h;split at h
  ·rename_i hh; injection h with h; exact h ▸ hh.choose_spec
  ·cases h
 ·rintro ⟨n,hn⟩;have hh:∃ r n,QD T ext n f args S0=some r:=⟨r,n,hn⟩;rw [dif_pos hh];obtain ⟨n',wn⟩:=hh.choose_spec;obtain ⟨m,h1,h2⟩:=(((QK n).1 f args S0 r hn).and ((QK n').1 f args S0 _ wn)).some;rw [h1] at h2;exact h2.symm
theorem BX {b:C} {s:pA} {k:Ex->pA->Option RV} {r:RV}:zF T ext b s k=some r ↔ ∃ n,QI T ext n b s k=some r:=by
 unfold zF;constructor
 ·intro h;split at h
  ·rename_i hh; injection h with h; exact h ▸ hh.choose_spec
  ·cases h
 ·rintro ⟨n,hn⟩;have hh:∃ r n,QI T ext n b s k=some r:=⟨r,n,hn⟩;rw [dif_pos hh];obtain ⟨n',wn⟩:=hh.choose_spec;obtain ⟨m,h1,h2⟩:=(((QK n).2.1 b s k r (fun _=>k) (fun e s' r' h=>xB.now h) hn).and ((QK n').2.1 b s k _ (fun _=>k) (fun e s' r' h=>xB.now h) wn)).some;rw [h1] at h2;exact h2.symm
theorem CX {f:Nat} {xs:List rA} {s:pA} {k:rA->pA->Option RV} {r:RV}:evH T ext f xs s k=some r ↔ ∃ n,HJ T ext n f xs s k=some r:=by
 unfold evH;constructor
 ·intro h;split at h
  ·rename_i hh; injection h with h; exact h ▸ hh.choose_spec
  ·cases h
 ·rintro ⟨n,hn⟩;have hh:∃ r n,HJ T ext n f xs s k=some r:=⟨r,n,hn⟩;rw [dif_pos hh];obtain ⟨n',wn⟩:=hh.choose_spec;obtain ⟨m,h1,h2⟩:=(((QK n).2.2 f xs s k r (fun _=>k) (fun e s' r' h=>xB.now h) hn).and ((QK n').2.2 f xs s k _ (fun _=>k) (fun e s' r' h=>xB.now h) wn)).some;rw [h1] at h2;exact h2.symm
theorem evC_mono {ext':uB} (hx:∀ f args S r,ext f args S=some r->ext' f args S=some r) {f:Nat} {args:List AV} {S0:Option AV} {r:RV} (h:rD T ext f args S0=some r):rD T ext' f args S0=some r:=by
 obtain ⟨n,hn⟩:=pI.1 h;exact pI.2 ((F7 hx n).1 f args S0 r hn).some
theorem r6 (f:Nat) (args:List AV) (S0:Option AV) (r:RV) (h:rD T ext f args S0=some r):xB fun m=>QD T ext m f args S0=some r:=by
 obtain ⟨n,hn⟩:=pI.1 h;exact (QK n).1 f args S0 r hn
theorem u6 (b:C) (s:pA) (k:Ex->pA->Option RV) (r:RV) (km:Nat->Ex->pA->Option RV) (hk:∀ e s' r',k e s'=some r'->xB fun m=>km m e s'=some r') (h:zF T ext b s k=some r):xB fun m=>QI T ext m b s (km m)=some r:=by
 obtain ⟨n,hn⟩:=BX.1 h;exact (QK n).2.1 b s k r km hk hn
theorem ev_late3:QV (evH T ext) (HJ T ext):=fun f xs s k r km hk h=>by
 obtain ⟨n,hn⟩:=CX.1 h;exact (QK n).2.2 f xs s k r km hk hn
theorem FS (c:C) (s:pA) (k:Ex->pA->Option RV) (r:RV) (km:Nat->Ex->pA->Option RV) (hk:∀ e s' r',k e s'=some r'->xB fun m=>km m e s'=some r') (h:c.run (rD T ext) (IF T ext) s k=some r):xB fun m=>c.run (QD T ext m) ⟨QI T ext m,HJ T ext m⟩ s (km m)=some r :=
 uD (lpA:=IF T ext) (lpB:=fun m=>⟨QI T ext m,HJ T ext m⟩) r6 ev_late3 u6 c s k r km hk h
theorem wC {f:Nat} {args:List AV} {S0:Option AV} {r:RV} (c:DA) (hT:T f=some c) (hl:args.length=c.np) (h:c.code.run (rD T ext) (IF T ext) (pA.init args S0) (mI c S0)=some r) (hm:OF args=false:=by rfl) (hS:noItO S0=true:=by rfl):rD T ext f args S0=some r:=by
 obtain ⟨m,ae⟩:=(FS c.code _ _ r (fun _=>mI c S0) (fun e s' r' h'=>xB.now h') h).some;refine pI.2 ⟨m + 1,?_⟩;have hR:zR args=none:=by
  unfold zR;split
  ·cases hm
  ·rfl
 unfold QD;rw [hT];simp only [hR];rw [if_pos ⟨hl,hm,hS⟩];exact ae
theorem eD {f:Nat} {args:List AV} {r:RV} (c:DA) (hT:T f=some c) (hl:args.length=c.np) (h:c.code.run (rD T ext) (IF T ext) (pA.init args none) (UJ c)=some r) (hm:OF args=false:=by rfl):rD T ext f (.undef :: args) none=some r:=by
 obtain ⟨m,ae⟩:=(FS c.code _ _ r (fun _=>UJ c) (fun e s' r' h'=>xB.now h') h).some;refine pI.2 ⟨m + 1,?_⟩;have hR:zR (.undef :: args)=none:=by
  cases args with
  | nil=>rfl
  | cons x r=>cases x <;> first | rfl | (simp [OF] at hm; done)
 unfold QD;rw [hT];simp only [hR];rw [if_neg (fun e=>by cases e.2.1),if_pos ⟨by simp [hl],rfl,hm,rfl⟩];exact ae
theorem bK {f:Nat} {xs:List rA} {s:pA} {k:rA->pA->Option RV} {r:RV} (c:DA) (hT:T f=some c) (hl:xs.length=c.np) (h:c.code.run (rD T ext) (IF T ext) (s.initH xs) (CH c k)=some r):evH T ext f xs s k=some r:=by
 obtain ⟨m,ae⟩:=(FS c.code _ _ r (fun _=>CH c k) (fun e s' r' h'=>xB.now h') h).some;refine CX.2 ⟨m + 1,?_⟩;unfold HJ;rw [hT];simp only;rw [if_pos hl];exact ae
theorem uE {f:Nat} {args:List AV} {S0:Option AV} {r:RV} (hT:T f=none) (h:ext f args S0=some r):rD T ext f args S0=some r:=by
 refine pI.2 ⟨0,?_⟩;unfold QD;rw [hT];exact h
theorem gA {b:C} {s:pA} {k:Ex->pA->Option RV} {r:RV} (h:b.run (rD T ext) (IF T ext) s (RK (zF T ext) b k)=some r):zF T ext b s k=some r:=by
 have:=FS b s _ r (fun m=>RK (QI T ext m) b k) (fun e s' r' h'=>by
  cases e with
  | nrm=>exact u6 b s' k r' (fun _=>k) (fun e s'' r'' h''=>xB.now h'') h'
  | exit id=>exact xB.now h'
  | ret=>exact xB.now h') h
 obtain ⟨m,hm⟩:=this.some;refine BX.2 ⟨m + 1,?_⟩;unfold QI;exact hm
theorem GM {P:Program} {O:XE} (hm:P.follows .mixedOrders=true) (hT:∀ f c,T f=some c->zA P f c) (au:∀ f args S r,ext f args S=some r->LA P O f args S r) {f:Nat} {args:List AV} {S0:Option AV} {r:RV} (h:rD T ext f args S0=some r):LA P O f args S0 r:=by
 obtain ⟨n,hn⟩:=pI.1 h;exact (AX hm hT au n).1 f args S0 r hn
end
end
section
open Go Go.RowKit Go.ChangeShapes Go.WideShapes Go.Deep
section
variable {H:Type} {enc:TypeId × Value->H} {P:Program} {w:World} {base:Nat} {spare:Nat->Bool} {held:Bool}
theorem c9 {av:Av} {b sz:Nat}:∀ {els:List (List AV)} {off:Nat},(∀ ld∈els,ld.length=sz)->(∀ (i:Nat) (ld:List AV),els[i]?=some ld->oE av w ld b (off + i * sz))->Rows av w els b off
 | [],_,_,_=>by simp [Rows]
 | ld :: r,off,hl,h=>by
  simp only [Rows];have h0:=h 0 ld rfl;rw [Nat.zero_mul,yJ] at h0;refine ⟨h0,c9 (fun x hx=>hl x (yG _ hx)) fun i x hx=>?_⟩;have:=h (i + 1) x (by simpa using hx);rw [hl ld yp,show off + sz + i * sz=off + (i + 1) * sz from by rw [yM]; omega];exact this
abbrev k9:Av:=fun _ _=>False
end
end
section
open Go Go.RowKit Go.ChangeShapes Go.WideShapes Go.Deep
def nL (P:Program) (t:TypeId):Bool:=match P.underlying t with
 | some (.struct _) | some (.array ..)=>true
 | _=>false
section
variable {H:Type} {enc:TypeId × Value->H} {P:Program} {w:World} {base:Nat} {spare:Nat->Bool} {held:Bool}
theorem wU (hl:laidOutB P=true) {W W':World} (hb:Below W.heap.size W W'):∀ {ts:List TypeId} {vs:List Value} {ds:List (DataW H)} {p:List MemPlace},DataW.TrodAll enc P W 0 (fun _=>true) true ts vs ds p->ts.all (fun t=>P.readableRec t&&decide (t<P.types.size))=true →
  DataW.TrodAll enc P W' 0 (fun b=>decide (b<W.heap.size)) true ts vs ds p
 | [],vs,ds,p,h,_=>by
  cases vs with
  | nil=>cases ds with
   | nil=>exact h
   | cons=>exact h.elim
  | cons=>cases ds <;> exact h.elim
 | t :: ts,vs,ds,p,h,hs=>by
  have ba:=DataW.TrodAll.lt h;obtain ⟨v,mw,d,ds',p',q',rfl,rfl,rfl,h0,h⟩:=trodAll_cons h;simp only [List.all_cons,ye,decide_eq_true_eq] at hs;exact trodAll_cons_mk (Below.trod hl hs.1.1 hs.1.2 h0 hb fun x hx=>ba x (List.mem_append_left _ hx)) (wU hl hb h hs.2)
end
end
section
open Go Go.RowKit
section
variable {P:Program}
end
set_option maxHeartbeats 1000000
end
section
open Go Go.RowKit
variable {O:XE}
end
abbrev oM (d n:Nat):WA:=⟨some d,.mv (.t n),none⟩
abbrev oF (d a n:Nat):WA:=⟨some d,.faddr a (.t n),none⟩
abbrev oL (d n:Nat):WA:=⟨some d,.load .any false 1 (.t n),none⟩
abbrev oA (d z n:Nat):WA:=⟨some d,.load .any true z (.t n),none⟩
abbrev oB (d:Nat)(o:BinOp)(a b:Nat):WA:=⟨some d,.bin o false (.t a) (.t b),none⟩
abbrev oC (d:Nat)(o:BinOp)(a:Nat)(n:Int):WA:=⟨some d,.bin o false (.t a) (.c (.int .i64 n)),none⟩
abbrev oX (d n i:Nat):WA:=⟨some d,.ext (.t n) i,none⟩
abbrev oV (z a b:Nat):WA:=⟨none,.store .any true z (.t a) (.t b),none⟩
abbrev oW (a b:Nat):WA:=⟨none,.store .any false 1 (.t a) (.t b),none⟩
abbrev oI (d z a b:Nat):WA:=⟨some d,.iaddr z (.t a) (.t b),none⟩
abbrev oJ (d:Nat)(n:Int):WA:=⟨some d,.mv (.c (.int .i64 n)),none⟩
abbrev oH (d n:Nat):WA:=⟨some d,.len false (.t n),none⟩
abbrev oU (d n:Nat):WA:=⟨some d,.un .not (.t n),none⟩
abbrev oZ (d:Nat)(b:Bool):WA:=⟨some d,.mv (.c (.bool b)),none⟩
abbrev oK (d n:Nat):WA:=⟨some d,.nilchk (.t n),none⟩
abbrev oY (d:Nat)(l:List AV):WA:=⟨some d,.alloc l,none⟩
abbrev oQ (d z n:Nat):WA:=⟨some d,.box z (.t n),none⟩
abbrev oS (d:Nat)(k:K):WA:=⟨some d,k,none⟩
abbrev oN (k:K):WA:=⟨none,k,none⟩
abbrev oG (d:Nat)(k:K)(g:Nat)(b:Bool):WA:=⟨some d,k,some (g,b)⟩
abbrev oP (d n g:Nat)(b:Bool):WA:=⟨some d,.load .any false 1 (.t n),some (g,b)⟩
abbrev oR (l:List WA)(c:C):C:=.seq (.reg l) c
abbrev oD (n:Nat)(a b:C):C:=.cond (.t n) a b
abbrev oFg (d o n g:Nat)(b:Bool):WA:=⟨some d,.faddr o (.t n),some (g,b)⟩
abbrev oPa (d a b:Nat):WA:=⟨some d,.pick (.t a) (.t b) (.c (.bool false)),none⟩
abbrev oPo (d a b:Nat):WA:=⟨some d,.pick (.t a) (.c (.bool true)) (.t b),none⟩
abbrev oMg (d n g:Nat)(b:Bool):WA:=⟨some d,.mv (.t n),some (g,b)⟩
abbrev oC1 (d f a:Nat):WA:=⟨some d,.call .any f [.t a],none⟩
abbrev oC2 (d f a b:Nat):WA:=⟨some d,.call .any f [.t a,.t b],none⟩
abbrev oC4 (d f a b c e:Nat):WA:=⟨some d,.call .any f [.t a,.t b,.t c,.t e],none⟩
abbrev oLr (d r z n:Nat):WA:=⟨some d,.load (.root r) false z (.t n),none⟩
abbrev oLg (d z n g:Nat)(b:Bool):WA:=⟨some d,.load .any true z (.t n),some (g,b)⟩
abbrev oBg (d:Nat)(o:BinOp)(a b g:Nat)(w:Bool):WA:=⟨some d,.bin o false (.t a) (.t b),some (g,w)⟩
abbrev oCi (d:Nat)(o:BinOp)(a:Nat)(n:Int)(g:Nat)(w:Bool):WA:=⟨some d,.bin o false (.t a) (.c (.int .i64 n)),some (g,w)⟩
abbrev oHg (d n g:Nat)(b:Bool):WA:=⟨some d,.len false (.t n),some (g,b)⟩
abbrev oUg (d n g:Nat)(b:Bool):WA:=⟨some d,.un .not (.t n),some (g,b)⟩
abbrev oIg (d z a b g:Nat)(w:Bool):WA:=⟨some d,.iaddr z (.t a) (.t b),some (g,w)⟩
abbrev oAp (d e z y a b:Nat):WA:=⟨some d,.app .any e z y (.t a) (.t b),none⟩
abbrev oPb (d a b g:Nat)(w:Bool):WA:=⟨some d,.pick (.t a) (.t b) (.c (.bool false)),some (g,w)⟩
abbrev oCg (d f a b g:Nat)(w:Bool):WA:=⟨some d,.call .any f [.t a,.t b],some (g,w)⟩
abbrev zza:List AV:=[(.int .i64 0),(.int .i64 0),(.int .i64 0),(.str (ByteArray.mk #[])),(.int .i64 0),(.str (ByteArray.mk #[])),(.int .i64 0),(.bool false),(.bool false),(.int .i64 0),(.bool false),(.int .i64 0),(.str (ByteArray.mk #[])),(.int .i64 0),(.sl true []),(.sl true []),(.sl true []),(.int .i64 0),(.str (ByteArray.mk #[])),(.int .i64 0),(.int .i64 0),(.int .i64 0),(.bool false),(.int .i64 0),(.int .i64 0)]
abbrev zzb:List AV:=[(.int .i64 0),(.str (ByteArray.mk #[]))]
abbrev zzc:List AV:=[(.int .i64 0),(.str (ByteArray.mk #[])),(.int .i64 0),(.bool false),(.bool false),(.int .i64 0),(.bool false),(.int .i64 0),(.str (ByteArray.mk #[])),(.int .i64 0),(.sl true []),(.sl true []),(.sl true [])]
abbrev zzd:List AV:=[(.int .i64 0),(.str (ByteArray.mk #[])),(.int .i64 0),(.int .i64 0),(.int .i64 0),(.sl true []),(.sl true []),(.int .i64 0),(.int .i64 0),(.bool false)]
abbrev zze:List AV:=[(.int .i64 0),(.bool false),(.int .i64 0),(.str (ByteArray.mk #[])),(.int .i64 0),(.sl true []),(.sl true []),(.sl true [])]
noncomputable def cF (l:List Nat) (f:Func):DA:=(jR Tryz.prog l f).getD ⟨.skip,[],0,[]⟩
def rC:DA:=⟨(oR [oQ 2 1 0,oZ 4 false] (.seq (oR [oS 11 (.call .any 11 []),oU 12 11,oM 13 12,oLg 14 1 2 13 false,oG 15 (.call .any 12 [(.t 14)]) 13 false,oUg 16 15 13 false,oPo 17 13 16,oM 18 17,oMg 19 1 18 false,oG 20 (.call .any 13 [(.t 19)]) 18 false,oUg 21 20 18 false,oPo 22 18 21] (oD 22 (oR [oS 23 (.call .any 11 []),oM 4 23] .ret) .skip)) (oR [oA 25 1 2,oM 26 1,oC2 27 14 25 26,oM 24 27,oX 28 24 0,oX 29 24 1,oX 30 24 2,oS 5 (.alloc [(.sl true [])]),oV 1 5 28,oM 6 29,oM 7 30] (oR [oA 32 1 2,oM 33 1,oC2 34 15 32 33,oM 31 34,oX 35 31 0,oX 36 31 1,oX 37 31 2,oS 8 (.alloc [(.sl true [])]),oV 1 8 35,oM 9 36,oM 10 37] (oR [oM 38 7,oM 39 10,oB 40 .eql 38 39,oM 41 40,oMg 42 6 41 true,oMg 43 9 41 true,oBg 44 .eql 42 43 41 true,oPa 45 41 44,oM 46 45,oLg 47 1 5 46 true,oLg 48 1 8 46 true,oCg 49 16 47 48 46 true,oPa 50 46 49,oM 4 50] .ret))))),[(.tmp 4)],2,[]⟩
theorem okF {n:Nat} {f:Func} {c:DA} (h:Tryz.prog.funcs[n]?=some f) (a:∀ xs w,(callFunc n xs).run Tryz.prog w=.ok (.enter n xs) w:=by intro _ _;kernel_rfl) (b:jR Tryz.prog c.mu f=some c:=by kernel_rfl):zA Tryz.prog n c:=⟨a,f,h,b⟩
theorem EG:zA Tryz.prog 3 rC:=okF Tryz.func3
def UH:DA:=⟨(oR [oQ 2 1 0,oQ 3 1 1,oZ 4 false] (.seq (oR [oS 9 (.call .any 11 []),oU 10 9,oM 11 10,oLg 12 1 2 11 false,oG 13 (.call .any 12 [(.t 12)]) 11 false,oUg 14 13 11 false,oPo 15 11 14,oM 16 15,oLg 17 1 3 16 false,oG 18 (.call .any 12 [(.t 17)]) 16 false,oUg 19 18 16 false,oPo 20 16 19] (oD 20 (oR [oS 21 (.call .any 11 []),oM 4 21] .ret) .skip)) (oR [oA 23 1 2,oA 24 1 3,oC2 25 17 23 24,oM 22 25,oX 26 22 0,oX 27 22 1,oM 5 26,oM 6 27] (oR [oA 29 1 2,oA 30 1 3,oC2 31 18 29 30,oM 28 31,oX 32 28 0,oX 33 28 1,oM 7 32,oM 8 33] (oR [oM 34 6,oM 35 8,oB 36 .eql 34 35,oM 37 36,oMg 38 5 37 true,oMg 39 7 37 true,oCg 40 19 38 39 37 true,oPa 41 37 40,oM 4 41] .ret))))),[(.tmp 4)],2,[]⟩
theorem tK:zA Tryz.prog 4 UH:=okF Tryz.func4
def kG:DA:=⟨(oR [oQ 3 1 0,oQ 4 1 1,oZ 6 false] (.seq (oR [oS 13 (.call .any 11 []),oU 14 13,oM 15 14,oLg 16 1 3 15 false,oG 17 (.call .any 20 [(.t 16)]) 15 false,oUg 18 17 15 false,oPo 19 15 18,oM 20 19,oLg 21 1 4 20 false,oG 22 (.call .any 20 [(.t 21)]) 20 false,oUg 23 22 20 false,oPo 24 20 23] (oD 24 (oR [oS 25 (.call .any 11 []),oM 6 25] .ret) .skip)) (oR [oA 27 1 3,oA 28 1 4,oM 29 2,oS 30 (.call .any 21 [(.t 27),(.t 28),(.t 29)]),oM 26 30,oX 31 26 0,oX 32 26 1,oX 33 26 2,oM 7 31,oM 8 32,oM 9 33] (oR [oA 35 1 3,oA 36 1 4,oM 37 2,oS 38 (.call .any 22 [(.t 35),(.t 36),(.t 37)]),oM 34 38,oX 39 34 0,oX 40 34 1,oX 41 34 2,oM 10 39,oM 11 40,oM 12 41] (oR [oM 42 7,oM 43 10,oS 44 (.bin .eql true (.t 42) (.t 43)),oM 45 44,oMg 46 8 45 true,oMg 47 11 45 true,oG 48 (.bin .eql true (.t 46) (.t 47)) 45 true,oPa 49 45 48,oM 50 49,oMg 51 9 50 true,oMg 52 12 50 true,oBg 53 .eql 51 52 50 true,oPa 54 50 53,oM 6 54] .ret))))),[(.tmp 6)],3,[]⟩
theorem DI:zA Tryz.prog 5 kG:=okF Tryz.func5
def tE:DA:=⟨(oR [oQ 3 1 0,oZ 6 false] (.seq (oR [oS 11 (.call .any 11 []),oU 12 11,oM 13 12,oLg 14 1 3 13 false,oG 15 (.call .any 20 [(.t 14)]) 13 false,oUg 16 15 13 false,oPo 17 13 16,oM 18 17,oMg 19 2 18 false,oG 20 (.call .any 13 [(.t 19)]) 18 false,oUg 21 20 18 false,oPo 22 18 21,oM 23 22,oMg 24 2 23 false,oHg 25 24 23 false,oCi 26 .gtr 25 10 23 false,oPo 27 23 26] (oD 27 (oR [oS 28 (.call .any 11 []),oM 6 28] .ret) .skip)) (oR [oA 30 1 3,oM 31 1,oM 32 2,oS 33 (.call .any 23 [(.t 30),(.t 31),(.t 32)]),oM 29 33,oX 34 29 0,oX 35 29 1,oM 7 34,oM 8 35] (oR [oA 37 1 3,oM 38 1,oM 39 2,oS 40 (.call .any 24 [(.t 37),(.t 38),(.t 39)]),oM 36 40,oX 41 36 0,oX 42 36 1,oM 9 41,oM 10 42] (oR [oM 43 7,oM 44 9,oB 45 .eql 43 44,oM 46 45,oMg 47 8 46 true,oMg 48 10 46 true,oBg 49 .eql 47 48 46 true,oPa 50 46 49,oM 6 50] .ret))))),[(.tmp 6)],3,[]⟩
theorem dF:zA Tryz.prog 6 tE:=okF Tryz.func6
def jG:DA:=⟨(oR [oQ 1 25 0,oZ 2 false] (.seq (oR [oS 3 (.call .any 11 []),oU 4 3,oM 5 4,oLg 6 25 1 5 false,oG 7 (.bsl zza 1 [(0,(.t 6))]) 5 false,oG 8 (.call .any 13 [(.t 7)]) 5 false,oUg 9 8 5 false,oPo 10 5 9] (oD 10 (oR [oS 11 (.call .any 11 []),oM 2 11] .ret) .skip)) (oR [oA 12 25 1,oC1 13 25 12,oA 14 25 1,oC1 15 26 14,oB 16 .eql 13 15,oM 2 16] .ret))),[(.tmp 2)],1,[]⟩
theorem SI:zA Tryz.prog 7 jG:=okF Tryz.func7
def kN:C:=oR [oB 88 .lss 87 86] (.seq (oD 88 .skip (.exit 4)) (.seq (.block 5 (oR [oI 89 2 85 87,oA 90 2 89,oY 16 zzb,oV 2 16 90] (oR [oF 91 1 16,oL 92 91,oS 93 (.bin .add false (.t 92) (.c (.str (ByteArray.mk #[120])))),oF 94 1 16,oW 94 93] (.reg [oM 95 10,oM 96 11,oA 97 2 16,oS 98 (.build zza [(0,(1,(.c (.int .i64 4)))),(1,(1,(.t 96))),(17,(2,(.t 97)))]),oS 99 (.bsl zza 1 [(0,(.t 98))]),oAp 100 52 25 272 95 99,oM 10 100])))) (.reg [oC 101 .add 87 1,oM 87 101])))
def lN:C:=oR [oB 65 .lss 64 63] (.seq (oD 65 .skip (.exit 2)) (.seq (.block 3 (oR [oI 66 13 62 64,oA 67 13 66,oY 14 zzc,oV 13 14 67] (oR [oF 68 1 14,oL 69 68,oM 70 2,oS 71 (.bin .rem false (.t 70) (.c (.int .u8 26))),oS 72 (.bin .add false (.c (.int .u8 97)) (.t 71)),oS 73 (.conv (.some .i32) (.t 72)),oS 74 (.rstr (.t 73)),oB 75 .add 69 74,oF 76 1 14,oW 76 75] (.reg [oM 77 10,oM 78 11,oA 79 13 14,oS 80 (.build zza [(0,(1,(.c (.int .i64 3)))),(1,(1,(.t 78))),(4,(13,(.t 79)))]),oS 81 (.bsl zza 1 [(0,(.t 80))]),oAp 82 52 25 272 77 81,oM 10 82])))) (.reg [oC 83 .add 64 1,oM 64 83])))
def zN:C:=oR [oB 41 .lss 40 39] (.seq (oD 41 .skip (.exit 0)) (.seq (.block 1 (oR [oM 42 40,oI 43 10 38 40,oA 44 10 43,oY 12 zzd,oM 11 42,oV 10 12 44] (.seq (oR [oF 45 1 12,oL 46 45,oS 47 (.bin .neq false (.t 46) (.c (.str (ByteArray.mk #[]))))] (oD 47 (.reg [oM 48 10,oM 49 11,oF 50 1 12,oL 51 50,oM 52 1,oS 53 (.bin .rem false (.t 52) (.c (.int .u8 26))),oS 54 (.bin .add false (.c (.int .u8 97)) (.t 53)),oS 55 (.conv (.some .i32) (.t 54)),oS 56 (.rstr (.t 55)),oB 57 .add 51 56,oS 58 (.build zza [(0,(1,(.c (.int .i64 6)))),(1,(1,(.t 49))),(3,(1,(.t 57)))]),oS 59 (.bsl zza 1 [(0,(.t 58))]),oAp 60 52 25 272 48 59,oM 10 60]) .skip)) (.seq (oR [oF 61 6 12,oL 62 61,oH 63 62,oJ 64 0] (.block 2 (.loop lN))) (oR [oF 84 5 12,oL 85 84,oH 86 85,oJ 87 0] (.block 4 (.loop kN))))))) (.reg [oC 102 .add 40 1,oM 40 102])))
def qH:DA:=⟨(oR [oQ 3 4 0,oZ 6 false] (oR [oA 24 4 3,oC1 25 27 24,oM 23 25,oX 26 23 0,oX 27 23 1,oX 28 23 2,oS 7 (.alloc [(.sl true []),(.int .i64 0)]),oS 8 (.alloc [(.sl true []),(.int .i64 0)]),oV 2 7 26,oV 2 8 27,oM 9 28] (.seq (oR [oS 29 (.call .any 11 []),oU 30 29,oM 31 30,oMg 32 9 31 false,oUg 33 32 31 false,oPo 34 31 33] (oD 34 (oR [oS 35 (.call .any 11 []),oM 6 35] .ret) .skip)) (oR [oS 10 (.mv (.c (.sl true [])))] (.seq (oR [oF 36 0 7,oF 37 0 36,oL 38 37,oH 39 38,oJ 40 0] (.block 0 (.loop zN))) (oR [oF 104 0 7,oA 105 1 104,oM 106 10,oC2 107 14 105 106,oM 103 107,oX 108 103 0,oX 109 103 1,oX 110 103 2,oS 17 (.alloc [(.sl true [])]),oV 1 17 108,oM 18 109,oM 19 110] (oR [oF 112 0 7,oA 113 1 112,oA 114 1 17,oF 115 1 7,oL 116 115,oS 117 (.call .any 21 [(.t 113),(.t 114),(.t 116)]),oM 111 117,oX 118 111 0,oX 119 111 1,oX 120 111 2,oM 20 118,oM 21 119,oM 22 120] (oR [oM 121 19,oC 122 .eql 121 0,oM 123 122,oMg 124 22 123 true,oCi 125 .eql 124 0 123 true,oPa 126 123 125,oM 127 126,oMg 128 20 127 true,oPa 129 127 128,oM 130 129,oMg 131 21 130 true,oPa 132 130 131,oM 6 132] .ret)))))))),[(.tmp 6)],3,[]⟩
theorem PJ:zA Tryz.prog 8 qH:=okF Tryz.func8
def EF:DA:=⟨(oR [oQ 2 1 0,oZ 4 false] (oR [oA 21 1 2,oM 22 1,oC2 23 28 21 22,oM 20 23,oX 24 20 0,oX 25 20 1,oX 26 20 2,oS 5 (.alloc [(.sl true [])]),oS 6 (.alloc [(.sl true [])]),oV 1 5 24,oV 1 6 25,oM 7 26] (.seq (oR [oS 27 (.call .any 11 []),oU 28 27,oM 29 28,oMg 30 7 29 false,oUg 31 30 29 false,oPo 32 29 31] (oD 32 (oR [oS 33 (.call .any 11 []),oM 4 33] .ret) .skip)) (oR [oA 35 1 5,oA 36 1 6,oC2 37 17 35 36,oM 34 37,oX 38 34 0,oX 39 34 1,oM 8 38,oM 9 39] (.seq (oR [oA 41 1 5,oA 42 1 6,oC2 43 18 41 42,oM 40 43,oX 44 40 0,oX 45 40 1,oM 10 44,oM 11 45] (oR [oM 46 11,oC 47 .neq 46 0] (oD 47 (oR [oM 48 9,oM 49 11,oB 50 .eql 48 49,oM 4 50] .ret) .skip))) (oR [oA 52 1 5,oM 53 8,oC2 54 14 52 53,oM 51 54,oX 55 51 0,oX 56 51 1,oX 57 51 2,oS 12 (.alloc [(.sl true [])]),oV 1 12 55,oM 13 56,oM 14 57] (oR [oA 59 1 5,oM 60 8,oC2 61 29 59 60,oM 58 61,oX 62 58 0,oX 63 58 1,oM 15 62,oM 16 63] (oR [oA 65 1 6,oM 66 15,oC2 67 14 65 66,oM 64 67,oX 68 64 0,oX 69 64 1,oX 70 64 2,oS 17 (.alloc [(.sl true [])]),oV 1 17 68,oM 18 69,oM 19 70] (oR [oM 71 9,oC 72 .eql 71 0,oM 73 72,oMg 74 14 73 true,oCi 75 .eql 74 0 73 true,oPa 76 73 75,oM 77 76,oMg 78 13 77 true,oMg 79 8 77 true,oHg 80 79 77 true,oBg 81 .eql 78 80 77 true,oPa 82 77 81,oM 83 82,oMg 84 16 83 true,oCi 85 .eql 84 0 83 true,oPa 86 83 85,oM 87 86,oMg 88 19 87 true,oCi 89 .eql 88 0 87 true,oPa 90 87 89,oM 91 90,oLg 92 1 12 91 true,oLg 93 1 6 91 true,oCg 94 16 92 93 91 true,oPa 95 91 94,oM 96 95,oLg 97 1 17 96 true,oLg 98 1 5 96 true,oCg 99 16 97 98 96 true,oPa 100 96 99,oM 101 100,oMg 102 8 101 true,oHg 103 102 101 true,oCi 104 .eql 103 0 101 true,oLg 105 1 5 101 true,oLg 106 1 6 101 true,oCg 107 16 105 106 101 true,oG 108 (.bin .eql true (.t 104) (.t 107)) 101 true,oPa 109 101 108,oM 4 109] .ret))))))))),[(.tmp 4)],2,[]⟩
theorem KH:zA Tryz.prog 9 EF:=okF Tryz.func9
def HB:DA:=⟨(oR [oQ 2 1 0,oZ 4 false] (.seq (oR [oS 9 (.call .any 11 []),oU 10 9,oM 11 10,oLg 12 1 2 11 false,oG 13 (.call .any 12 [(.t 12)]) 11 false,oUg 14 13 11 false,oPo 15 11 14,oM 16 15,oMg 17 1 16 false,oG 18 (.call .any 13 [(.t 17)]) 16 false,oUg 19 18 16 false,oPo 20 16 19] (oD 20 (oR [oS 21 (.call .any 11 []),oM 4 21] .ret) .skip)) (oR [oA 23 1 2,oM 24 1,oC2 25 29 23 24,oM 22 25,oX 26 22 0,oX 27 22 1,oM 5 26,oM 6 27] (oR [oA 29 1 2,oM 30 1,oC2 31 30 29 30,oM 28 31,oX 32 28 0,oX 33 28 1,oM 7 32,oM 8 33] (oR [oM 34 6,oM 35 8,oB 36 .eql 34 35,oM 37 36,oMg 38 5 37 true,oMg 39 7 37 true,oCg 40 19 38 39 37 true,oPa 41 37 40,oM 4 41] .ret))))),[(.tmp 4)],2,[]⟩
theorem MF:zA Tryz.prog 10 HB:=okF Tryz.func10
noncomputable def ZQ:DA:=cF [] Tryz.f11
theorem GY:zA Tryz.prog 11 ZQ:=okF Tryz.func11
def lG:C:=.seq (oR [oM 36 6,oF 37 6 5,oL 38 37,oH 39 38,oB 40 .lss 36 39,oM 41 40,oMg 42 6 41 true,oCi 43 .lss 42 100 41 true,oPa 44 41 43] (oD 44 .skip (.exit 2))) (.seq (.block 3 (.reg [oM 47 3,oF 48 6 5,oL 49 48,oM 50 6,oI 51 13 49 50,oF 52 5 51,oA 53 8 52,oC1 54 33 53,oB 55 .add 47 54,oF 56 6 5,oL 57 56,oM 58 6,oI 59 13 57 58,oF 60 1 59,oL 61 60,oS 62 (.len true (.t 61)),oB 63 .add 55 62,oM 3 63])) (.reg [oM 45 6,oC 46 .add 45 1,oM 6 46]))
def AK:C:=.seq (oR [oM 11 4,oF 12 0 1,oL 13 12,oH 14 13,oB 15 .lss 11 14] (oD 15 .skip (.exit 0))) (.seq (.block 1 (oR [oF 18 0 1,oL 19 18,oM 20 4,oI 21 10 19 20,oA 22 10 21,oY 5 zzd,oV 10 5 22] (oR [oM 23 3,oF 24 6 5,oL 25 24,oH 26 25,oB 27 .add 23 26,oF 28 5 5,oL 29 28,oH 30 29,oB 31 .add 27 30,oF 32 1 5,oL 33 32,oS 34 (.len true (.t 33)),oB 35 .add 31 34,oM 3 35] (oR [oJ 6 0] (.block 2 (.loop lG)))))) (.reg [oM 16 4,oC 17 .add 16 1,oM 4 17]))
def EJ:DA:=⟨(oR [oQ 1 1 0,oZ 2 false] (.seq (oR [oF 7 0 1,oL 8 7,oH 9 8,oC 10 .gtr 9 40] (oD 10 (oR [oZ 2 false] .ret) .skip)) (oR [oJ 3 0] (.seq (oR [oJ 4 0] (.block 0 (.loop AK))) (oR [oM 64 3,oC 65 .leq 64 400,oM 2 65] .ret))))),[(.tmp 2)],1,[]⟩
theorem S4:zA Tryz.prog 12 EJ:=okF Tryz.func12
def iF:C:=.seq (oR [oM 7 3,oM 8 0,oH 9 8,oB 10 .lss 7 9] (oD 10 .skip (.exit 0))) (.seq (.block 1 (oR [oM 13 0,oM 14 3,oI 15 25 13 14,oF 16 4 15,oA 17 13 16,oS 18 (.bsl zzc 1 [(0,(.t 17))]),oS 19 (.build zzd [(6,(1,(.t 18)))]),oS 20 (.bsl zzd 1 [(0,(.t 19))]),oS 21 (.build [(.sl true [])] [(0,(1,(.t 20)))]),oC1 22 12 21,oU 23 22,oM 24 23,oMg 25 0 24 false,oMg 26 3 24 false,oIg 27 25 25 26 24 false,oFg 28 3 27 24 false,oP 29 28 24 false,oG 30 (.len true (.t 29)) 24 false,oMg 31 0 24 false,oMg 32 3 24 false,oIg 33 25 31 32 24 false,oFg 34 17 33 24 false,oFg 35 1 34 24 false,oP 36 35 24 false,oG 37 (.len true (.t 36)) 24 false,oBg 38 .add 30 37 24 false,oCi 39 .gtr 38 100 24 false,oPo 40 24 39] (oD 40 (oR [oZ 2 false] .ret) .skip))) (.reg [oM 11 3,oC 12 .add 11 1,oM 3 12]))
def RJ:DA:=⟨(oR [oZ 2 false] (.seq (oR [oM 4 0,oH 5 4,oC 6 .gtr 5 20] (oD 6 (oR [oZ 2 false] .ret) .skip)) (.seq (oR [oJ 3 0] (.block 0 (.loop iF))) (oR [oZ 2 true] .ret)))),[(.tmp 2)],1,[]⟩
theorem X4:zA Tryz.prog 13 RJ:=okF Tryz.func13
def eG:C:=oR [oB 24 .lss 23 22] (.seq (oD 24 .skip (.exit 0)) (.seq (.block 1 (oR [oM 25 23,oI 26 25 21 23,oA 27 25 26,oY 10 zza,oM 9 25,oV 25 10 27] (oR [oF 28 4 10,oF 29 5 28,oA 30 8 29,oC1 31 36 30,oF 32 4 10,oF 33 5 32,oV 8 33 31] (oR [oA 34 25 10,oS 35 (.callh 53 (.c (.fn 37 [])) [(.t 8),(.t 34)]),oM 11 35] (oR [oM 36 11,oC 37 .neq 36 0] (oD 37 (oR [oS 38 (.build [(.sl true [])] []),oM 39 9,oM 40 11,oV 1 4 38,oM 5 39,oM 6 40] .ret) .skip)))))) (.reg [oC 41 .add 23 1,oM 23 41])))
def sD:DA:=⟨(oR [oQ 2 1 0,oS 4 (.alloc [(.sl true [])]),oJ 5 0,oJ 6 0] (.seq (oR [oA 13 1 2,oS 14 (.callq .any 34 [(.t 13)]),oM 7 14] (oR [oM 15 7,oC 16 .neq 15 0] (oD 16 (oR [oS 17 (.build [(.sl true [])] []),oM 18 7,oV 1 4 17,oJ 5 0,oM 6 18] .ret) .skip))) (oR [oA 19 1 2,oS 20 (.callh 53 (.c (.fn 35 [])) [(.t 19)]),oS 8 (.alloc [(.sl true [])]),oV 1 8 20] (.seq (oR [oM 21 1,oH 22 21,oJ 23 0] (.block 0 (.loop eG))) (.seq (oR [oA 42 1 8,oS 43 (.callq .any 34 [(.t 42)]),oM 12 43] (oR [oM 44 12,oC 45 .neq 44 0] (oD 45 (oR [oS 46 (.build [(.sl true [])] []),oM 47 1,oH 48 47,oM 49 12,oV 1 4 46,oM 5 48,oM 6 49] .ret) .skip))) (oR [oA 50 1 8,oM 51 1,oH 52 51,oV 1 4 50,oM 5 52,oJ 6 0] .ret)))))),[(.cell 4 true 1),(.tmp 5),(.tmp 6)],2,[1000000 + 35,1000000 + 37,30000000 + 34]⟩
theorem PO:zA Tryz.prog 14 sD:=okF Tryz.func14
def uF:C:=.seq (oR [oM 18 8,oM 19 1,oH 20 19,oB 21 .lss 18 20] (oD 21 .skip (.exit 0))) (.seq (.block 1 (oR [oS 25 (.load (.root 2) true 1 (.t 2)),oM 26 1,oM 27 8,oI 28 25 26 27,oS 29 (.load .imm true 25 (.t 28)),oS 30 (.call .imm 39 [(.t 25),(.t 29)]),oM 24 30,oX 31 24 0,oX 32 24 1,oS 9 (.alloc [(.sl true [])]),oN (.store (.root 9) true 1 (.t 9) (.t 31)),oM 10 32] (.seq (oR [oM 33 10,oC 34 .neq 33 0] (oD 34 (oR [oS 35 (.build [(.sl true [])] []),oM 36 8,oM 37 10,oV 1 4 35,oM 5 36,oM 6 37] .ret) .skip)) (.reg [oA 38 1 9,oV 1 2 38])))) (.reg [oM 22 8,oC 23 .add 22 1,oM 8 23]))
def qC:DA:=⟨(oR [oQ 2 1 0,oS 4 (.alloc [(.sl true [])]),oJ 5 0,oJ 6 0] (.seq (oR [oA 12 1 2,oC1 13 38 12,oM 7 13] (oR [oM 14 7,oC 15 .neq 14 0] (oD 15 (oR [oS 16 (.build [(.sl true [])] []),oM 17 7,oV 1 4 16,oJ 5 0,oM 6 17] .ret) .skip))) (.seq (oR [oJ 8 0] (.block 0 (.loop uF))) (.seq (oR [oA 39 1 2,oC1 40 38 39,oM 11 40] (oR [oM 41 11,oC 42 .neq 41 0] (oD 42 (oR [oS 43 (.build [(.sl true [])] []),oM 44 1,oH 45 44,oM 46 11,oV 1 4 43,oM 5 45,oM 6 46] .ret) .skip))) (oR [oA 47 1 2,oM 48 1,oH 49 48,oV 1 4 47,oM 5 49,oJ 6 0] .ret))))),[(.cell 4 true 1),(.tmp 5),(.tmp 6)],2,[]⟩
theorem FP:zA Tryz.prog 15 qC:=okF Tryz.func15
def tF:C:=.seq (oR [oM 13 5,oF 14 0 2,oL 15 14,oH 16 15,oB 17 .lss 13 16] (oD 17 .skip (.exit 0))) (.seq (.block 1 (oR [oF 20 0 2,oL 21 20,oM 22 5,oI 23 10 21 22,oA 24 10 23,oF 25 0 3,oL 26 25,oM 27 5,oI 28 10 26 27,oA 29 10 28,oC2 30 40 24 29,oU 31 30] (oD 31 (oR [oZ 4 false] .ret) .skip))) (.reg [oM 18 5,oC 19 .add 18 1,oM 5 19]))
def tH:DA:=⟨(oR [oQ 2 1 0,oQ 3 1 1,oZ 4 false] (.seq (oR [oF 6 0 2,oL 7 6,oH 8 7,oF 9 0 3,oL 10 9,oH 11 10,oB 12 .neq 8 11] (oD 12 (oR [oZ 4 false] .ret) .skip)) (.seq (oR [oJ 5 0] (.block 0 (.loop tF))) (oR [oZ 4 true] .ret)))),[(.tmp 4)],2,[]⟩
theorem KY:zA Tryz.prog 16 tH:=okF Tryz.func16
def rF:C:=oR [oB 35 .lss 34 33] (.seq (oD 35 .skip (.exit 2)) (.seq (.block 3 (oR [oM 36 34,oM 10 36] (.reg [oM 37 9,oM 38 10,oF 39 0 2,oL 40 39,oM 41 10,oI 42 10 40 41,oA 43 10 42,oF 44 0 3,oL 45 44,oM 46 10,oI 47 10 45 46,oA 48 10 47,oS 49 (.call .any 43 [(.t 38),(.t 43),(.t 48)]),oAp 50 52 25 272 37 49,oM 9 50]))) (.reg [oC 51 .add 34 1,oM 34 51])))
def QC:C:=oR [oB 16 .lss 15 14] (.seq (oD 16 .skip (.exit 0)) (.seq (.block 1 (oR [oI 17 1 13 15,oA 18 1 17,oS 7 (.alloc [(.sl true [])]),oV 1 7 18] (oR [oA 19 1 7,oC1 20 34 19,oM 8 20] (oR [oM 21 8,oC 22 .neq 21 0] (oD 22 (oR [oM 23 8,oS 4 (.mv (.c (.sl true []))),oM 5 23] .ret) .skip))))) (.reg [oC 24 .add 15 1,oM 15 24])))
def rH:DA:=⟨(oR [oQ 2 1 0,oQ 3 1 1,oS 4 (.mv (.c (.sl true []))),oJ 5 0] (.seq (oR [oA 11 1 2,oA 12 1 3,oS 13 (.bsl [(.sl true [])] 2 [(0,(.t 11)),(1,(.t 12))]),oH 14 13,oJ 15 0] (.block 0 (.loop QC))) (.seq (oR [oF 25 0 2,oL 26 25,oF 27 0 3,oL 28 27,oS 29 (.call .any 41 [(.t 26),(.t 28),(.c (.fn 42 []))]),oU 30 29] (oD 30 (oR [oS 4 (.mv (.c (.sl true []))),oJ 5 1] .ret) .skip)) (oR [oS 9 (.mv (.c (.sl true [])))] (.seq (oR [oF 31 0 2,oL 32 31,oH 33 32,oJ 34 0] (.block 2 (.loop rF))) (oR [oM 52 9,oM 4 52,oJ 5 0] .ret)))))),[(.tmp 4),(.tmp 5)],2,[]⟩
theorem OP:zA Tryz.prog 17 rH:=okF Tryz.func17
def AE:C:=.seq (oR [oM 27 9,oF 28 0 2,oL 29 28,oH 30 29,oB 31 .lss 27 30] (oD 31 .skip (.exit 0))) (.seq (.block 1 (.seq (oR [oF 34 0 2,oL 35 34,oM 36 9,oI 37 10 35 36,oF 38 0 37,oL 39 38,oF 40 0 3,oL 41 40,oM 42 9,oI 43 10 41 42,oF 44 0 43,oL 45 44,oB 46 .neq 39 45] (oD 46 (oR [oS 4 (.mv (.c (.sl true []))),oJ 5 1] .ret) .skip)) (.reg [oM 47 8,oM 48 9,oF 49 0 2,oL 50 49,oM 51 9,oI 52 10 50 51,oA 53 10 52,oF 54 0 3,oL 55 54,oM 56 9,oI 57 10 55 56,oA 58 10 57,oS 59 (.call .any 44 [(.t 48),(.t 53),(.t 58)]),oAp 60 52 25 272 47 59,oM 8 60]))) (.reg [oM 32 9,oC 33 .add 32 1,oM 9 33]))
def TF:DA:=⟨(oR [oQ 2 1 0,oQ 3 1 1,oS 4 (.mv (.c (.sl true []))),oJ 5 0] (.seq (oR [oA 10 1 2,oC1 11 38 10,oM 6 11] (oR [oM 12 6,oC 13 .neq 12 0] (oD 13 (oR [oM 14 6,oS 4 (.mv (.c (.sl true []))),oM 5 14] .ret) .skip))) (.seq (oR [oA 15 1 3,oC1 16 38 15,oM 7 16] (oR [oM 17 7,oC 18 .neq 17 0] (oD 18 (oR [oM 19 7,oS 4 (.mv (.c (.sl true []))),oM 5 19] .ret) .skip))) (.seq (oR [oF 20 0 2,oL 21 20,oH 22 21,oF 23 0 3,oL 24 23,oH 25 24,oB 26 .neq 22 25] (oD 26 (oR [oS 4 (.mv (.c (.sl true []))),oJ 5 1] .ret) .skip)) (oR [oS 8 (.mv (.c (.sl true [])))] (.seq (oR [oJ 9 0] (.block 0 (.loop AE))) (oR [oM 61 8,oM 4 61,oJ 5 0] .ret))))))),[(.tmp 4),(.tmp 5)],2,[]⟩
theorem D0:zA Tryz.prog 18 TF:=okF Tryz.func18
def nH:C:=.seq (oR [oM 13 5,oM 14 0,oH 15 14,oB 16 .lss 13 15] (oD 16 .skip (.exit 0))) (.seq (.block 1 (oR [oM 19 0,oM 20 5,oI 21 25 19 20,oS 22 (.load .imm true 25 (.t 21)),oM 23 1,oM 24 5,oI 25 25 23 24,oS 26 (.load .imm true 25 (.t 25)),oY 6 zza,oY 7 zza,oN (.store (.root 6) true 25 (.t 6) (.t 22)),oN (.store (.root 7) true 25 (.t 7) (.t 26))] (oR [oF 27 0 6,oL 28 27,oF 29 0 7,oL 30 29,oB 31 .neq 28 30,oM 32 31,oFg 33 1 6 32 false,oP 34 33 32 false,oFg 35 1 7 32 false,oP 36 35 32 false,oBg 37 .neq 34 36 32 false,oPo 38 32 37,oM 39 38,oFg 40 2 6 39 false,oP 41 40 39 false,oFg 42 2 7 39 false,oP 43 42 39 false,oBg 44 .neq 41 43 39 false,oPo 45 39 44,oM 46 45,oFg 47 3 6 46 false,oP 48 47 46 false,oFg 49 3 7 46 false,oP 50 49 46 false,oBg 51 .neq 48 50 46 false,oPo 52 46 51,oM 53 52,oFg 54 4 6 53 false,oLg 55 13 54 53 false,oFg 56 4 7 53 false,oLg 57 13 56 53 false,oCg 58 45 55 57 53 false,oUg 59 58 53 false,oPo 60 53 59,oM 61 60,oFg 62 17 6 61 false,oLg 63 2 62 61 false,oFg 64 17 7 61 false,oLg 65 2 64 61 false,oG 66 (.eqa true [0,1] (.t 63) (.t 65)) 61 false,oPo 67 61 66,oM 68 67,oFg 69 19 6 68 false,oP 70 69 68 false,oFg 71 19 7 68 false,oP 72 71 68 false,oBg 73 .neq 70 72 68 false,oPo 74 68 73,oM 75 74,oFg 76 20 6 75 false,oP 77 76 75 false,oFg 78 20 7 75 false,oP 79 78 75 false,oBg 80 .neq 77 79 75 false,oPo 81 75 80,oM 82 81,oFg 83 21 6 82 false,oP 84 83 82 false,oFg 85 21 7 82 false,oP 86 85 82 false,oBg 87 .neq 84 86 82 false,oPo 88 82 87,oM 89 88,oFg 90 22 6 89 false,oP 91 90 89 false,oFg 92 22 7 89 false,oP 93 92 89 false,oG 94 (.bin .neq true (.t 91) (.t 93)) 89 false,oPo 95 89 94,oM 96 95,oFg 97 23 6 96 false,oP 98 97 96 false,oFg 99 23 7 96 false,oP 100 99 96 false,oBg 101 .neq 98 100 96 false,oPo 102 96 101,oM 103 102,oFg 104 24 6 103 false,oP 105 104 103 false,oFg 106 24 7 103 false,oP 107 106 103 false,oBg 108 .neq 105 107 103 false,oPo 109 103 108] (oD 109 (oR [oZ 4 false] .ret) .skip)))) (.reg [oM 17 5,oC 18 .add 17 1,oM 5 18]))
def fK:DA:=⟨(oR [oZ 4 false] (.seq (oR [oM 8 0,oH 9 8,oM 10 1,oH 11 10,oB 12 .neq 9 11] (oD 12 (oR [oZ 4 false] .ret) .skip)) (.seq (oR [oJ 5 0] (.block 0 (.loop nH))) (oR [oZ 4 true] .ret)))),[(.tmp 4)],2,[]⟩
theorem G0:zA Tryz.prog 19 fK:=okF Tryz.func19
noncomputable def XQ:DA:=cF [] Tryz.f20
theorem HY:zA Tryz.prog 20 XQ:=okF Tryz.func20
noncomputable def tO:DA:=cF [] Tryz.f21
theorem IU:zA Tryz.prog 21 tO:=okF Tryz.func21
noncomputable def xP:DA:=cF [] Tryz.f22
theorem NW:zA Tryz.prog 22 xP:=okF Tryz.func22
def pP:C:=oR [oB 34 .lss 33 32] (.seq (oD 34 .skip (.exit 0)) (.seq (.block 1 (oR [oM 35 33,oI 36 25 31 33,oA 37 25 36,oY 13 zza,oM 12 35,oV 25 13 37] (.seq (oR [oA 38 25 13,oS 39 (.callh 62 (.c (.fn 37 [])) [(.t 11),(.t 38)]),oM 14 39] (oR [oM 40 14,oC 41 .neq 40 0] (oD 41 (oR [oM 42 14,oJ 6 0,oM 7 42] .ret) .skip))) (oR [oA 44 1 3,oA 45 1 11,oM 46 1,oS 47 (.callq .any 21 [(.t 44),(.t 45),(.t 46)]),oM 43 47,oX 48 43 0,oX 49 43 1,oX 50 43 2,oM 15 48,oM 16 49,oM 17 50] (.seq (oR [oM 51 17,oC 52 .neq 51 0] (oD 52 (oR [oM 53 17,oJ 6 0,oM 7 53] .ret) .skip)) (oR [oM 54 15,oU 55 54,oM 56 55,oMg 57 16 56 false,oUg 58 57 56 false,oPo 59 56 58] (oD 59 (oR [oM 60 12,oM 6 60,oJ 7 0] .ret) .skip))))))) (.reg [oC 61 .add 33 1,oM 33 61])))
def qI:DA:=⟨(oR [oQ 3 1 0,oJ 6 0,oJ 7 0] (.seq (oR [oA 19 1 3,oA 20 1 3,oM 21 1,oS 22 (.callq .any 21 [(.t 19),(.t 20),(.t 21)]),oM 18 22,oX 23 18 0,oX 24 18 1,oX 25 18 2,oM 8 23,oM 9 24,oM 10 25] (oR [oM 26 10,oC 27 .neq 26 0] (oD 27 (oR [oM 28 10,oJ 6 0,oM 7 28] .ret) .skip))) (oR [oA 29 1 3,oS 30 (.callh 62 (.c (.fn 35 [])) [(.t 29)]),oS 11 (.alloc [(.sl true [])]),oV 1 11 30] (.seq (oR [oM 31 2,oH 32 31,oJ 33 0] (.block 0 (.loop pP))) (oR [oJ 6 0,oJ 7 15] .ret))))),[(.tmp 6),(.tmp 7)],3,[1000000 + 35,1000000 + 37,30000000 + 21]⟩
theorem iL:zA Tryz.prog 23 qI:=okF Tryz.func23
def nQ:C:=.seq (oR [oM 30 10,oM 31 2,oH 32 31,oB 33 .lss 30 32] (oD 33 .skip (.exit 0))) (.seq (.block 1 (oR [oS 37 (.load (.root 9) true 1 (.t 9)),oM 38 2,oM 39 10,oI 40 25 38 39,oS 41 (.load .imm true 25 (.t 40)),oS 42 (.call .imm 39 [(.t 37),(.t 41)]),oM 36 42,oX 43 36 0,oX 44 36 1,oS 11 (.alloc [(.sl true [])]),oN (.store (.root 11) true 1 (.t 11) (.t 43)),oM 12 44] (.seq (oR [oM 45 12,oC 46 .neq 45 0] (oD 46 (oR [oM 47 12,oJ 6 0,oM 7 47] .ret) .skip)) (oR [oA 48 1 11,oV 1 9 48] (oR [oA 50 1 3,oA 51 1 9,oM 52 1,oS 53 (.call .any 22 [(.t 50),(.t 51),(.t 52)]),oM 49 53,oX 54 49 0,oX 55 49 1,oX 56 49 2,oM 13 54,oM 14 55,oM 12 56] (.seq (oR [oM 57 12,oC 58 .neq 57 0] (oD 58 (oR [oM 59 12,oJ 6 0,oM 7 59] .ret) .skip)) (oR [oM 60 13,oU 61 60,oM 62 61,oMg 63 14 62 false,oUg 64 63 62 false,oPo 65 62 64] (oD 65 (oR [oM 66 10,oM 6 66,oJ 7 0] .ret) .skip)))))))) (.reg [oM 34 10,oC 35 .add 34 1,oM 10 35]))
def LI:DA:=⟨(oR [oQ 3 1 0,oJ 6 0,oJ 7 0] (.seq (oR [oA 15 1 3,oC1 16 48 15,oM 8 16] (oR [oM 17 8,oC 18 .neq 17 0] (oD 18 (oR [oM 19 8,oJ 6 0,oM 7 19] .ret) .skip))) (.seq (oR [oM 20 1,oC 21 .lss 20 0,oM 22 21,oMg 23 1 22 false,oFg 24 0 3 22 false,oP 25 24 22 false,oHg 26 25 22 false,oBg 27 .geq 23 26 22 false,oPo 28 22 27] (oD 28 (oR [oJ 6 0,oJ 7 4] .ret) .skip)) (oR [oA 29 1 3,oS 9 (.alloc [(.sl true [])]),oV 1 9 29] (.seq (oR [oJ 10 0] (.block 0 (.loop nQ))) (oR [oJ 6 0,oJ 7 15] .ret)))))),[(.tmp 6),(.tmp 7)],3,[]⟩
theorem qM:zA Tryz.prog 24 LI:=okF Tryz.func24
noncomputable def rO:DA:=cF [16,71,83,95,163,181,213,233,2000052,2000061,2000070,2000121,30000000 + 54] Tryz.f25
theorem UU:zA Tryz.prog 25 rO:=okF Tryz.func25
noncomputable def zP:DA:=cF [] Tryz.f26
theorem BW:zA Tryz.prog 26 zP:=okF Tryz.func26
noncomputable def sR:DA:=cF [] Tryz.f27
theorem aZ:zA Tryz.prog 27 sR:=okF Tryz.func27
noncomputable def sO:DA:=cF [] Tryz.f28
theorem GU:zA Tryz.prog 28 sO:=okF Tryz.func28
def IE:DA:=⟨(oR [oQ 2 1 0,oS 4 (.mv (.c (.sl true []))),oJ 5 0] (oR [oA 10 1 2,oM 11 1,oC2 12 14 10 11,oM 9 12,oX 13 9 0,oX 14 9 1,oX 15 9 2,oS 6 (.alloc [(.sl true [])]),oV 1 6 13,oM 7 14,oM 8 15] (.seq (oR [oM 16 8,oC 17 .neq 16 0] (oD 17 (oR [oM 18 8,oS 4 (.mv (.c (.sl true []))),oM 5 18] .ret) .skip)) (oR [oA 19 1 6,oA 20 1 2,oC2 21 17 19 20,oX 22 21 0,oX 23 21 1,oM 4 22,oM 5 23] .ret)))),[(.tmp 4),(.tmp 5)],2,[]⟩
theorem NM:zA Tryz.prog 29 IE:=okF Tryz.func29
def pF:DA:=⟨(oR [oQ 2 1 0,oS 4 (.mv (.c (.sl true []))),oJ 5 0] (oR [oA 10 1 2,oM 11 1,oC2 12 15 10 11,oM 9 12,oX 13 9 0,oX 14 9 1,oX 15 9 2,oS 6 (.alloc [(.sl true [])]),oV 1 6 13,oM 7 14,oM 8 15] (.seq (oR [oM 16 8,oC 17 .neq 16 0] (oD 17 (oR [oM 18 8,oS 4 (.mv (.c (.sl true []))),oM 5 18] .ret) .skip)) (oR [oA 19 1 6,oA 20 1 2,oC2 21 18 19 20,oX 22 21 0,oX 23 21 1,oM 4 22,oM 5 23] .ret)))),[(.tmp 4),(.tmp 5)],2,[]⟩
theorem DO:zA Tryz.prog 30 pF:=okF Tryz.func30
noncomputable def pO:DA:=cF [] Tryz.f31
theorem FU:zA Tryz.prog 31 pO:=okF Tryz.func31
noncomputable def DV:DA:=cF [] Tryz.f32
theorem O4:zA Tryz.prog 32 DV:=okF Tryz.func32
def zH:C:=.seq (oR [oM 41 6,oF 42 7 1,oL 43 42,oH 44 43,oB 45 .lss 41 44] (oD 45 .skip (.exit 4))) (.seq (.block 5 (.reg [oM 48 3,oC 49 .add 48 1,oF 50 7 1,oL 51 50,oM 52 6,oI 53 2 51 52,oF 54 1 53,oL 55 54,oS 56 (.len true (.t 55)),oB 57 .add 49 56,oM 3 57])) (.reg [oM 46 6,oC 47 .add 46 1,oM 6 47]))
def xH:C:=.seq (oR [oM 26 5,oF 27 6 1,oL 28 27,oH 29 28,oB 30 .lss 26 29] (oD 30 .skip (.exit 2))) (.seq (.block 3 (.reg [oM 33 3,oF 34 6 1,oL 35 34,oM 36 5,oI 37 8 35 36,oA 38 8 37,oC1 39 33 38,oB 40 .add 33 39,oM 3 40])) (.reg [oM 31 5,oC 32 .add 31 1,oM 5 32]))
def cH:C:=.seq (oR [oM 11 4,oF 12 5 1,oL 13 12,oH 14 13,oB 15 .lss 11 14] (oD 15 .skip (.exit 0))) (.seq (.block 1 (.reg [oM 18 3,oF 19 5 1,oL 20 19,oM 21 4,oI 22 8 20 21,oA 23 8 22,oC1 24 33 23,oB 25 .add 18 24,oM 3 25])) (.reg [oM 16 4,oC 17 .add 16 1,oM 4 17]))
def sK:DA:=⟨(oR [oQ 1 8 0,oJ 2 0] (oR [oF 7 3 1,oL 8 7,oS 9 (.len true (.t 8)),oS 10 (.bin .add false (.c (.int .i64 1)) (.t 9)),oM 3 10] (.seq (oR [oJ 4 0] (.block 0 (.loop cH))) (.seq (oR [oJ 5 0] (.block 2 (.loop xH))) (.seq (oR [oJ 6 0] (.block 4 (.loop zH))) (oR [oM 58 3,oM 2 58] .ret)))))),[(.tmp 2)],1,[]⟩
theorem k0:zA Tryz.prog 33 sK:=okF Tryz.func33
def dD:C:=oR [oB 41 .lss 40 39] (.seq (oD 41 .skip (.exit 2)) (.seq (.block 3 (oR [oI 42 1 38 40,oL 43 42,oM 7 43] (oR [oM 44 7,oC 45 .lss 44 0,oM 46 45,oMg 47 7 46 false,oFg 48 0 1 46 false,oP 49 48 46 false,oHg 50 49 46 false,oBg 51 .geq 47 50 46 false,oPo 52 46 51] (oD 52 (oR [oJ 2 4] .ret) .skip)))) (.reg [oC 53 .add 40 1,oM 40 53])))
def kB:C:=oR [oB 17 .lss 16 15] (.seq (oD 17 .skip (.exit 0)) (.seq (.block 1 (oR [oI 18 10 14 16,oA 19 10 18,oY 5 zzd,oV 10 5 19] (.seq (oR [oA 20 10 5,oC1 21 57 20,oU 22 21,oM 23 22,oFg 24 1 5 23 false,oP 25 24 23 false,oG 26 (.bin .neq false (.t 25) (.c (.str (ByteArray.mk #[])))) 23 false,oMg 27 26 23 false,oMg 28 3 27 true,oFg 29 1 5 27 true,oP 30 29 27 true,oG 31 (.mget false .none (.bool false) (.t 28) (.t 30)) 27 true,oPb 32 27 31 23 false,oPo 33 23 32] (oD 33 (oR [oJ 2 1] .ret) .skip)) (oR [oM 34 3,oF 35 1 5,oL 36 35,oN (.mset .none (.t 34) (.t 36) (.c (.bool true)))] (.seq (oR [oA 37 10 5,oC1 38 58 37,oH 39 38,oJ 40 0] (.block 2 (.loop dD))) (oR [oF 54 0 5,oL 55 54,oC 56 .eql 55 8,oM 57 56,oFg 58 0 1 57 true,oP 59 58 57 true,oFg 60 7 5 57 true,oP 61 60 57 true,oIg 62 10 59 61 57 true,oFg 63 0 62 57 true,oP 64 63 57 true,oCi 65 .lss 64 1 57 true,oMg 66 65 57 true,oFg 67 0 1 66 false,oP 68 67 66 false,oFg 69 7 5 66 false,oP 70 69 66 false,oIg 71 10 68 70 66 false,oFg 72 0 71 66 false,oP 73 72 66 false,oCi 74 .gtr 73 4 66 false,oG 75 (.pick (.t 66) (.c (.bool true)) (.t 74)) 57 true,oPa 76 57 75] (oD 76 (oR [oJ 2 1] .ret) .skip))))))) (.reg [oC 77 .add 16 1,oM 16 77])))
def zG:DA:=⟨(oR [oQ 1 1 0,oJ 2 0] (.seq (oR [oF 8 0 1,oL 9 8,oH 10 9,oC 11 .gtr 10 32] (oD 11 (oR [oJ 2 3] .ret) .skip)) (oR [oS 12 (.mkm),oM 3 12] (.seq (oR [oF 13 0 1,oL 14 13,oH 15 14,oJ 16 0] (.block 0 (.loop kB))) (oR [oJ 2 0] .ret))))),[(.tmp 2)],1,[]⟩
theorem MW:zA Tryz.prog 34 zG:=okF Tryz.func34
def mF:C:=oR [oB 43 .lss 42 41] (.seq (oD 43 .skip (.exit 2)) (.seq (.block 3 (oR [oM 44 42,oM 6 44] (.reg [oM 45 5,oK 46 45,oF 47 6 46,oL 48 47,oM 49 6,oM 50 5,oK 51 50,oF 52 6 51,oL 53 52,oM 54 6,oI 55 13 53 54,oF 56 5 55,oA 57 8 56,oC1 58 36 57,oI 59 13 48 49,oF 60 5 59,oV 8 60 58]))) (.reg [oC 61 .add 42 1,oM 42 61])))
def jE:C:=oR [oB 15 .lss 14 13] (.seq (oD 15 .skip (.exit 0)) (.seq (.block 1 (oR [oM 16 14,oM 4 16] (oR [oF 17 0 3,oL 18 17,oM 19 4,oI 20 10 18 19,oM 5 20] (oR [oM 21 5,oM 22 5,oK 23 22,oF 24 5 23,oL 25 24,oS 26 (.callo .any 60 2 [(.t 25)]),oK 27 21,oF 28 5 27,oW 28 26] (oR [oM 29 5,oM 30 5,oK 31 30,oF 32 6 31,oL 33 32,oS 34 (.callo .any 61 13 [(.t 33)]),oK 35 29,oF 36 6 35,oW 36 34] (oR [oM 37 5,oK 38 37,oF 39 6 38,oL 40 39,oH 41 40,oJ 42 0] (.block 2 (.loop mF)))))))) (.reg [oC 62 .add 14 1,oM 14 62])))
def OE:DA:=⟨(oR [oQ 1 1 0,oS 2 (.alloc [(.sl true [])])] (oR [oF 7 0 1,oL 8 7,oS 9 (.callo .any 59 10 [(.t 8)]),oS 10 (.build [(.sl true [])] [(0,(1,(.t 9)))]),oS 3 (.alloc [(.sl true [])]),oV 1 3 10] (.seq (oR [oF 11 0 3,oL 12 11,oH 13 12,oJ 14 0] (.block 0 (.loop jE))) (oR [oA 63 1 3,oV 1 2 63] .ret)))),[(.cell 2 true 1)],1,[10000000 + 59,10000000 + 60,10000000 + 61]⟩
theorem qN:zA Tryz.prog 35 OE:=okF Tryz.func35
def rG:C:=oR [oB 38 .lss 37 36] (.seq (oD 38 .skip (.exit 2)) (.seq (.block 3 (oR [oM 39 37,oM 4 39] (.reg [oF 40 6 1,oLr 41 1 1 40,oM 42 4,oF 43 6 1,oLr 44 1 1 43,oM 45 4,oI 46 8 44 45,oA 47 8 46,oC1 48 36 47,oI 49 8 41 42,oV 8 49 48]))) (.reg [oC 50 .add 37 1,oM 37 50])))
def tG:C:=oR [oB 21 .lss 20 19] (.seq (oD 21 .skip (.exit 0)) (.seq (.block 1 (oR [oM 22 20,oM 3 22] (.reg [oF 23 5 1,oLr 24 1 1 23,oM 25 3,oF 26 5 1,oLr 27 1 1 26,oM 28 3,oI 29 8 27 28,oA 30 8 29,oC1 31 36 30,oI 32 8 24 25,oV 8 32 31]))) (.reg [oC 33 .add 20 1,oM 20 33])))
def gG:DA:=⟨(oR [oQ 1 8 0,oY 2 zze] (oR [oF 5 5 1,oLr 6 1 1 5,oS 7 (.callo .any 62 8 [(.t 6)]),oF 8 6 1,oLr 9 1 1 8,oS 10 (.callo .any 62 8 [(.t 9)]),oF 11 7 1,oLr 12 1 1 11,oS 13 (.callo .any 63 2 [(.t 12)]),oF 14 5 1,oN (.store (.root 1) false 1 (.t 14) (.t 7)),oF 15 6 1,oN (.store (.root 1) false 1 (.t 15) (.t 10)),oF 16 7 1,oN (.store (.root 1) false 1 (.t 16) (.t 13))] (.seq (oR [oF 17 5 1,oL 18 17,oH 19 18,oJ 20 0] (.block 0 (.loop tG))) (.seq (oR [oF 34 6 1,oL 35 34,oH 36 35,oJ 37 0] (.block 2 (.loop rG))) (oR [oA 51 8 1,oV 8 2 51] .ret))))),[(.cell 2 true 8)],1,[10000000 + 62,10000000 + 63]⟩
theorem AO:zA Tryz.prog 36 gG:=okF Tryz.func36
def PB:DA:=⟨(oR [oQ 3 25 1,oJ 4 0] (.seq (oR [oF 12 1 3,oLr 13 3 1 12,oC 14 .lss 13 0,oM 15 14,oFg 16 1 3 15 false,oG 17 (.load (.root 3) false 1 (.t 16)) 15 false,oMg 18 0 15 false,oG 19 (.nilchk (.t 18)) 15 false,oFg 20 0 19 15 false,oP 21 20 15 false,oHg 22 21 15 false,oBg 23 .geq 17 22 15 false,oPo 24 15 23] (oD 24 (oR [oJ 4 4] .ret) .skip)) (oR [oM 25 0,oK 26 25,oF 27 0 26,oS 28 (.load (.out [3,5,5]) false 1 (.t 27)),oF 29 1 3,oLr 30 3 1 29,oI 31 10 28 30,oY 5 [.nilP],oN (.store (.root 5) false 1 (.t 5) (.t 31))] (.seq (oR [oF 32 0 3,oLr 33 3 1 32,oLr 34 5 1 5,oK 35 34,oF 36 0 35,oL 37 36,oS 38 (.callq .any 64 [(.t 33),(.t 37)]),oU 39 38] (oD 39 (oR [oJ 4 1] .ret) .skip)) (.seq (oR [oF 40 0 3,oL 41 40] (.block 0 (oR [oC 43 .eql 41 1,oM 42 43] (oD 42 (.seq (oR [oLr 44 5 1 5,oK 45 44,oA 46 10 45,oF 47 4 3,oF 48 0 47,oLr 49 3 1 48,oS 50 (.callq .any 65 [(.t 46),(.t 49)]),oC 51 .geq 50 0] (oD 51 (oR [oJ 4 5] .ret) .skip)) (oR [oL 52 5,oK 53 52,oF 54 6 53,oL 55 54,oH 56 55,oS 57 (.mkf 67 [(.t 5),(.t 3)]),oS 58 (.callh 225 (.c (.fn 66 [])) [(.t 56),(.t 57)]),oM 6 58] (.reg [oLr 59 5 1 5,oLr 60 5 1 5,oK 61 60,oF 62 6 61,oL 63 62,oM 64 6,oF 65 4 3,oS 66 (.load (.root 3) true 13 (.t 65)),oS 67 (.bsl zzc 1 [(0,(.t 66))]),oS 68 (.calln .any 68 13 [3,5] (.t 63) [(.t 64),(.t 67)]),oK 69 59,oF 70 6 69,oN (.store (.out [3,5]) false 1 (.t 70) (.t 68))]))) (oR [oC 72 .eql 41 2,oM 71 72] (oD 71 (oR [oLr 73 5 1 5,oK 74 73,oA 75 10 74,oF 76 2 3,oLr 77 3 1 76,oS 78 (.callq .any 65 [(.t 75),(.t 77)]),oM 7 78] (.seq (oR [oM 79 7,oC 80 .lss 79 0] (oD 80 (oR [oJ 4 4] .ret) .skip)) (.reg [oLr 81 5 1 5,oLr 82 5 1 5,oK 83 82,oF 84 6 83,oL 85 84,oM 86 7,oM 87 7,oC 88 .add 87 1,oS 89 (.calln .any 69 13 [3,5] (.t 85) [(.t 86),(.t 88)]),oK 90 81,oF 91 6 90,oN (.store (.out [3,5]) false 1 (.t 91) (.t 89))]))) (oR [oC 93 .eql 41 3,oM 92 93] (oD 92 (oR [oLr 94 5 1 5,oK 95 94,oA 96 10 95,oF 97 4 3,oF 98 0 97,oLr 99 3 1 98,oS 100 (.callq .any 65 [(.t 96),(.t 99)]),oM 8 100] (.seq (oR [oM 101 8,oC 102 .lss 101 0] (oD 102 (oR [oJ 4 4] .ret) .skip)) (.reg [oLr 103 5 1 5,oK 104 103,oF 105 6 104,oL 106 105,oM 107 8,oF 108 4 3,oS 109 (.load (.root 3) true 13 (.t 108)),oI 110 13 106 107,oN (.store (.out [3,5]) true 13 (.t 110) (.t 109))]))) (oR [oC 112 .eql 41 4,oM 111 112] (oD 111 (.seq (oR [oLr 113 5 1 5,oK 114 113,oA 115 10 114,oF 116 17 3,oF 117 0 116,oLr 118 3 1 117,oS 119 (.callq .any 70 [(.t 115),(.t 118)]),oM 9 119] (oR [oM 120 9,oC 121 .geq 120 0] (oD 121 (oR [oLr 122 5 1 5,oK 123 122,oF 124 5 123,oL 125 124,oM 126 9,oF 127 17 3,oF 128 1 127,oLr 129 3 1 128,oI 130 2 125 126,oF 131 1 130,oN (.store (.out [3,5]) false 1 (.t 131) (.t 129))] (oR [oJ 4 0] .ret)) .skip))) (oR [oL 132 5,oK 133 132,oF 134 5 133,oL 135 134,oH 136 135,oS 137 (.mkf 71 [(.t 5),(.t 3)]),oS 138 (.callh 225 (.c (.fn 66 [])) [(.t 136),(.t 137)]),oM 10 138] (.reg [oLr 139 5 1 5,oLr 140 5 1 5,oK 141 140,oF 142 5 141,oL 143 142,oM 144 10,oF 145 17 3,oS 146 (.load (.root 3) true 2 (.t 145)),oS 147 (.bsl zzb 1 [(0,(.t 146))]),oS 148 (.calln .any 72 2 [3,5] (.t 143) [(.t 144),(.t 147)]),oK 149 139,oF 150 5 149,oN (.store (.out [3,5]) false 1 (.t 150) (.t 148))]))) (oR [oC 152 .eql 41 5,oM 151 152] (oD 151 (oR [oLr 153 5 1 5,oK 154 153,oA 155 10 154,oF 156 2 3,oLr 157 3 1 156,oS 158 (.callq .any 70 [(.t 155),(.t 157)]),oM 11 158] (.seq (oR [oM 159 11,oC 160 .lss 159 0] (oD 160 (oR [oJ 4 4] .ret) .skip)) (.reg [oLr 161 5 1 5,oLr 162 5 1 5,oK 163 162,oF 164 5 163,oL 165 164,oM 166 11,oM 167 11,oC 168 .add 167 1,oS 169 (.calln .any 73 2 [3,5] (.t 165) [(.t 166),(.t 168)]),oK 170 161,oF 171 5 170,oN (.store (.out [3,5]) false 1 (.t 171) (.t 169))]))) (oR [oC 173 .eql 41 6,oM 172 173] (oD 172 (.reg [oL 174 5,oF 175 3 3,oL 176 175,oK 177 174,oF 178 1 177,oW 178 176]) (oR [oC 180 .eql 41 7,oM 179 180] (oD 179 (oR [oL 181 5,oK 182 181,oF 183 0 182,oL 184 183,oC 185 .eql 184 2] (oD 185 (.reg [oLr 186 5 1 5,oLr 187 5 1 5,oF 188 19 3,oLr 189 3 1 188,oF 190 20 3,oLr 191 3 1 190,oK 192 186,oF 193 2 192,oN (.store (.out [3,5]) false 1 (.t 193) (.t 189)),oK 194 187,oF 195 3 194,oN (.store (.out [3,5]) false 1 (.t 195) (.t 191))]) (.reg [oL 196 5,oF 197 21 3,oL 198 197,oK 199 196,oF 200 4 199,oW 200 198]))) (oR [oC 202 .eql 41 8,oM 201 202] (oD 201 (.reg [oL 203 5,oF 204 22 3,oL 205 204,oK 206 203,oF 207 9 206,oW 207 205]) (oR [oC 209 .eql 41 9,oM 208 209] (oD 208 (oR [oL 210 5,oF 211 24 3,oL 212 211,oK 213 210,oF 214 8 213,oW 214 212] (oR [oL 215 5,oK 216 215,oF 217 0 216,oL 218 217,oC 219 .eql 218 8] (oD 219 (.reg [oL 220 5,oF 221 23 3,oL 222 221,oK 223 220,oF 224 7 223,oW 224 222]) .skip))) .skip)))))))))))))))))))) (oR [oJ 4 0] .ret)))))),[(.tmp 4)],2,[6000000,7000000,1000000 + 66,20000000 + 68,20000000 + 69,20000000 + 72,20000000 + 73,30000000 + 65,30000000 + 70,30000000 + 64]⟩
theorem MM:zA Tryz.prog 37 PB:=okF Tryz.func37
def sE:C:=.seq (oR [oM 48 7,oM 49 6,oH 50 49,oB 51 .lss 48 50] (oD 51 .skip (.exit 4))) (.seq (.block 5 (oR [oM 54 6,oM 55 7,oI 56 1 54 55,oL 57 56,oC 58 .lss 57 0,oM 59 58,oMg 60 6 59 false,oMg 61 7 59 false,oIg 62 1 60 61 59 false,oP 63 62 59 false,oFg 64 0 1 59 false,oP 65 64 59 false,oHg 66 65 59 false,oBg 67 .geq 63 66 59 false,oPo 68 59 67] (oD 68 (oR [oJ 2 4] .ret) .skip))) (.reg [oM 52 7,oC 53 .add 52 1,oM 7 53]))
def PD:C:=.seq (oR [oM 27 5,oM 28 3,oB 29 .lss 27 28] (oD 29 .skip (.exit 2))) (.seq (.block 3 (oR [oF 32 0 4,oL 33 32,oC1 34 75 33,oM 35 34,oFg 36 0 1 35 true,oP 37 36 35 true,oMg 38 5 35 true,oIg 39 10 37 38 35 true,oFg 40 1 39 35 true,oP 41 40 35 true,oFg 42 1 4 35 true,oP 43 42 35 true,oBg 44 .eql 41 43 35 true,oPa 45 35 44] (oD 45 (oR [oJ 2 1] .ret) .skip))) (.reg [oM 30 5,oC 31 .add 30 1,oM 5 31]))
def JG:C:=.seq (oR [oM 12 3,oF 13 0 1,oL 14 13,oH 15 14,oB 16 .lss 12 15] (oD 16 .skip (.exit 0))) (.seq (.block 1 (oR [oF 19 0 1,oL 20 19,oM 21 3,oI 22 10 20 21,oA 23 10 22,oY 4 zzd,oV 10 4 23] (.seq (oR [oA 24 10 4,oC1 25 74 24,oU 26 25] (oD 26 (oR [oJ 2 1] .ret) .skip)) (.seq (oR [oJ 5 0] (.block 2 (.loop PD))) (oR [oA 46 10 4,oC1 47 76 46,oM 6 47] (.seq (oR [oJ 7 0] (.block 4 (.loop sE))) (oR [oF 69 0 4,oL 70 69,oC 71 .eql 70 8,oM 72 71,oFg 73 0 1 72 true,oP 74 73 72 true,oFg 75 7 4 72 true,oP 76 75 72 true,oIg 77 10 74 76 72 true,oFg 78 0 77 72 true,oP 79 78 72 true,oG 80 (.call .any 77 [(.t 79)]) 72 true,oUg 81 80 72 true,oPa 82 72 81] (oD 82 (oR [oJ 2 1] .ret) .skip)))))))) (.reg [oM 17 3,oC 18 .add 17 1,oM 3 18]))
def uH:DA:=⟨(oR [oQ 1 1 0,oJ 2 0] (.seq (oR [oF 8 0 1,oL 9 8,oH 10 9,oC 11 .gtr 10 32] (oD 11 (oR [oJ 2 3] .ret) .skip)) (.seq (oR [oJ 3 0] (.block 0 (.loop JG))) (oR [oJ 2 0] .ret)))),[(.tmp 2)],1,[]⟩
theorem ZY:zA Tryz.prog 38 uH:=okF Tryz.func38
noncomputable def QS:DA:=cF [] Tryz.f39
theorem H0:zA Tryz.prog 39 QS:=okF Tryz.func39
def eE:C:=.seq (oR [oM 97 6,oF 98 6 2,oL 99 98,oH 100 99,oB 101 .lss 97 100] (oD 101 .skip (.exit 2))) (.seq (.block 3 (oR [oF 104 6 2,oL 105 104,oM 106 6,oI 107 13 105 106,oA 108 13 107,oF 109 6 3,oL 110 109,oM 111 6,oI 112 13 110 111,oA 113 13 112,oC2 114 80 108 113,oU 115 114] (oD 115 (oR [oZ 4 false] .ret) .skip))) (.reg [oM 102 6,oC 103 .add 102 1,oM 6 103]))
def bD:C:=.seq (oR [oM 79 5,oF 80 5 2,oL 81 80,oH 82 81,oB 83 .lss 79 82] (oD 83 .skip (.exit 0))) (.seq (.block 1 (oR [oF 86 5 2,oL 87 86,oM 88 5,oI 89 2 87 88,oA 90 2 89,oF 91 5 3,oL 92 91,oM 93 5,oI 94 2 92 93,oA 95 2 94,oS 96 (.eqa true [0,1] (.t 90) (.t 95))] (oD 96 (oR [oZ 4 false] .ret) .skip))) (.reg [oM 84 5,oC 85 .add 84 1,oM 5 85]))
def CA:DA:=⟨(oR [oQ 2 10 0,oQ 3 10 1,oZ 4 false] (.seq (oR [oF 7 0 2,oL 8 7,oF 9 0 3,oL 10 9,oB 11 .neq 8 10,oM 12 11,oFg 13 1 2 12 false,oP 14 13 12 false,oFg 15 1 3 12 false,oP 16 15 12 false,oBg 17 .neq 14 16 12 false,oPo 18 12 17,oM 19 18,oFg 20 2 2 19 false,oP 21 20 19 false,oFg 22 2 3 19 false,oP 23 22 19 false,oBg 24 .neq 21 23 19 false,oPo 25 19 24,oM 26 25,oFg 27 3 2 26 false,oP 28 27 26 false,oFg 29 3 3 26 false,oP 30 29 26 false,oBg 31 .neq 28 30 26 false,oPo 32 26 31,oM 33 32,oFg 34 4 2 33 false,oP 35 34 33 false,oFg 36 4 3 33 false,oP 37 36 33 false,oBg 38 .neq 35 37 33 false,oPo 39 33 38,oM 40 39,oFg 41 7 2 40 false,oP 42 41 40 false,oFg 43 7 3 40 false,oP 44 43 40 false,oBg 45 .neq 42 44 40 false,oPo 46 40 45,oM 47 46,oFg 48 8 2 47 false,oP 49 48 47 false,oFg 50 8 3 47 false,oP 51 50 47 false,oBg 52 .neq 49 51 47 false,oPo 53 47 52,oM 54 53,oFg 55 9 2 54 false,oP 56 55 54 false,oFg 57 9 3 54 false,oP 58 57 54 false,oG 59 (.bin .neq true (.t 56) (.t 58)) 54 false,oPo 60 54 59,oM 61 60,oFg 62 5 2 61 false,oP 63 62 61 false,oHg 64 63 61 false,oFg 65 5 3 61 false,oP 66 65 61 false,oHg 67 66 61 false,oBg 68 .neq 64 67 61 false,oPo 69 61 68,oM 70 69,oFg 71 6 2 70 false,oP 72 71 70 false,oHg 73 72 70 false,oFg 74 6 3 70 false,oP 75 74 70 false,oHg 76 75 70 false,oBg 77 .neq 73 76 70 false,oPo 78 70 77] (oD 78 (oR [oZ 4 false] .ret) .skip)) (.seq (oR [oJ 5 0] (.block 0 (.loop bD))) (.seq (oR [oJ 6 0] (.block 2 (.loop eE))) (oR [oZ 4 true] .ret))))),[(.tmp 4)],2,[]⟩
theorem TT:zA Tryz.prog 40 CA:=okF Tryz.func40
def SB:C:=oR [oB 18 .lss 17 16] (.seq (oD 18 .skip (.exit 0)) (.seq (.block 1 (oR [oM 19 17,oI 20 10 15 17,oA 21 10 20,oY 8 zzd,oM 7 19,oV 10 8 21] (oR [oM 22 1,oM 23 7,oI 24 10 22 23,oA 25 10 24,oY 9 zzd,oV 10 9 25] (oR [oM 26 2,oA 27 10 8,oA 28 10 9,oS 29 (.callv .any (.t 26) [(.t 27),(.t 28)]),oU 30 29] (oD 30 (oR [oZ 6 false] .ret) .skip))))) (.reg [oC 31 .add 17 1,oM 17 31])))
def iC:DA:=⟨(oR [oZ 6 false] (.seq (oR [oM 10 0,oH 11 10,oM 12 1,oH 13 12,oB 14 .neq 11 13] (oD 14 (oR [oZ 6 false] .ret) .skip)) (.seq (oR [oM 15 0,oH 16 15,oJ 17 0] (.block 0 (.loop SB))) (oR [oZ 6 true] .ret)))),[(.tmp 6)],3,[]⟩
theorem ZJ:zA Tryz.prog 41 iC:=okF Tryz.func41
def GG:DA:=⟨(oR [oQ 2 10 0,oQ 3 10 1,oZ 4 false] (oR [oF 5 0 2,oL 6 5,oF 7 0 3,oL 8 7,oB 9 .eql 6 8,oM 4 9] .ret)),[(.tmp 4)],2,[]⟩
theorem cT:zA Tryz.prog 42 GG:=okF Tryz.func42
def kE:C:=oR [oB 240 .lss 239 238] (.seq (oD 240 .skip (.exit 12)) (.seq (.block 13 (oR [oM 241 239,oM 22 241] (.reg [oM 242 7,oM 243 22,oM 244 7,oM 245 22,oI 246 25 244 245,oF 247 4 246,oF 248 5 247,oA 249 8 248,oC1 250 36 249,oI 251 25 242 243,oF 252 4 251,oF 253 5 252,oV 8 253 250]))) (.reg [oC 254 .add 239 1,oM 239 254])))
def ZC:C:=oR [oB 222 .lss 221 220] (.seq (oD 222 .skip (.exit 10)) (.seq (.block 11 (oR [oI 223 2 219 221,oA 224 2 223,oY 21 zzb,oV 2 21 224] (oR [oA 225 10 4,oF 226 0 21,oL 227 226,oC2 228 70 225 227,oC 229 .lss 228 0] (oD 229 (.reg [oM 230 7,oM 231 0,oA 232 2 21,oS 233 (.build zza [(0,(1,(.c (.int .i64 4)))),(1,(1,(.t 231))),(17,(2,(.t 232)))]),oS 234 (.bsl zza 1 [(0,(.t 233))]),oS 235 (.appm .any 52 25 272 (.t 230) (.t 234)),oM 7 235]) .skip)))) (.reg [oC 236 .add 221 1,oM 221 236])))
def lC:C:=oR [oB 191 .lss 190 189] (.seq (oD 191 .skip (.exit 8)) (.seq (.block 9 (oR [oI 192 2 188 190,oA 193 2 192,oY 18 zzb,oV 2 18 193] (oR [oA 194 10 4,oF 195 0 18,oL 196 195,oC2 197 70 194 196,oM 19 197] (oR [oM 198 19,oC 199 .geq 198 0,oM 200 199,oFg 201 5 4 200 true,oG 202 (.load (.root 4) false 1 (.t 201)) 200 true,oMg 203 19 200 true,oIg 204 2 202 203 200 true,oFg 205 1 204 200 true,oP 206 205 200 true,oFg 207 1 18 200 true,oG 208 (.load (.root 18) false 1 (.t 207)) 200 true,oBg 209 .neq 206 208 200 true,oPa 210 200 209] (oD 210 (.reg [oM 211 7,oM 212 0,oA 213 2 18,oS 214 (.build zza [(0,(1,(.c (.int .i64 4)))),(1,(1,(.t 212))),(17,(2,(.t 213)))]),oS 215 (.bsl zza 1 [(0,(.t 214))]),oS 216 (.appm .any 52 25 272 (.t 211) (.t 215)),oM 7 216]) .skip))))) (.reg [oC 217 .add 190 1,oM 190 217])))
def XC:C:=oR [oB 171 .lss 170 169] (.seq (oD 171 .skip (.exit 6)) (.seq (.block 7 (oR [oI 172 2 168 170,oA 173 2 172,oY 16 zzb,oV 2 16 173] (oR [oA 174 10 5,oF 175 0 16,oL 176 175,oC2 177 70 174 176,oC 178 .lss 177 0] (oD 178 (.reg [oM 179 7,oM 180 0,oF 181 0 16,oL 182 181,oS 183 (.build zza [(0,(1,(.c (.int .i64 5)))),(1,(1,(.t 180))),(2,(1,(.t 182)))]),oS 184 (.bsl zza 1 [(0,(.t 183))]),oS 185 (.appm .any 52 25 272 (.t 179) (.t 184)),oM 7 185]) .skip)))) (.reg [oC 186 .add 170 1,oM 170 186])))
def CC:C:=oR [oB 152 .lss 151 150] (.seq (oD 152 .skip (.exit 4)) (.seq (.block 5 (oR [oI 153 13 149 151,oA 154 13 153,oY 14 zzc,oV 13 14 154] (oR [oA 155 10 4,oF 156 0 14,oL 157 156,oC2 158 65 155 157,oC 159 .lss 158 0] (oD 159 (.reg [oM 160 7,oM 161 0,oA 162 13 14,oS 163 (.build zza [(0,(1,(.c (.int .i64 1)))),(1,(1,(.t 161))),(4,(13,(.t 162)))]),oS 164 (.bsl zza 1 [(0,(.t 163))]),oS 165 (.appm .any 52 25 272 (.t 160) (.t 164)),oM 7 165]) .skip)))) (.reg [oC 166 .add 151 1,oM 151 166])))
def zC:C:=oR [oB 122 .lss 121 120] (.seq (oD 122 .skip (.exit 2)) (.seq (.block 3 (oR [oI 123 13 119 121,oA 124 13 123,oY 11 zzc,oV 13 11 124] (oR [oA 125 10 4,oF 126 0 11,oL 127 126,oC2 128 65 125 127,oM 12 128] (oR [oM 129 12,oC 130 .geq 129 0,oM 131 130,oFg 132 6 4 131 true,oG 133 (.load (.root 4) false 1 (.t 132)) 131 true,oMg 134 12 131 true,oIg 135 13 133 134 131 true,oLg 136 13 135 131 true,oG 137 (.load (.root 11) true 13 (.t 11)) 131 true,oCg 138 81 136 137 131 true,oUg 139 138 131 true,oPa 140 131 139] (oD 140 (.reg [oM 141 7,oM 142 0,oA 143 13 11,oS 144 (.build zza [(0,(1,(.c (.int .i64 3)))),(1,(1,(.t 142))),(4,(13,(.t 143)))]),oS 145 (.bsl zza 1 [(0,(.t 144))]),oS 146 (.appm .any 52 25 272 (.t 141) (.t 145)),oM 7 146]) .skip))))) (.reg [oC 147 .add 121 1,oM 121 147])))
def BC:C:=oR [oB 102 .lss 101 100] (.seq (oD 102 .skip (.exit 0)) (.seq (.block 1 (oR [oI 103 13 99 101,oA 104 13 103,oY 9 zzc,oV 13 9 104] (oR [oA 105 10 5,oF 106 0 9,oL 107 106,oC2 108 65 105 107,oC 109 .lss 108 0] (oD 109 (.reg [oM 110 7,oM 111 0,oF 112 0 9,oL 113 112,oS 114 (.build zza [(0,(1,(.c (.int .i64 2)))),(1,(1,(.t 111))),(2,(1,(.t 113)))]),oS 115 (.bsl zza 1 [(0,(.t 114))]),oS 116 (.appm .any 52 25 272 (.t 110) (.t 115)),oM 7 116]) .skip)))) (.reg [oC 117 .add 101 1,oM 101 117])))
def PE:DA:=⟨(oR [oQ 4 10 1,oQ 5 10 2,oS 6 (.mv (.c (.sl true [])))] (oR [oS 7 (.mv (.c (.sl true [])))] (.seq (oR [oF 23 1 4,oL 24 23,oF 25 1 5,oL 26 25,oB 27 .neq 24 26] (oD 27 (.reg [oM 28 7,oM 29 0,oF 30 1 5,oL 31 30,oS 32 (.build zza [(0,(1,(.c (.int .i64 6)))),(1,(1,(.t 29))),(3,(1,(.t 31)))]),oS 33 (.bsl zza 1 [(0,(.t 32))]),oS 34 (.appm .any 52 25 272 (.t 28) (.t 33)),oM 7 34]) .skip)) (.seq (oR [oF 35 2 4,oL 36 35,oF 37 2 5,oL 38 37,oB 39 .neq 36 38,oM 40 39,oFg 41 3 4 40 false,oP 42 41 40 false,oFg 43 3 5 40 false,oP 44 43 40 false,oBg 45 .neq 42 44 40 false,oPo 46 40 45,oM 47 46,oFg 48 4 4 47 false,oP 49 48 47 false,oFg 50 4 5 47 false,oP 51 50 47 false,oBg 52 .neq 49 51 47 false,oPo 53 47 52] (oD 53 (.reg [oM 54 7,oM 55 0,oF 56 2 5,oL 57 56,oF 58 3 5,oL 59 58,oF 60 4 5,oL 61 60,oS 62 (.build zza [(0,(1,(.c (.int .i64 7)))),(1,(1,(.t 55))),(19,(1,(.t 57))),(20,(1,(.t 59))),(21,(1,(.t 61)))]),oS 63 (.bsl zza 1 [(0,(.t 62))]),oS 64 (.appm .any 52 25 272 (.t 54) (.t 63)),oM 7 64]) .skip)) (.seq (oR [oF 65 9 4,oL 66 65,oF 67 9 5,oL 68 67,oS 69 (.bin .neq true (.t 66) (.t 68))] (oD 69 (.reg [oM 70 7,oM 71 0,oF 72 9 5,oL 73 72,oS 74 (.build zza [(0,(1,(.c (.int .i64 8)))),(1,(1,(.t 71))),(22,(1,(.t 73)))]),oS 75 (.bsl zza 1 [(0,(.t 74))]),oS 76 (.appm .any 52 25 272 (.t 70) (.t 75)),oM 7 76]) .skip)) (.seq (oR [oF 77 7 4,oL 78 77,oF 79 7 5,oL 80 79,oB 81 .neq 78 80,oM 82 81,oFg 83 8 4 82 false,oP 84 83 82 false,oFg 85 8 5 82 false,oP 86 85 82 false,oBg 87 .neq 84 86 82 false,oPo 88 82 87] (oD 88 (.reg [oM 89 7,oM 90 0,oF 91 7 5,oL 92 91,oF 93 8 5,oL 94 93,oS 95 (.build zza [(0,(1,(.c (.int .i64 9)))),(1,(1,(.t 90))),(23,(1,(.t 92))),(24,(1,(.t 94)))]),oS 96 (.bsl zza 1 [(0,(.t 95))]),oS 97 (.appm .any 52 25 272 (.t 89) (.t 96)),oM 7 97]) .skip)) (.seq (oR [oF 98 6 4,oL 99 98,oH 100 99,oJ 101 0] (.block 0 (.loop BC))) (.seq (oR [oF 118 6 5,oL 119 118,oH 120 119,oJ 121 0] (.block 2 (.loop zC))) (.seq (oR [oF 148 6 5,oL 149 148,oH 150 149,oJ 151 0] (.block 4 (.loop CC))) (.seq (oR [oF 167 5 4,oL 168 167,oH 169 168,oJ 170 0] (.block 6 (.loop XC))) (.seq (oR [oF 187 5 5,oL 188 187,oH 189 188,oJ 190 0] (.block 8 (.loop lC))) (.seq (oR [oF 218 5 5,oL 219 218,oH 220 219,oJ 221 0] (.block 10 (.loop ZC))) (.seq (oR [oM 237 7,oH 238 237,oJ 239 0] (.block 12 (.loop kE))) (oR [oM 255 7,oM 6 255] .ret)))))))))))))),[(.tmp 6)],3,[69,129,153,195,233,293,331,371,433,471]⟩
theorem wN:zA Tryz.prog 43 PE:=okF Tryz.func43
def NC:C:=.seq (oR [oM 280 23,oF 281 5 5,oL 282 281,oH 283 282,oB 284 .lss 280 283] (oD 284 .skip (.exit 10))) (.seq (.block 11 (oR [oA 288 10 4,oF 289 5 5,oL 290 289,oM 291 23,oI 292 2 290 291,oF 293 0 292,oL 294 293,oC2 295 83 288 294,oM 287 295,oX 296 287 0,oX 297 287 1,oM 24 296,oM 25 297] (oR [oM 298 25,oU 299 298] (oD 299 (.reg [oM 300 7,oM 301 0,oF 302 5 5,oL 303 302,oM 304 23,oI 305 2 303 304,oA 306 2 305,oS 307 (.build zza [(0,(1,(.c (.int .i64 4)))),(1,(1,(.t 301))),(17,(2,(.t 306)))]),oS 308 (.bsl zza 1 [(0,(.t 307))]),oAp 309 52 25 272 300 308,oM 7 309]) .skip)))) (.reg [oM 285 23,oC 286 .add 285 1,oM 23 286]))
def xC:C:=.seq (oR [oM 236 20,oF 237 5 5,oL 238 237,oH 239 238,oB 240 .lss 236 239] (oD 240 .skip (.exit 8))) (.seq (.block 9 (oR [oA 244 10 4,oF 245 5 5,oL 246 245,oM 247 20,oI 248 2 246 247,oF 249 0 248,oL 250 249,oC2 251 83 244 250,oM 243 251,oX 252 243 0,oX 253 243 1,oM 21 252,oM 22 253] (oR [oM 254 22,oM 255 254,oFg 256 5 4 255 true,oP 257 256 255 true,oMg 258 21 255 true,oIg 259 2 257 258 255 true,oFg 260 1 259 255 true,oP 261 260 255 true,oFg 262 5 5 255 true,oP 263 262 255 true,oMg 264 20 255 true,oIg 265 2 263 264 255 true,oFg 266 1 265 255 true,oP 267 266 255 true,oBg 268 .neq 261 267 255 true,oPa 269 255 268] (oD 269 (.reg [oM 270 7,oM 271 0,oF 272 5 5,oL 273 272,oM 274 20,oI 275 2 273 274,oA 276 2 275,oS 277 (.build zza [(0,(1,(.c (.int .i64 4)))),(1,(1,(.t 271))),(17,(2,(.t 276)))]),oS 278 (.bsl zza 1 [(0,(.t 277))]),oAp 279 52 25 272 270 278,oM 7 279]) .skip)))) (.reg [oM 241 20,oC 242 .add 241 1,oM 20 242]))
def MC:C:=.seq (oR [oM 205 17,oF 206 5 4,oL 207 206,oH 208 207,oB 209 .lss 205 208] (oD 209 .skip (.exit 6))) (.seq (.block 7 (oR [oA 213 10 5,oF 214 5 4,oL 215 214,oM 216 17,oI 217 2 215 216,oF 218 0 217,oL 219 218,oC2 220 83 213 219,oM 212 220,oX 221 212 0,oX 222 212 1,oM 18 221,oM 19 222] (oR [oM 223 19,oU 224 223] (oD 224 (.reg [oM 225 7,oM 226 0,oF 227 5 4,oL 228 227,oM 229 17,oI 230 2 228 229,oF 231 0 230,oL 232 231,oS 233 (.build zza [(0,(1,(.c (.int .i64 5)))),(1,(1,(.t 226))),(2,(1,(.t 232)))]),oS 234 (.bsl zza 1 [(0,(.t 233))]),oAp 235 52 25 272 225 234,oM 7 235]) .skip)))) (.reg [oM 210 17,oC 211 .add 210 1,oM 17 211]))
def qD:C:=.seq (oR [oM 175 14,oF 176 6 5,oL 177 176,oH 178 177,oB 179 .lss 175 178] (oD 179 .skip (.exit 4))) (.seq (.block 5 (oR [oA 183 10 4,oF 184 6 5,oL 185 184,oM 186 14,oI 187 13 185 186,oF 188 0 187,oL 189 188,oC2 190 82 183 189,oM 182 190,oX 191 182 0,oX 192 182 1,oM 15 191,oM 16 192] (oR [oM 193 16,oU 194 193] (oD 194 (.reg [oM 195 7,oM 196 0,oF 197 6 5,oL 198 197,oM 199 14,oI 200 13 198 199,oA 201 13 200,oS 202 (.build zza [(0,(1,(.c (.int .i64 1)))),(1,(1,(.t 196))),(4,(13,(.t 201)))]),oS 203 (.bsl zza 1 [(0,(.t 202))]),oAp 204 52 25 272 195 203,oM 7 204]) .skip)))) (.reg [oM 180 14,oC 181 .add 180 1,oM 14 181]))
def cC:C:=.seq (oR [oM 132 11,oF 133 6 5,oL 134 133,oH 135 134,oB 136 .lss 132 135] (oD 136 .skip (.exit 2))) (.seq (.block 3 (oR [oA 140 10 4,oF 141 6 5,oL 142 141,oM 143 11,oI 144 13 142 143,oF 145 0 144,oL 146 145,oC2 147 82 140 146,oM 139 147,oX 148 139 0,oX 149 139 1,oM 12 148,oM 13 149] (oR [oM 150 13,oM 151 150,oFg 152 6 4 151 true,oP 153 152 151 true,oMg 154 12 151 true,oIg 155 13 153 154 151 true,oLg 156 13 155 151 true,oFg 157 6 5 151 true,oP 158 157 151 true,oMg 159 11 151 true,oIg 160 13 158 159 151 true,oLg 161 13 160 151 true,oCg 162 45 156 161 151 true,oUg 163 162 151 true,oPa 164 151 163] (oD 164 (.reg [oM 165 7,oM 166 0,oF 167 6 5,oL 168 167,oM 169 11,oI 170 13 168 169,oA 171 13 170,oS 172 (.build zza [(0,(1,(.c (.int .i64 3)))),(1,(1,(.t 166))),(4,(13,(.t 171)))]),oS 173 (.bsl zza 1 [(0,(.t 172))]),oAp 174 52 25 272 165 173,oM 7 174]) .skip)))) (.reg [oM 137 11,oC 138 .add 137 1,oM 11 138]))
def wD:C:=.seq (oR [oM 101 8,oF 102 6 4,oL 103 102,oH 104 103,oB 105 .lss 101 104] (oD 105 .skip (.exit 0))) (.seq (.block 1 (oR [oA 109 10 5,oF 110 6 4,oL 111 110,oM 112 8,oI 113 13 111 112,oF 114 0 113,oL 115 114,oC2 116 82 109 115,oM 108 116,oX 117 108 0,oX 118 108 1,oM 9 117,oM 10 118] (oR [oM 119 10,oU 120 119] (oD 120 (.reg [oM 121 7,oM 122 0,oF 123 6 4,oL 124 123,oM 125 8,oI 126 13 124 125,oF 127 0 126,oL 128 127,oS 129 (.build zza [(0,(1,(.c (.int .i64 2)))),(1,(1,(.t 122))),(2,(1,(.t 128)))]),oS 130 (.bsl zza 1 [(0,(.t 129))]),oAp 131 52 25 272 121 130,oM 7 131]) .skip)))) (.reg [oM 106 8,oC 107 .add 106 1,oM 8 107]))
def SF:DA:=⟨(oR [oQ 4 10 1,oQ 5 10 2,oS 6 (.mv (.c (.sl true [])))] (oR [oS 7 (.mv (.c (.sl true [])))] (.seq (oR [oF 26 1 4,oL 27 26,oF 28 1 5,oL 29 28,oB 30 .neq 27 29] (oD 30 (.reg [oM 31 7,oM 32 0,oF 33 1 5,oL 34 33,oS 35 (.build zza [(0,(1,(.c (.int .i64 6)))),(1,(1,(.t 32))),(3,(1,(.t 34)))]),oS 36 (.bsl zza 1 [(0,(.t 35))]),oAp 37 52 25 272 31 36,oM 7 37]) .skip)) (.seq (oR [oF 38 2 4,oL 39 38,oF 40 2 5,oL 41 40,oB 42 .neq 39 41,oM 43 42,oFg 44 3 4 43 false,oP 45 44 43 false,oFg 46 3 5 43 false,oP 47 46 43 false,oBg 48 .neq 45 47 43 false,oPo 49 43 48,oM 50 49,oFg 51 4 4 50 false,oP 52 51 50 false,oFg 53 4 5 50 false,oP 54 53 50 false,oBg 55 .neq 52 54 50 false,oPo 56 50 55] (oD 56 (.reg [oM 57 7,oM 58 0,oF 59 2 5,oL 60 59,oF 61 3 5,oL 62 61,oF 63 4 5,oL 64 63,oS 65 (.build zza [(0,(1,(.c (.int .i64 7)))),(1,(1,(.t 58))),(19,(1,(.t 60))),(20,(1,(.t 62))),(21,(1,(.t 64)))]),oS 66 (.bsl zza 1 [(0,(.t 65))]),oAp 67 52 25 272 57 66,oM 7 67]) .skip)) (.seq (oR [oF 68 9 4,oL 69 68,oF 70 9 5,oL 71 70,oS 72 (.bin .neq true (.t 69) (.t 71))] (oD 72 (.reg [oM 73 7,oM 74 0,oF 75 9 5,oL 76 75,oS 77 (.build zza [(0,(1,(.c (.int .i64 8)))),(1,(1,(.t 74))),(22,(1,(.t 76)))]),oS 78 (.bsl zza 1 [(0,(.t 77))]),oAp 79 52 25 272 73 78,oM 7 79]) .skip)) (.seq (oR [oF 80 7 4,oL 81 80,oF 82 7 5,oL 83 82,oB 84 .neq 81 83,oM 85 84,oFg 86 8 4 85 false,oP 87 86 85 false,oFg 88 8 5 85 false,oP 89 88 85 false,oBg 90 .neq 87 89 85 false,oPo 91 85 90] (oD 91 (.reg [oM 92 7,oM 93 0,oF 94 7 5,oL 95 94,oF 96 8 5,oL 97 96,oS 98 (.build zza [(0,(1,(.c (.int .i64 9)))),(1,(1,(.t 93))),(23,(1,(.t 95))),(24,(1,(.t 97)))]),oS 99 (.bsl zza 1 [(0,(.t 98))]),oAp 100 52 25 272 92 99,oM 7 100]) .skip)) (.seq (oR [oJ 8 0] (.block 0 (.loop wD))) (.seq (oR [oJ 11 0] (.block 2 (.loop cC))) (.seq (oR [oJ 14 0] (.block 4 (.loop qD))) (.seq (oR [oJ 17 0] (.block 6 (.loop MC))) (.seq (oR [oJ 20 0] (.block 8 (.loop xC))) (.seq (oR [oJ 23 0] (.block 10 (.loop NC))) (oR [oM 310 7,oM 6 310] .ret))))))))))))),[(.tmp 6)],3,[]⟩
theorem uV:zA Tryz.prog 44 SF:=okF Tryz.func44
def UF:DA:=⟨(oR [oQ 2 13 0,oQ 3 13 1,oZ 4 false] (oR [oA 5 13 2,oS 6 (.bsl zzc 1 [(0,(.t 5))]),oS 7 (.build zzd [(6,(1,(.t 6)))]),oA 8 13 3,oS 9 (.bsl zzc 1 [(0,(.t 8))]),oS 10 (.build zzd [(6,(1,(.t 9)))]),oC2 11 40 7 10,oM 4 11] .ret)),[(.tmp 4)],2,[]⟩
theorem PQ:zA Tryz.prog 45 UF:=okF Tryz.func45
noncomputable def uO:DA:=cF [] Tryz.f46
theorem AU:zA Tryz.prog 46 uO:=okF Tryz.func46
noncomputable def II:DA:=cF [] Tryz.f47
theorem AN:zA Tryz.prog 47 II:=okF Tryz.func47
noncomputable def rR:DA:=cF [] Tryz.f48
theorem rZ:zA Tryz.prog 48 rR:=okF Tryz.func48
noncomputable def SK:DA:=cF [] Tryz.f49
theorem OQ:zA Tryz.prog 49 SK:=okF Tryz.func49
noncomputable def PK:DA:=cF [31] Tryz.f51
theorem EQ:zA Tryz.prog 51 PK:=okF Tryz.func51
noncomputable def UX:DA:=cF [5000000,337,334,1000000 + 99] Tryz.f55
theorem J6:zA Tryz.prog 55 UX:=okF Tryz.func55
noncomputable def jO:DA:=cF [26,94,337,387] Tryz.f56
theorem ZU:zA Tryz.prog 56 jO:=okF Tryz.func56
def nA:DA:=⟨(oR [oQ 1 10 0,oZ 2 false] (oR [oA 5 10 1,oY 3 zzd,oV 10 3 5] (oR [oF 6 0 3,oN (.store .any false 1 (.t 6) (.c (.int .i64 0)))] (oR [oZ 4 true] (.seq (oR [oF 7 0 1,oL 8 7] (.block 0 (oR [oC 10 .eql 8 1,oM 9 10] (oD 9 .skip (oR [oC 12 .eql 8 2,oM 11 12] (oD 11 (oR [oF 13 2 1,oL 14 13,oF 15 3 1,oL 16 15,oB 17 .leq 14 16,oM 4 17] (.reg [oF 18 2 3,oN (.store .any false 1 (.t 18) (.c (.int .i64 0))),oF 19 3 3,oN (.store .any false 1 (.t 19) (.c (.int .i64 0)))])) (oR [oC 21 .eql 8 3,oM 20 21] (oD 20 (oR [oF 22 4 1,oL 23 22,oC 24 .geq 23 0,oM 25 24,oFg 26 4 1 25 true,oP 27 26 25 true,oCi 28 .leq 27 200 25 true,oPa 29 25 28,oM 4 29] (.reg [oF 30 4 3,oN (.store .any false 1 (.t 30) (.c (.int .i64 0)))])) (oR [oC 32 .eql 8 4,oM 31 32] (oD 31 (oR [oF 33 1 1,oL 34 33,oC1 35 101 34,oM 36 35,oFg 37 5 1 36 true,oP 38 37 36 true,oG 39 (.call .any 102 [(.t 38)]) 36 true,oPa 40 36 39,oM 4 40] (.reg [oF 41 1 3,oN (.store .any false 1 (.t 41) (.c (.str (ByteArray.mk #[])))),oF 42 5 3,oN (.store .any false 1 (.t 42) (.c (.sl true []))),oF 43 9 3,oN (.store .any false 1 (.t 43) (.c (.bool false)))])) (.seq (oR [oC 45 .eql 8 5,oM 44 45] (oD 44 .skip (.reg [oC 46 .eql 8 6,oM 44 46]))) (oD 44 (oR [oF 47 1 1,oL 48 47,oC1 49 101 48,oM 50 49,oLg 51 10 1 50 true,oG 52 (.call .any 103 [(.t 51)]) 50 true,oPa 53 50 52,oM 4 53] (oR [oF 54 1 3,oN (.store .any false 1 (.t 54) (.c (.str (ByteArray.mk #[])))),oF 55 6 3,oN (.store .any false 1 (.t 55) (.c (.sl true [])))] (.reg [oF 56 9 1,oL 57 56,oM 58 57,oFg 59 0 1 58 true,oP 60 59 58 true,oCi 61 .eql 60 5 58 true,oPa 62 58 61,oF 63 9 3,oW 63 62]))) (.seq (oR [oC 65 .eql 8 7,oM 64 65] (oD 64 .skip (.reg [oC 66 .eql 8 8,oM 64 66]))) (oD 64 (oR [oF 67 4 1,oL 68 67,oC 69 .geq 68 0,oM 70 69,oFg 71 4 1 70 true,oP 72 71 70 true,oCi 73 .leq 72 50 70 true,oPa 74 70 73,oM 4 74] (oR [oF 75 4 3,oN (.store .any false 1 (.t 75) (.c (.int .i64 0))),oF 76 8 3,oN (.store .any false 1 (.t 76) (.c (.int .i64 0)))] (oR [oF 77 0 1,oL 78 77,oC 79 .eql 78 8] (oD 79 (.reg [oF 80 7 3,oN (.store .any false 1 (.t 80) (.c (.int .i64 0)))]) .skip)))) (oR [oC 82 .eql 8 9,oM 81 82] (oD 81 (.reg [oF 83 8 3,oN (.store .any false 1 (.t 83) (.c (.int .i64 0)))]) (oR [oZ 2 false] .ret))))))))))))))))) (oR [oM 84 4,oM 85 84,oLg 86 10 3 85 true,oG 87 (.build zzd []) 85 true,oCg 88 104 86 87 85 true,oPa 89 85 88,oM 2 89] .ret)))))),[(.tmp 2)],1,[]⟩
theorem dZ:zA Tryz.prog 57 nA:=okF Tryz.func57
def aF:C:=oR [oB 10 .lss 9 8] (.seq (oD 10 .skip (.exit 0)) (.seq (.block 1 (oR [oI 11 13 7 9,oA 12 13 11,oY 5 zzc,oV 13 5 12] (.reg [oM 13 3,oF 14 2 5,oL 15 14,oS 16 (.bsl [(.int .i64 0)] 1 [(0,(.t 15))]),oAp 17 3 1 8 13 16,oM 3 17]))) (.reg [oC 18 .add 9 1,oM 9 18])))
def fJ:DA:=⟨(oR [oQ 1 10 0,oS 2 (.mv (.c (.sl true [])))] (oR [oS 3 (.mv (.c (.sl true [])))] (.seq (oR [oF 6 6 1,oL 7 6,oH 8 7,oJ 9 0] (.block 0 (.loop aF))) (.seq (oR [oF 19 0 1,oL 20 19,oC 21 .eql 20 8] (oD 21 (.reg [oM 22 3,oF 23 7 1,oL 24 23,oS 25 (.bsl [(.int .i64 0)] 1 [(0,(.t 24))]),oAp 26 3 1 8 22 25,oM 3 26]) .skip)) (.seq (oR [oF 27 0 1,oL 28 27,oC 29 .geq 28 7] (oD 29 (.reg [oM 30 3,oF 31 8 1,oL 32 31,oS 33 (.bsl [(.int .i64 0)] 1 [(0,(.t 32))]),oAp 34 3 1 8 30 33,oM 3 34]) .skip)) (oR [oM 35 3,oM 2 35] .ret)))))),[(.tmp 2)],1,[]⟩
theorem gZ:zA Tryz.prog 58 fJ:=okF Tryz.func58
def pB:DA:=⟨(oR [oS 2 (.mv (.c (.sl true [])))] (.seq (oR [oM 3 0,oS 4 (.eqn false false (.t 3) (.c (.sl true [])))] (oD 4 (oR [oS 2 (.mv (.c (.sl true [])))] .ret) .skip)) (oR [oS 5 (.bsl zzd 0 []),oM 6 0,oS 7 (.appf .any 68 10 120 (.t 5) (.t 6)),oM 2 7] .ret))),[(.tmp 2)],1,[14]⟩
theorem fM:zA Tryz.prog 59 pB:=okF Tryz.func59
def MA:DA:=⟨(oR [oS 2 (.mv (.c (.sl true [])))] (.seq (oR [oM 3 0,oS 4 (.eqn false false (.t 3) (.c (.sl true [])))] (oD 4 (oR [oS 2 (.mv (.c (.sl true [])))] .ret) .skip)) (oR [oS 5 (.bsl zzb 0 []),oM 6 0,oS 7 (.appf .any 50 2 24 (.t 5) (.t 6)),oM 2 7] .ret))),[(.tmp 2)],1,[14]⟩
theorem aL:zA Tryz.prog 60 MA:=okF Tryz.func60
def NA:DA:=⟨(oR [oS 2 (.mv (.c (.sl true [])))] (.seq (oR [oM 3 0,oS 4 (.eqn false false (.t 3) (.c (.sl true [])))] (oD 4 (oR [oS 2 (.mv (.c (.sl true [])))] .ret) .skip)) (oR [oS 5 (.bsl zzc 0 []),oM 6 0,oS 7 (.appf .any 48 13 160 (.t 5) (.t 6)),oM 2 7] .ret))),[(.tmp 2)],1,[14]⟩
theorem pL:zA Tryz.prog 61 NA:=okF Tryz.func61
def qB:DA:=⟨(oR [oS 2 (.mv (.c (.sl true [])))] (.seq (oR [oM 3 0,oS 4 (.eqn false false (.t 3) (.c (.sl true [])))] (oD 4 (oR [oS 2 (.mv (.c (.sl true [])))] .ret) .skip)) (oR [oS 5 (.bsl zze 0 []),oM 6 0,oS 7 (.appf .any 46 8 120 (.t 5) (.t 6)),oM 2 7] .ret))),[(.tmp 2)],1,[14]⟩
theorem TL:zA Tryz.prog 62 qB:=okF Tryz.func62
def lB:DA:=⟨(oR [oS 2 (.mv (.c (.sl true [])))] (.seq (oR [oM 3 0,oS 4 (.eqn false false (.t 3) (.c (.sl true [])))] (oD 4 (oR [oS 2 (.mv (.c (.sl true [])))] .ret) .skip)) (oR [oS 5 (.bsl zzb 0 []),oM 6 0,oS 7 (.appf .any 102 2 24 (.t 5) (.t 6)),oM 2 7] .ret))),[(.tmp 2)],1,[14]⟩
theorem eN:zA Tryz.prog 63 lB:=okF Tryz.func63
def XA:DA:=⟨(oR [oZ 4 false] (oR [oM 6 1,oC 7 .eql 6 5,oM 8 7,oMg 9 1 8 false,oCi 10 .eql 9 6 8 false,oPo 11 8 10,oM 5 11] (.seq (oR [oM 12 0] (.block 0 (.seq (oR [oC 14 .eql 12 1,oM 13 14] (oD 13 .skip (oR [oC 15 .eql 12 2,oM 13 15] (oD 13 .skip (.reg [oC 16 .eql 12 3,oM 13 16]))))) (oD 13 (oR [oM 17 5,oM 4 17] .ret) (.seq (oR [oC 19 .eql 12 4,oM 18 19] (oD 18 .skip (.reg [oC 20 .eql 12 5,oM 18 20]))) (oD 18 (oR [oM 21 1,oC 22 .eql 21 4,oM 4 22] .ret) (oR [oC 24 .eql 12 6,oM 23 24] (oD 23 (oR [oM 25 5,oM 26 25,oMg 27 1 26 false,oCi 28 .eql 27 4 26 false,oPo 29 26 28,oM 4 29] .ret) (oR [oC 31 .eql 12 7,oM 30 31] (oD 30 (oR [oM 32 1,oC 33 .eql 32 2,oM 34 33,oMg 35 1 34 false,oCi 36 .eql 35 3 34 false,oPo 37 34 36,oM 38 37,oMg 39 1 38 false,oCi 40 .eql 39 7 38 false,oPo 41 38 40,oM 42 41,oMg 43 1 42 false,oCi 44 .eql 43 8 42 false,oPo 45 42 44,oM 4 45] .ret) (oR [oC 47 .eql 12 8,oM 46 47] (oD 46 (oR [oM 48 1,oC 49 .eql 48 4,oM 50 49,oMg 51 1 50 false,oCi 52 .eql 51 6 50 false,oPo 53 50 52,oM 4 53] .ret) (oR [oC 55 .eql 12 9,oM 54 55] (oD 54 (oR [oM 56 1,oC 57 .geq 56 7,oM 58 57,oMg 59 1 58 true,oCi 60 .leq 59 9 58 true,oPa 61 58 60,oM 4 61] .ret) .skip)))))))))))))) (oR [oZ 4 false] .ret)))),[(.tmp 4)],2,[]⟩
theorem bT:zA Tryz.prog 64 XA:=okF Tryz.func64
def fH:DA:=⟨(oR [oQ 2 10 0,oQ 3 1 1,oJ 4 0] (oR [oF 5 6 2,oL 6 5,oS 7 (.mkf 106 [(.t 3)]),oC2 8 105 6 7,oM 4 8] .ret)),[(.tmp 4)],2,[]⟩
theorem OU:zA Tryz.prog 65 fH:=okF Tryz.func65
def FE:C:=oR [oB 8 .lss 7 6] (.seq (oD 8 .skip (.exit 0)) (.seq (.block 1 (oR [oM 9 7,oM 5 9] (oR [oM 10 1,oM 11 5,oS 12 (.callh 16 (.t 10) [(.t 11)])] (oD 12 (oR [oM 13 5,oM 4 13] .ret) .skip)))) (.reg [oC 14 .add 7 1,oM 7 14])))
def lE:DA:=⟨(oR [oJ 4 0] (.seq (oR [oM 6 0,oJ 7 0] (.block 0 (.loop FE))) (oR [oM 15 0,oM 4 15] .ret))),[(.tmp 4)],2,[2000010]⟩
theorem SO:zA Tryz.prog 66 lE:=okF Tryz.func66
def fE:DA:=⟨(oR [oZ 4 false] (oR [oL 5 1,oK 6 5,oF 7 6 6,oL 8 7,oM 9 0,oI 10 13 8 9,oF 11 0 10,oL 12 11,oF 13 4 2,oF 14 0 13,oL 15 14,oB 16 .gtr 12 15,oM 4 16] .ret)),[(.tmp 4)],3,[]⟩
theorem eK:zA Tryz.prog 67 fE:=okF Tryz.func67
def gH:DA:=⟨(oR [oQ 2 10 0,oQ 3 1 1,oJ 4 0] (oR [oF 5 5 2,oL 6 5,oS 7 (.mkf 110 [(.t 3)]),oC2 8 109 6 7,oM 4 8] .ret)),[(.tmp 4)],2,[]⟩
theorem PU:zA Tryz.prog 70 gH:=okF Tryz.func70
def gE:DA:=⟨(oR [oZ 4 false] (oR [oL 5 1,oK 6 5,oF 7 5 6,oL 8 7,oM 9 0,oI 10 2 8 9,oF 11 0 10,oL 12 11,oF 13 17 2,oF 14 0 13,oL 15 14,oB 16 .gtr 12 15,oM 4 16] .ret)),[(.tmp 4)],3,[]⟩
theorem rK:zA Tryz.prog 71 gE:=okF Tryz.func71
def TA:DA:=⟨(oR [oQ 1 10 0,oZ 2 false] (.seq (oR [oF 3 0 1,oL 4 3,oC 5 .lss 4 1,oM 6 5,oFg 7 0 1 6 false,oP 8 7 6 false,oCi 9 .gtr 8 9 6 false,oPo 10 6 9,oM 11 10,oLg 12 10 1 11 false,oLg 13 10 1 11 false,oG 14 (.call .any 113 [(.t 13)]) 11 false,oCg 15 40 12 14 11 false,oUg 16 15 11 false,oPo 17 11 16,oM 18 17,oFg 19 0 1 18 false,oP 20 19 18 false,oG 21 (.call .any 75 [(.t 20)]) 18 false,oMg 22 21 18 false,oFg 23 1 1 22 true,oP 24 23 22 true,oG 25 (.call .any 114 [(.t 24)]) 22 true,oUg 26 25 22 true,oPb 27 22 26 18 false,oPo 28 18 27] (oD 28 (oR [oZ 2 false] .ret) .skip)) (.seq (oR [oF 29 0 1,oL 30 29] (.block 0 (oR [oC 32 .eql 30 2,oM 31 32] (oD 31 (oR [oF 33 2 1,oL 34 33,oF 35 3 1,oL 36 35,oB 37 .leq 34 36,oM 2 37] .ret) (oR [oC 39 .eql 30 3,oM 38 39] (oD 38 (oR [oF 40 4 1,oL 41 40,oC 42 .geq 41 0,oM 43 42,oFg 44 4 1 43 true,oP 45 44 43 true,oCi 46 .leq 45 200 43 true,oPa 47 43 46,oM 2 47] .ret) (oR [oC 49 .eql 30 4,oM 48 49] (oD 48 (oR [oF 50 5 1,oL 51 50,oC1 52 115 51,oM 2 52] .ret) (.seq (oR [oC 54 .eql 30 5,oM 53 54] (oD 53 .skip (.reg [oC 55 .eql 30 6,oM 53 55]))) (oD 53 (oR [oF 56 6 1,oL 57 56,oF 58 0 1,oL 59 58,oC 60 .eql 59 5,oC2 61 116 57 60,oM 2 61] .ret) (.seq (oR [oC 63 .eql 30 7,oM 62 63] (oD 62 .skip (.reg [oC 64 .eql 30 8,oM 62 64]))) (oD 62 (oR [oF 65 4 1,oL 66 65,oC 67 .geq 66 0,oM 68 67,oFg 69 4 1 68 true,oP 70 69 68 true,oCi 71 .leq 70 50 68 true,oPa 72 68 71,oM 2 72] .ret) .skip)))))))))))) (oR [oZ 2 true] .ret)))),[(.tmp 2)],1,[]⟩
theorem H4:zA Tryz.prog 74 TA:=okF Tryz.func74
def dJ:DA:=⟨(oR [oZ 2 false] (oR [oM 3 0,oC 4 .eql 3 4,oM 5 4,oMg 6 0 5 false,oCi 7 .eql 6 5 5 false,oPo 8 5 7,oM 9 8,oMg 10 0 9 false,oCi 11 .eql 10 6 9 false,oPo 12 9 11,oM 2 12] .ret)),[(.tmp 2)],1,[]⟩
theorem LY:zA Tryz.prog 75 dJ:=okF Tryz.func75
def AF:C:=.seq (oR [oM 5 4,oF 6 6 1,oL 7 6,oH 8 7,oB 9 .lss 5 8] (oD 9 .skip (.exit 0))) (.seq (.block 1 (.reg [oM 12 3,oF 13 6 1,oL 14 13,oM 15 4,oI 16 13 14 15,oF 17 2 16,oL 18 17,oS 19 (.bsl [(.int .i64 0)] 1 [(0,(.t 18))]),oAp 20 3 1 8 12 19,oM 3 20])) (.reg [oM 10 4,oC 11 .add 10 1,oM 4 11]))
def dK:DA:=⟨(oR [oQ 1 10 0,oS 2 (.mv (.c (.sl true [])))] (oR [oS 3 (.mv (.c (.sl true [])))] (.seq (oR [oJ 4 0] (.block 0 (.loop AF))) (.seq (oR [oF 21 0 1,oL 22 21,oC 23 .eql 22 8] (oD 23 (.reg [oM 24 3,oF 25 7 1,oL 26 25,oS 27 (.bsl [(.int .i64 0)] 1 [(0,(.t 26))]),oAp 28 3 1 8 24 27,oM 3 28]) .skip)) (.seq (oR [oF 29 0 1,oL 30 29,oC 31 .eql 30 7,oM 32 31,oFg 33 0 1 32 false,oP 34 33 32 false,oCi 35 .eql 34 8 32 false,oPo 36 32 35,oM 37 36,oFg 38 0 1 37 false,oP 39 38 37 false,oCi 40 .eql 39 9 37 false,oPo 41 37 40] (oD 41 (.reg [oM 42 3,oF 43 8 1,oL 44 43,oS 45 (.bsl [(.int .i64 0)] 1 [(0,(.t 44))]),oAp 46 3 1 8 42 45,oM 3 46]) .skip)) (oR [oM 47 3,oM 2 47] .ret)))))),[(.tmp 2)],1,[]⟩
theorem n0:zA Tryz.prog 76 dK:=okF Tryz.func76
def kH:DA:=⟨(oR [oZ 2 false] (oR [oM 3 0,oC 4 .geq 3 1,oM 5 4,oMg 6 0 5 true,oCi 7 .leq 6 4 5 true,oPa 8 5 7,oM 2 8] .ret)),[(.tmp 2)],1,[]⟩
theorem XU:zA Tryz.prog 77 kH:=okF Tryz.func77
def SE:DA:=⟨(oR [oQ 2 10 0,oQ 3 25 1,oJ 4 0] (oR [oF 12 0 2,oL 13 12,oC 14 .eql 13 5,oM 15 14,oFg 16 0 2 15 false,oP 17 16 15 false,oCi 18 .eql 17 6 15 false,oPo 19 15 18,oM 5 19] (oR [oZ 6 false] (.seq (oR [oF 20 0 3,oL 21 20] (.block 0 (.seq (oR [oC 23 .eql 21 1,oM 22 23] (oD 22 .skip (oR [oC 24 .eql 21 2,oM 22 24] (oD 22 .skip (.reg [oC 25 .eql 21 3,oM 22 25]))))) (oD 22 (.reg [oM 26 5,oM 6 26]) (.seq (oR [oC 28 .eql 21 4,oM 27 28] (oD 27 .skip (.reg [oC 29 .eql 21 5,oM 27 29]))) (oD 27 (.reg [oF 30 0 2,oL 31 30,oC 32 .eql 31 4,oM 6 32]) (oR [oC 34 .eql 21 6,oM 33 34] (oD 33 (.reg [oF 35 0 2,oL 36 35,oC1 37 75 36,oM 6 37]) (oR [oC 39 .eql 21 7,oM 38 39] (oD 38 (.reg [oF 40 0 2,oL 41 40,oC 42 .eql 41 2,oM 43 42,oFg 44 0 2 43 false,oP 45 44 43 false,oCi 46 .eql 45 3 43 false,oPo 47 43 46,oM 48 47,oFg 49 0 2 48 false,oP 50 49 48 false,oCi 51 .eql 50 7 48 false,oPo 52 48 51,oM 53 52,oFg 54 0 2 53 false,oP 55 54 53 false,oCi 56 .eql 55 8 53 false,oPo 57 53 56,oM 6 57]) (oR [oC 59 .eql 21 8,oM 58 59] (oD 58 (.reg [oF 60 0 2,oL 61 60,oC 62 .eql 61 4,oM 63 62,oFg 64 0 2 63 false,oP 65 64 63 false,oCi 66 .eql 65 6 63 false,oPo 67 63 66,oM 6 67]) (oR [oC 69 .eql 21 9,oM 68 69] (oD 68 (.reg [oF 70 0 2,oL 71 70,oC 72 .eql 71 7,oM 73 72,oFg 74 0 2 73 false,oP 75 74 73 false,oCi 76 .eql 75 8 73 false,oPo 77 73 76,oM 78 77,oFg 79 0 2 78 false,oP 80 79 78 false,oCi 81 .eql 80 9 78 false,oPo 82 78 81,oM 6 82]) .skip)))))))))))))) (.seq (oR [oM 83 6,oU 84 83] (oD 84 (oR [oJ 4 1] .ret) .skip)) (oR [oF 85 2 3,oL 86 85,oM 7 86] (.seq (oR [oF 87 0 3,oL 88 87,oC 89 .eql 88 1,oM 90 89,oFg 91 0 3 90 false,oP 92 91 90 false,oCi 93 .eql 92 3 90 false,oPo 94 90 93] (oD 94 (.reg [oF 95 4 3,oF 96 0 95,oL 97 96,oM 7 97]) .skip)) (oR [oA 99 10 2,oM 100 7,oC2 101 82 99 100,oM 98 101,oX 102 98 0,oX 103 98 1,oM 8 102,oM 9 103] (.seq (oR [oF 104 0 3,oL 105 104,oC 106 .eql 105 1,oM 107 106,oMg 108 9 107 true,oPa 109 107 108] (oD 109 (oR [oJ 4 5] .ret) .skip)) (.seq (oR [oF 110 0 3,oL 111 110,oC 112 .eql 111 2,oM 113 112,oFg 114 0 3 113 false,oP 115 114 113 false,oCi 116 .eql 115 3 113 false,oPo 117 113 116,oM 118 117,oMg 119 9 118 true,oUg 120 119 118 true,oPa 121 118 120] (oD 121 (oR [oJ 4 4] .ret) .skip)) (.seq (oR [oA 123 10 2,oM 124 7,oC2 125 83 123 124,oM 122 125,oX 126 122 0,oX 127 122 1,oM 10 126,oM 11 127] (oR [oF 128 0 3,oL 129 128,oC 130 .eql 129 5,oM 131 130,oMg 132 11 131 true,oUg 133 132 131 true,oPa 134 131 133] (oD 134 (oR [oJ 4 4] .ret) .skip))) (oR [oJ 4 0] .ret)))))))))))),[(.tmp 4)],2,[]⟩
theorem tV:zA Tryz.prog 78 SE:=okF Tryz.func78
def tB:DA:=⟨(oR [oQ 2 10 0,oQ 3 25 1,oY 4 zzd] (.seq (oR [oF 5 0 3,oL 6 5] (.block 0 (.seq (oR [oC 17 .eql 6 1,oM 16 17] (oD 16 .skip (.reg [oC 18 .eql 6 3,oM 16 18]))) (oD 16 (.reg [oF 19 6 2,oL 20 19,oF 21 4 3,oF 22 0 21,oL 23 22,oF 24 4 3,oA 25 13 24,oS 26 (.bsl zzc 1 [(0,(.t 25))]),oS 27 (.call .any 117 [(.t 20),(.t 23),(.t 26)]),oF 28 6 2,oW 28 27]) (oR [oC 30 .eql 6 2,oM 29 30] (oD 29 (.reg [oF 31 6 2,oL 32 31,oF 33 2 3,oL 34 33,oS 35 (.call .any 117 [(.t 32),(.t 34),(.c (.sl true []))]),oF 36 6 2,oW 36 35]) (oR [oC 38 .eql 6 4,oM 37 38] (oD 37 (.reg [oF 39 5 2,oL 40 39,oF 41 17 3,oF 42 0 41,oL 43 42,oF 44 17 3,oA 45 2 44,oS 46 (.bsl zzb 1 [(0,(.t 45))]),oS 47 (.call .any 118 [(.t 40),(.t 43),(.t 46)]),oF 48 5 2,oW 48 47]) (oR [oC 50 .eql 6 5,oM 49 50] (oD 49 (.reg [oF 51 5 2,oL 52 51,oF 53 2 3,oL 54 53,oS 55 (.call .any 118 [(.t 52),(.t 54),(.c (.sl true []))]),oF 56 5 2,oW 56 55]) (oR [oC 58 .eql 6 6,oM 57 58] (oD 57 (.reg [oF 59 3 3,oL 60 59,oF 61 1 2,oW 61 60]) (oR [oC 63 .eql 6 7,oM 62 63] (oD 62 (oR [oF 64 0 2,oL 65 64,oC 66 .eql 65 2] (oD 66 (.reg [oF 67 19 3,oLr 68 3 1 67,oF 69 20 3,oLr 70 3 1 69,oF 71 2 2,oN (.store (.root 2) false 1 (.t 71) (.t 68)),oF 72 3 2,oN (.store (.root 2) false 1 (.t 72) (.t 70))]) (.reg [oF 73 21 3,oL 74 73,oF 75 4 2,oW 75 74]))) (oR [oC 77 .eql 6 8,oM 76 77] (oD 76 (.reg [oF 78 22 3,oL 79 78,oF 80 9 2,oW 80 79]) (oR [oF 7 24 3,oL 8 7,oF 9 8 2,oW 9 8] (oR [oF 10 0 2,oL 11 10,oC 12 .eql 11 8] (oD 12 (.reg [oF 13 23 3,oL 14 13,oF 15 7 2,oW 15 14]) .skip))))))))))))))))))) (oR [oA 81 10 2,oV 10 4 81] .ret))),[(.cell 4 true 10)],2,[]⟩
theorem FO:zA Tryz.prog 79 tB:=okF Tryz.func79
def ZB:DA:=⟨(oR [oQ 2 13 0,oQ 3 13 1,oZ 4 false] (oR [oF 5 0 2,oL 6 5,oF 7 0 3,oL 8 7,oB 9 .eql 6 8,oM 10 9,oFg 11 1 2 10 true,oP 12 11 10 true,oFg 13 1 3 10 true,oP 14 13 10 true,oBg 15 .eql 12 14 10 true,oPa 16 10 15,oM 17 16,oFg 18 2 2 17 true,oP 19 18 17 true,oFg 20 2 3 17 true,oP 21 20 17 true,oBg 22 .eql 19 21 17 true,oPa 23 17 22,oM 24 23,oFg 25 3 2 24 true,oP 26 25 24 true,oFg 27 3 3 24 true,oP 28 27 24 true,oG 29 (.bin .eql true (.t 26) (.t 28)) 24 true,oPa 30 24 29,oM 31 30,oFg 32 4 2 31 true,oP 33 32 31 true,oFg 34 4 3 31 true,oP 35 34 31 true,oG 36 (.bin .eql true (.t 33) (.t 35)) 31 true,oPa 37 31 36,oM 38 37,oFg 39 5 2 38 true,oLg 40 8 39 38 true,oFg 41 5 3 38 true,oLg 42 8 41 38 true,oCg 43 119 40 42 38 true,oPa 44 38 43,oM 4 44] .ret)),[(.tmp 4)],2,[]⟩
theorem IQ:zA Tryz.prog 80 ZB:=okF Tryz.func80
def GD:DA:=⟨(oR [oQ 2 13 0,oQ 3 13 1,oZ 4 false] (oR [oF 5 0 2,oL 6 5,oF 7 0 3,oL 8 7,oB 9 .eql 6 8,oM 10 9,oFg 11 1 2 10 true,oP 12 11 10 true,oFg 13 1 3 10 true,oP 14 13 10 true,oBg 15 .eql 12 14 10 true,oPa 16 10 15,oM 17 16,oFg 18 2 2 17 true,oP 19 18 17 true,oFg 20 2 3 17 true,oP 21 20 17 true,oBg 22 .eql 19 21 17 true,oPa 23 17 22,oM 24 23,oFg 25 3 2 24 true,oP 26 25 24 true,oFg 27 3 3 24 true,oP 28 27 24 true,oG 29 (.bin .eql true (.t 26) (.t 28)) 24 true,oPa 30 24 29,oM 31 30,oFg 32 4 2 31 true,oP 33 32 31 true,oFg 34 4 3 31 true,oP 35 34 31 true,oG 36 (.bin .eql true (.t 33) (.t 35)) 31 true,oPa 37 31 36,oM 38 37,oFg 39 5 2 38 true,oLg 40 8 39 38 true,oFg 41 5 3 38 true,oLg 42 8 41 38 true,oCg 43 120 40 42 38 true,oPa 44 38 43,oM 4 44] .ret)),[(.tmp 4)],2,[]⟩
theorem FY:zA Tryz.prog 81 GD:=okF Tryz.func81
def uG:C:=.seq (oR [oM 7 6,oF 8 6 2,oL 9 8,oH 10 9,oB 11 .lss 7 10] (oD 11 .skip (.exit 0))) (.seq (.block 1 (oR [oF 14 6 2,oL 15 14,oM 16 6,oI 17 13 15 16,oF 18 0 17,oL 19 18,oM 20 1,oB 21 .eql 19 20] (oD 21 (oR [oM 22 6,oM 4 22,oZ 5 true] .ret) .skip))) (.reg [oM 12 6,oC 13 .add 12 1,oM 6 13]))
def eI:DA:=⟨(oR [oQ 2 10 0,oJ 4 0,oZ 5 false] (.seq (oR [oJ 6 0] (.block 0 (.loop uG))) (oR [oJ 4 0,oZ 5 false] .ret))),[(.tmp 4),(.tmp 5)],2,[]⟩
theorem FW:zA Tryz.prog 82 eI:=okF Tryz.func82
def iG:C:=.seq (oR [oM 7 6,oF 8 5 2,oL 9 8,oH 10 9,oB 11 .lss 7 10] (oD 11 .skip (.exit 0))) (.seq (.block 1 (oR [oF 14 5 2,oL 15 14,oM 16 6,oI 17 2 15 16,oF 18 0 17,oL 19 18,oM 20 1,oB 21 .eql 19 20] (oD 21 (oR [oM 22 6,oM 4 22,oZ 5 true] .ret) .skip))) (.reg [oM 12 6,oC 13 .add 12 1,oM 6 13]))
def rI:DA:=⟨(oR [oQ 2 10 0,oJ 4 0,oZ 5 false] (.seq (oR [oJ 6 0] (.block 0 (.loop iG))) (oR [oJ 4 0,oZ 5 false] .ret))),[(.tmp 4),(.tmp 5)],2,[]⟩
theorem GW:zA Tryz.prog 83 rI:=okF Tryz.func83
noncomputable def EM:DA:=cF [] Tryz.f84
theorem nT:zA Tryz.prog 84 EM:=okF Tryz.func84
noncomputable def OM:DA:=cF [113,1000000 + 126] Tryz.f85
theorem PT:zA Tryz.prog 85 OM:=okF Tryz.func85
noncomputable def gP:DA:=cF [] Tryz.f86
theorem LW:zA Tryz.prog 86 gP:=okF Tryz.func86
noncomputable def dR:DA:=cF [] Tryz.f87
theorem sZ:zA Tryz.prog 87 dR:=okF Tryz.func87
noncomputable def nS:DA:=cF [] Tryz.f88
theorem O0:zA Tryz.prog 88 nS:=okF Tryz.func88
noncomputable def jS:DA:=cF [] Tryz.f95
theorem j0:zA Tryz.prog 95 jS:=okF Tryz.func95
noncomputable def LV:DA:=cF [] Tryz.f96
theorem G4:zA Tryz.prog 96 LV:=okF Tryz.func96
noncomputable def gS:DA:=cF [] Tryz.f97
theorem p0:zA Tryz.prog 97 gS:=okF Tryz.func97
noncomputable def HV:DA:=cF [] Tryz.f98
theorem D4:zA Tryz.prog 98 HV:=okF Tryz.func98
noncomputable def CQ:DA:=cF [177] Tryz.f99
theorem XY:zA Tryz.prog 99 CQ:=okF Tryz.func99
noncomputable def JV:DA:=cF [] Tryz.f100
theorem F4:zA Tryz.prog 100 JV:=okF Tryz.func100
def CD:C:=oR [oB 20 .lss 19 18] (.seq (oD 20 .skip (.exit 0)) (.seq (.block 1 (oR [oM 21 19,oM 3 21] (oR [oM 22 0,oM 23 3,oS 24 (.index (.t 22) (.t 23)),oC1 25 140 24,oU 26 25,oM 27 26,oMg 28 0 27 true,oMg 29 3 27 true,oG 30 (.index (.t 28) (.t 29)) 27 true,oG 31 (.call .any 141 [(.t 30)]) 27 true,oUg 32 31 27 true,oPa 33 27 32] (oD 33 (oR [oZ 2 false] .ret) .skip)))) (.reg [oC 34 .add 19 1,oM 19 34])))
def zE:DA:=⟨(oR [oZ 2 false] (.seq (oR [oM 4 0,oS 5 (.bin .eql false (.t 4) (.c (.str (ByteArray.mk #[])))),oM 6 5,oMg 7 0 6 false,oG 8 (.len true (.t 7)) 6 false,oCi 9 .gtr 8 24 6 false,oPo 10 6 9,oM 11 10,oMg 12 0 11 false,oG 13 (.index (.t 12) (.c (.int .i64 0))) 11 false,oG 14 (.call .any 140 [(.t 13)]) 11 false,oUg 15 14 11 false,oPo 16 11 15] (oD 16 (oR [oZ 2 false] .ret) .skip)) (.seq (oR [oM 17 0,oS 18 (.len true (.t 17)),oJ 19 0] (.block 0 (.loop CD))) (oR [oZ 2 true] .ret)))),[(.tmp 2)],1,[]⟩
theorem PW:zA Tryz.prog 101 zE:=okF Tryz.func101
def NE:C:=oR [oB 10 .lss 9 8] (.seq (oD 10 .skip (.exit 0)) (.seq (.block 1 (oR [oI 11 2 7 9,oA 12 2 11,oY 6 zzb,oV 2 6 12] (.reg [oM 13 3,oF 14 0 6,oL 15 14,oS 16 (.bsl [(.int .i64 0)] 1 [(0,(.t 15))]),oAp 17 3 1 8 13 16,oM 18 4,oF 19 1 6,oL 20 19,oS 21 (.bsl [(.str (ByteArray.mk #[]))] 1 [(0,(.t 20))]),oAp 22 9 1 16 18 21,oM 3 17,oM 4 22]))) (.reg [oC 23 .add 9 1,oM 9 23])))
def LG:DA:=⟨(oR [oZ 2 false] (oR [oS 3 (.mv (.c (.sl true [])))] (oR [oS 4 (.mv (.c (.sl true [])))] (.seq (oR [oM 7 0,oH 8 7,oJ 9 0] (.block 0 (.loop NE))) (oR [oM 24 0,oH 25 24,oC 26 .gtr 25 0,oM 27 26,oMg 28 3 27 true,oMg 29 4 27 true,oCg 30 142 28 29 27 true,oPa 31 27 30,oM 2 31] .ret))))),[(.tmp 2)],1,[]⟩
theorem OT:zA Tryz.prog 102 LG:=okF Tryz.func102
def BE:C:=oR [oB 11 .lss 10 9] (.seq (oD 11 .skip (.exit 0)) (.seq (.block 1 (oR [oI 12 13 8 10,oA 13 13 12,oY 6 zzc,oV 13 6 13] (oR [oM 14 3,oF 15 0 6,oL 16 15,oS 17 (.bsl [(.int .i64 0)] 1 [(0,(.t 16))]),oAp 18 3 1 8 14 17,oM 19 4,oF 20 1 6,oL 21 20,oS 22 (.bsl [(.str (ByteArray.mk #[]))] 1 [(0,(.t 21))]),oAp 23 9 1 16 19 22,oM 3 18,oM 4 23] (oR [oF 24 0 1,oL 25 24,oC 26 .eql 25 6,oM 27 26,oFg 28 3 6 27 true,oP 29 28 27 true,oMg 30 29 27 true,oFg 31 4 6 30 false,oP 32 31 30 false,oG 33 (.pick (.t 30) (.c (.bool true)) (.t 32)) 27 true,oPa 34 27 33,oM 35 34,oFg 36 3 6 35 false,oP 37 36 35 false,oMg 38 37 35 false,oFg 39 4 6 38 true,oP 40 39 38 true,oPb 41 38 40 35 false,oPo 42 35 41,oM 43 42,oFg 44 4 6 43 false,oP 45 44 43 false,oUg 46 45 43 false,oMg 47 46 43 false,oFg 48 5 6 47 true,oLg 49 8 48 47 true,oG 50 (.call .any 143 [(.t 49)]) 47 true,oUg 51 50 47 true,oPb 52 47 51 43 false,oPo 53 43 52] (oD 53 (oR [oZ 2 false] .ret) .skip))))) (.reg [oC 54 .add 10 1,oM 10 54])))
def KG:DA:=⟨(oR [oQ 1 10 0,oZ 2 false] (oR [oS 3 (.mv (.c (.sl true [])))] (oR [oS 4 (.mv (.c (.sl true [])))] (.seq (oR [oF 7 6 1,oL 8 7,oH 9 8,oJ 10 0] (.block 0 (.loop BE))) (oR [oF 55 0 1,oL 56 55,oC 57 .eql 56 5,oM 58 57,oMg 59 3 58 false,oHg 60 59 58 false,oCi 61 .gtr 60 0 58 false,oPo 62 58 61,oM 63 62,oMg 64 3 63 true,oMg 65 4 63 true,oCg 66 142 64 65 63 true,oPa 67 63 66,oM 2 67] .ret))))),[(.tmp 2)],1,[]⟩
theorem IT:zA Tryz.prog 103 KG:=okF Tryz.func103
def AB:DA:=⟨(oR [oQ 2 10 0,oQ 3 10 1,oZ 4 false] (oR [oF 5 0 2,oL 6 5,oF 7 0 3,oL 8 7,oB 9 .eql 6 8,oM 10 9,oFg 11 1 2 10 true,oP 12 11 10 true,oFg 13 1 3 10 true,oP 14 13 10 true,oBg 15 .eql 12 14 10 true,oPa 16 10 15,oM 17 16,oFg 18 2 2 17 true,oP 19 18 17 true,oFg 20 2 3 17 true,oP 21 20 17 true,oBg 22 .eql 19 21 17 true,oPa 23 17 22,oM 24 23,oFg 25 3 2 24 true,oP 26 25 24 true,oFg 27 3 3 24 true,oP 28 27 24 true,oBg 29 .eql 26 28 24 true,oPa 30 24 29,oM 31 30,oFg 32 4 2 31 true,oP 33 32 31 true,oFg 34 4 3 31 true,oP 35 34 31 true,oBg 36 .eql 33 35 31 true,oPa 37 31 36,oM 38 37,oFg 39 7 2 38 true,oP 40 39 38 true,oFg 41 7 3 38 true,oP 42 41 38 true,oBg 43 .eql 40 42 38 true,oPa 44 38 43,oM 45 44,oFg 46 8 2 45 true,oP 47 46 45 true,oFg 48 8 3 45 true,oP 49 48 45 true,oBg 50 .eql 47 49 45 true,oPa 51 45 50,oM 52 51,oFg 53 9 2 52 true,oP 54 53 52 true,oFg 55 9 3 52 true,oP 56 55 52 true,oG 57 (.bin .eql true (.t 54) (.t 56)) 52 true,oPa 58 52 57,oM 59 58,oFg 60 5 2 59 true,oP 61 60 59 true,oFg 62 5 3 59 true,oP 63 62 59 true,oCg 64 144 61 63 59 true,oPa 65 59 64,oM 66 65,oFg 67 6 2 66 true,oP 68 67 66 true,oFg 69 6 3 66 true,oP 70 69 66 true,oG 71 (.call .any 145 [(.t 68),(.t 70),(.c (.fn 146 []))]) 66 true,oPa 72 66 71,oM 4 72] .ret)),[(.tmp 4)],2,[]⟩
theorem wX:zA Tryz.prog 104 AB:=okF Tryz.func104
def pC:C:=oR [oB 9 .lss 8 7] (.seq (oD 9 .skip (.exit 0)) (.seq (.block 1 (oR [oM 10 8,oM 5 10] (oR [oM 11 1,oM 12 0,oM 13 5,oI 14 13 12 13,oA 15 13 14,oS 16 (.callv .any (.t 11) [(.t 15)])] (oD 16 (oR [oM 17 5,oM 4 17] .ret) .skip)))) (.reg [oC 18 .add 8 1,oM 8 18])))
def OC:DA:=⟨(oR [oJ 4 0] (.seq (oR [oM 6 0,oH 7 6,oJ 8 0] (.block 0 (.loop pC))) (oR [oJ 4 (-1)] .ret))),[(.tmp 4)],2,[]⟩
theorem wJ:zA Tryz.prog 105 OC:=okF Tryz.func105
def QF:DA:=⟨(oR [oQ 2 13 0,oZ 3 false] (oR [oF 4 0 2,oL 5 4,oL 6 1,oB 7 .eql 5 6,oM 3 7] .ret)),[(.tmp 3)],2,[]⟩
theorem RQ:zA Tryz.prog 106 QF:=okF Tryz.func106
def aC:C:=oR [oB 9 .lss 8 7] (.seq (oD 9 .skip (.exit 0)) (.seq (.block 1 (oR [oM 10 8,oM 5 10] (oR [oM 11 1,oM 12 0,oM 13 5,oI 14 2 12 13,oA 15 2 14,oS 16 (.callv .any (.t 11) [(.t 15)])] (oD 16 (oR [oM 17 5,oM 4 17] .ret) .skip)))) (.reg [oC 18 .add 8 1,oM 8 18])))
def PC:DA:=⟨(oR [oJ 4 0] (.seq (oR [oM 6 0,oH 7 6,oJ 8 0] (.block 0 (.loop aC))) (oR [oJ 4 (-1)] .ret))),[(.tmp 4)],2,[]⟩
theorem eJ:zA Tryz.prog 109 PC:=okF Tryz.func109
def WF:DA:=⟨(oR [oQ 2 2 0,oZ 3 false] (oR [oF 4 0 2,oL 5 4,oL 6 1,oB 7 .eql 5 6,oM 3 7] .ret)),[(.tmp 3)],2,[]⟩
theorem TQ:zA Tryz.prog 110 WF:=okF Tryz.func110
def iH:DA:=⟨(oR [oQ 1 10 0,oY 2 zzd] (.seq (oR [oF 3 0 1,oL 4 3] (.block 0 (oR [oC 6 .eql 4 1,oM 5 6] (oD 5 (oR [oF 7 0 1,oL 8 7,oS 9 (.build zzd [(0,(1,(.t 8)))]),oV 10 2 9] .ret) (oR [oC 11 .eql 4 2,oM 10 11] (oD 10 (oR [oF 12 0 1,oL 13 12,oF 14 2 1,oL 15 14,oF 16 3 1,oL 17 16,oS 18 (.build zzd [(0,(1,(.t 13))),(2,(1,(.t 15))),(3,(1,(.t 17)))]),oV 10 2 18] .ret) (oR [oC 20 .eql 4 3,oM 19 20] (oD 19 (oR [oF 21 0 1,oL 22 21,oF 23 4 1,oL 24 23,oS 25 (.build zzd [(0,(1,(.t 22))),(4,(1,(.t 24)))]),oV 10 2 25] .ret) (oR [oC 27 .eql 4 4,oM 26 27] (oD 26 (oR [oF 28 0 1,oL 29 28,oF 30 1 1,oL 31 30,oF 32 5 1,oL 33 32,oF 34 9 1,oL 35 34,oS 36 (.build zzd [(0,(1,(.t 29))),(1,(1,(.t 31))),(5,(1,(.t 33))),(9,(1,(.t 35)))]),oV 10 2 36] .ret) (oR [oC 38 .eql 4 5,oM 37 38] (oD 37 (oR [oF 39 0 1,oL 40 39,oF 41 1 1,oL 42 41,oF 43 6 1,oL 44 43,oS 45 (.build zzd [(0,(1,(.t 40))),(1,(1,(.t 42))),(6,(1,(.t 44)))]),oV 10 2 45] .ret) (oR [oC 47 .eql 4 6,oM 46 47] (oD 46 (oR [oF 48 0 1,oL 49 48,oF 50 1 1,oL 51 50,oF 52 6 1,oL 53 52,oF 54 9 1,oL 55 54,oS 56 (.build zzd [(0,(1,(.t 49))),(1,(1,(.t 51))),(6,(1,(.t 53))),(9,(1,(.t 55)))]),oV 10 2 56] .ret) (oR [oC 58 .eql 4 7,oM 57 58] (oD 57 (oR [oF 59 0 1,oL 60 59,oF 61 4 1,oL 62 61,oF 63 8 1,oL 64 63,oS 65 (.build zzd [(0,(1,(.t 60))),(4,(1,(.t 62))),(8,(1,(.t 64)))]),oV 10 2 65] .ret) (oR [oC 67 .eql 4 8,oM 66 67] (oD 66 (oR [oF 68 0 1,oL 69 68,oF 70 4 1,oL 71 70,oF 72 7 1,oL 73 72,oF 74 8 1,oL 75 74,oS 76 (.build zzd [(0,(1,(.t 69))),(4,(1,(.t 71))),(7,(1,(.t 73))),(8,(1,(.t 75)))]),oV 10 2 76] .ret) .skip)))))))))))))))))) (oR [oF 77 0 1,oL 78 77,oF 79 8 1,oL 80 79,oS 81 (.build zzd [(0,(1,(.t 78))),(8,(1,(.t 80)))]),oV 10 2 81] .ret))),[(.cell 2 true 10)],1,[]⟩
theorem CY:zA Tryz.prog 113 iH:=okF Tryz.func113
def BD:C:=.seq (oR [oM 17 3,oM 18 0,oS 19 (.len true (.t 18)),oB 20 .lss 17 19] (oD 20 .skip (.exit 0))) (.seq (.block 1 (oR [oM 23 0,oM 24 3,oS 25 (.index (.t 23) (.t 24)),oC1 26 150 25,oU 27 26,oM 28 27,oMg 29 0 28 true,oMg 30 3 28 true,oG 31 (.index (.t 29) (.t 30)) 28 true,oG 32 (.call .any 151 [(.t 31)]) 28 true,oUg 33 32 28 true,oPa 34 28 33] (oD 34 (oR [oZ 2 false] .ret) .skip))) (.reg [oM 21 3,oC 22 .add 21 1,oM 3 22]))
def xE:DA:=⟨(oR [oZ 2 false] (.seq (oR [oM 4 0,oS 5 (.bin .eql false (.t 4) (.c (.str (ByteArray.mk #[])))),oM 6 5,oMg 7 0 6 false,oG 8 (.len true (.t 7)) 6 false,oCi 9 .gtr 8 24 6 false,oPo 10 6 9,oM 11 10,oMg 12 0 11 false,oG 13 (.index (.t 12) (.c (.int .i64 0))) 11 false,oG 14 (.call .any 150 [(.t 13)]) 11 false,oUg 15 14 11 false,oPo 16 11 15] (oD 16 (oR [oZ 2 false] .ret) .skip)) (.seq (oR [oJ 3 0] (.block 0 (.loop BD))) (oR [oZ 2 true] .ret)))),[(.tmp 2)],1,[]⟩
theorem SW:zA Tryz.prog 114 xE:=okF Tryz.func114
def RF:C:=.seq (oR [oM 29 5,oM 30 4,oB 31 .lss 29 30] (oD 31 .skip (.exit 2))) (.seq (.block 3 (oR [oM 34 0,oM 35 5,oI 36 2 34 35,oF 37 1 36,oL 38 37,oM 39 0,oM 40 4,oI 41 2 39 40,oF 42 1 41,oL 43 42,oB 44 .eql 38 43] (oD 44 (oR [oZ 2 false] .ret) .skip))) (.reg [oM 32 5,oC 33 .add 32 1,oM 5 33]))
def nE:C:=.seq (oR [oM 6 4,oM 7 0,oH 8 7,oB 9 .lss 6 8] (oD 9 .skip (.exit 0))) (.seq (.block 1 (.seq (oR [oM 12 3,oM 13 0,oM 14 4,oI 15 2 13 14,oF 16 0 15,oL 17 16,oC2 18 152 12 17,oU 19 18,oM 20 19,oMg 21 0 20 false,oMg 22 4 20 false,oIg 23 2 21 22 20 false,oFg 24 1 23 20 false,oP 25 24 20 false,oG 26 (.call .any 114 [(.t 25)]) 20 false,oUg 27 26 20 false,oPo 28 20 27] (oD 28 (oR [oZ 2 false] .ret) .skip)) (.seq (oR [oJ 5 0] (.block 2 (.loop RF))) (.reg [oM 45 0,oM 46 4,oI 47 2 45 46,oF 48 0 47,oL 49 48,oM 3 49])))) (.reg [oM 10 4,oC 11 .add 10 1,oM 4 11]))
def bH:DA:=⟨(oR [oZ 2 false] (oR [oJ 3 0] (.seq (oR [oJ 4 0] (.block 0 (.loop nE))) (oR [oM 50 0,oH 51 50,oC 52 .geq 51 1,oM 53 52,oMg 54 0 53 true,oHg 55 54 53 true,oCi 56 .leq 55 16 53 true,oPa 57 53 56,oM 2 57] .ret)))),[(.tmp 2)],1,[]⟩
theorem NU:zA Tryz.prog 115 bH:=okF Tryz.func115
def bE:C:=.seq (oR [oM 60 8,oM 61 6,oB 62 .lss 60 61] (oD 62 .skip (.exit 2))) (.seq (.block 3 (oR [oM 65 0,oM 66 8,oI 67 13 65 66,oF 68 1 67,oL 69 68,oF 70 1 7,oL 71 70,oB 72 .eql 69 71] (oD 72 (oR [oZ 4 false] .ret) .skip))) (.reg [oM 63 8,oC 64 .add 63 1,oM 8 64]))
def AD:C:=.seq (oR [oM 9 6,oM 10 0,oH 11 10,oB 12 .lss 9 11] (oD 12 .skip (.exit 0))) (.seq (.block 1 (oR [oM 15 0,oM 16 6,oI 17 13 15 16,oA 18 13 17,oY 7 zzc,oV 13 7 18] (.seq (oR [oM 19 5,oF 20 0 7,oL 21 20,oC2 22 152 19 21,oU 23 22,oM 24 23,oFg 25 1 7 24 false,oP 26 25 24 false,oG 27 (.call .any 114 [(.t 26)]) 24 false,oUg 28 27 24 false,oPo 29 24 28,oM 30 29,oFg 31 3 7 30 false,oP 32 31 30 false,oMg 33 32 30 false,oFg 34 4 7 33 true,oP 35 34 33 true,oPb 36 33 35 30 false,oPo 37 30 36,oM 38 37,oMg 39 1 38 false,oUg 40 39 38 false,oMg 41 40 38 false,oFg 42 3 7 41 true,oP 43 42 41 true,oMg 44 43 41 true,oFg 45 4 7 44 false,oP 46 45 44 false,oG 47 (.pick (.t 44) (.c (.bool true)) (.t 46)) 41 true,oPb 48 41 47 38 false,oPo 49 38 48] (oD 49 (oR [oZ 4 false] .ret) .skip)) (.seq (oR [oF 50 4 7,oL 51 50,oU 52 51,oM 53 52,oFg 54 5 7 53 true,oLg 55 8 54 53 true,oG 56 (.build zze []) 53 true,oCg 57 119 55 56 53 true,oUg 58 57 53 true,oPa 59 53 58] (oD 59 (oR [oZ 4 false] .ret) .skip)) (.seq (oR [oJ 8 0] (.block 2 (.loop bE))) (.reg [oF 73 0 7,oL 74 73,oM 5 74])))))) (.reg [oM 13 6,oC 14 .add 13 1,oM 6 14]))
def lH:DA:=⟨(oR [oZ 4 false] (oR [oJ 5 0] (.seq (oR [oJ 6 0] (.block 0 (.loop AD))) (oR [oM 75 0,oH 76 75,oC 77 .leq 76 16,oM 78 77,oMg 79 1 78 true,oMg 80 79 78 true,oMg 81 0 80 false,oHg 82 81 80 false,oCi 83 .geq 82 1 80 false,oG 84 (.pick (.t 80) (.c (.bool true)) (.t 83)) 78 true,oPa 85 78 84,oM 4 85] .ret)))),[(.tmp 4)],2,[]⟩
theorem BU:zA Tryz.prog 116 lH:=okF Tryz.func116
noncomputable def nO:DA:=cF [] Tryz.f117
theorem iV:zA Tryz.prog 117 nO:=okF Tryz.func117
noncomputable def mO:DA:=cF [] Tryz.f118
theorem pV:zA Tryz.prog 118 mO:=okF Tryz.func118
def tD:C:=.seq (oR [oM 48 5,oF 49 7 2,oL 50 49,oH 51 50,oB 52 .lss 48 51] (oD 52 .skip (.exit 0))) (.seq (.block 1 (oR [oF 55 7 2,oL 56 55,oM 57 5,oI 58 2 56 57,oA 59 2 58,oF 60 7 3,oL 61 60,oM 62 5,oI 63 2 61 62,oA 64 2 63,oS 65 (.eqa true [0,1] (.t 59) (.t 64))] (oD 65 (oR [oZ 4 false] .ret) .skip))) (.reg [oM 53 5,oC 54 .add 53 1,oM 5 54]))
def FB:DA:=⟨(oR [oQ 2 8 0,oQ 3 8 1,oZ 4 false] (.seq (oR [oF 6 0 2,oL 7 6,oF 8 0 3,oL 9 8,oB 10 .neq 7 9,oM 11 10,oFg 12 1 2 11 false,oP 13 12 11 false,oFg 14 1 3 11 false,oP 15 14 11 false,oG 16 (.bin .neq true (.t 13) (.t 15)) 11 false,oPo 17 11 16,oM 18 17,oFg 19 2 2 18 false,oP 20 19 18 false,oFg 21 2 3 18 false,oP 22 21 18 false,oBg 23 .neq 20 22 18 false,oPo 24 18 23,oM 25 24,oFg 26 3 2 25 false,oP 27 26 25 false,oFg 28 3 3 25 false,oP 29 28 25 false,oBg 30 .neq 27 29 25 false,oPo 31 25 30,oM 32 31,oFg 33 4 2 32 false,oP 34 33 32 false,oFg 35 4 3 32 false,oP 36 35 32 false,oBg 37 .neq 34 36 32 false,oPo 38 32 37,oM 39 38,oFg 40 7 2 39 false,oP 41 40 39 false,oHg 42 41 39 false,oFg 43 7 3 39 false,oP 44 43 39 false,oHg 45 44 39 false,oBg 46 .neq 42 45 39 false,oPo 47 39 46] (oD 47 (oR [oZ 4 false] .ret) .skip)) (.seq (oR [oJ 5 0] (.block 0 (.loop tD))) (oR [oF 66 5 2,oL 67 66,oF 68 5 3,oL 69 68,oC2 70 153 67 69,oM 71 70,oFg 72 6 2 71 true,oP 73 72 71 true,oFg 74 6 3 71 true,oP 75 74 71 true,oCg 76 153 73 75 71 true,oPa 77 71 76,oM 4 77] .ret)))),[(.tmp 4)],2,[]⟩
theorem HR:zA Tryz.prog 119 FB:=okF Tryz.func119
def FC:DA:=⟨(oR [oQ 2 8 0,oQ 3 8 1,oZ 4 false] (oR [oF 5 0 2,oL 6 5,oF 7 0 3,oL 8 7,oB 9 .eql 6 8,oM 10 9,oFg 11 1 2 10 true,oP 12 11 10 true,oFg 13 1 3 10 true,oP 14 13 10 true,oG 15 (.bin .eql true (.t 12) (.t 14)) 10 true,oPa 16 10 15,oM 17 16,oFg 18 2 2 17 true,oP 19 18 17 true,oFg 20 2 3 17 true,oP 21 20 17 true,oBg 22 .eql 19 21 17 true,oPa 23 17 22,oM 24 23,oFg 25 3 2 24 true,oP 26 25 24 true,oFg 27 3 3 24 true,oP 28 27 24 true,oBg 29 .eql 26 28 24 true,oPa 30 24 29,oM 31 30,oFg 32 4 2 31 true,oP 33 32 31 true,oFg 34 4 3 31 true,oP 35 34 31 true,oBg 36 .eql 33 35 31 true,oPa 37 31 36,oM 38 37,oFg 39 7 2 38 true,oP 40 39 38 true,oFg 41 7 3 38 true,oP 42 41 38 true,oCg 43 154 40 42 38 true,oPa 44 38 43,oM 45 44,oFg 46 5 2 45 true,oP 47 46 45 true,oFg 48 5 3 45 true,oP 49 48 45 true,oG 50 (.call .any 155 [(.t 47),(.t 49),(.c (.fn 120 []))]) 45 true,oPa 51 45 50,oM 52 51,oFg 53 6 2 52 true,oP 54 53 52 true,oFg 55 6 3 52 true,oP 56 55 52 true,oG 57 (.call .any 155 [(.t 54),(.t 56),(.c (.fn 120 []))]) 52 true,oPa 58 52 57,oM 4 58] .ret)),[(.tmp 4)],2,[]⟩
theorem jZ:zA Tryz.prog 120 FC:=okF Tryz.func120
noncomputable def oO:DA:=cF [] Tryz.f121
theorem DU:zA Tryz.prog 121 oO:=okF Tryz.func121
noncomputable def RM:DA:=cF [] Tryz.f122
theorem mT:zA Tryz.prog 122 RM:=okF Tryz.func122
noncomputable def EO:DA:=cF [] Tryz.f123
theorem dV:zA Tryz.prog 123 EO:=okF Tryz.func123
noncomputable def LK:DA:=cF [] Tryz.f124
theorem GQ:zA Tryz.prog 124 LK:=okF Tryz.func124
noncomputable def CL:DA:=cF [] Tryz.f125
theorem LR:zA Tryz.prog 125 CL:=okF Tryz.func125
noncomputable def SH:DA:=cF [8000000] Tryz.f126
theorem gM:zA Tryz.prog 126 SH:=okF Tryz.func126
noncomputable def eR:DA:=cF [] Tryz.f127
theorem eZ:zA Tryz.prog 127 eR:=okF Tryz.func127
noncomputable def fP:DA:=cF [] Tryz.f128
theorem KW:zA Tryz.prog 128 fP:=okF Tryz.func128
noncomputable def BV:DA:=cF [] Tryz.f129
theorem Z4:zA Tryz.prog 129 BV:=okF Tryz.func129
noncomputable def bO:DA:=cF [] Tryz.f130
theorem rV:zA Tryz.prog 130 bO:=okF Tryz.func130
noncomputable def kP:DA:=cF [] Tryz.f131
theorem XW:zA Tryz.prog 131 kP:=okF Tryz.func131
noncomputable def dP:DA:=cF [] Tryz.f138
theorem JW:zA Tryz.prog 138 dP:=okF Tryz.func138
noncomputable def kO:DA:=cF [] Tryz.f139
theorem CU:zA Tryz.prog 139 kO:=okF Tryz.func139
def HG:DA:=⟨(oR [oZ 2 false] (oR [oM 3 0,oS 4 (.bin .eql false (.t 3) (.c (.int .u8 95))),oM 5 4,oMg 6 0 5 false,oG 7 (.bin .geq false (.t 6) (.c (.int .u8 97))) 5 false,oMg 8 7 5 false,oMg 9 0 8 true,oG 10 (.bin .leq false (.t 9) (.c (.int .u8 122))) 8 true,oPb 11 8 10 5 false,oPo 12 5 11,oM 13 12,oMg 14 0 13 false,oG 15 (.bin .geq false (.t 14) (.c (.int .u8 65))) 13 false,oMg 16 15 13 false,oMg 17 0 16 true,oG 18 (.bin .leq false (.t 17) (.c (.int .u8 90))) 16 true,oPb 19 16 18 13 false,oPo 20 13 19,oM 2 20] .ret)),[(.tmp 2)],1,[]⟩
theorem QT:zA Tryz.prog 140 HG:=okF Tryz.func140
def jH:DA:=⟨(oR [oZ 2 false] (oR [oM 3 0,oS 4 (.bin .geq false (.t 3) (.c (.int .u8 48))),oM 5 4,oMg 6 0 5 true,oG 7 (.bin .leq false (.t 6) (.c (.int .u8 57))) 5 true,oPa 8 5 7,oM 2 8] .ret)),[(.tmp 2)],1,[]⟩
theorem HU:zA Tryz.prog 141 jH:=okF Tryz.func141
def gB:C:=oR [oB 12 .lss 11 10] (.seq (oD 12 .skip (.exit 0)) (.seq (.block 1 (oR [oM 13 11,oI 14 1 9 11,oL 15 14,oM 6 13,oM 7 15] (.seq (oR [oM 16 7,oC 17 .lss 16 1,oM 18 17,oMg 19 7 18 false,oCi 20 .gtr 19 1000 18 false,oPo 21 18 20,oM 22 21,oMg 23 6 22 false,oCi 24 .gtr 23 0 22 false,oMg 25 24 22 false,oMg 26 7 25 true,oMg 27 0 25 true,oMg 28 6 25 true,oCi 29 .sub 28 1 25 true,oIg 30 1 27 29 25 true,oP 31 30 25 true,oBg 32 .leq 26 31 25 true,oPb 33 25 32 22 false,oPo 34 22 33,oM 35 34,oMg 36 5 35 false,oMg 37 1 35 false,oMg 38 6 35 false,oIg 39 1 37 38 35 false,oP 40 39 35 false,oG 41 (.mget false .none (.bool false) (.t 36) (.t 40)) 35 false,oPo 42 35 41,oM 43 42,oMg 44 1 43 false,oMg 45 6 43 false,oIg 46 1 44 45 43 false,oP 47 46 43 false,oG 48 (.call .any 101 [(.t 47)]) 43 false,oUg 49 48 43 false,oPo 50 43 49] (oD 50 (oR [oZ 4 false] .ret) .skip)) (.reg [oM 51 5,oM 52 1,oM 53 6,oI 54 1 52 53,oL 55 54,oN (.mset .none (.t 51) (.t 55) (.c (.bool true)))])))) (.reg [oC 56 .add 11 1,oM 11 56])))
def gK:DA:=⟨(oR [oZ 4 false] (oR [oS 8 (.mkm),oM 5 8] (.seq (oR [oM 9 0,oH 10 9,oJ 11 0] (.block 0 (.loop gB))) (oR [oM 57 0,oH 58 57,oC 59 .leq 58 16,oM 4 59] .ret)))),[(.tmp 4)],2,[]⟩
theorem J0:zA Tryz.prog 142 gK:=okF Tryz.func142
def tI:DA:=⟨(oR [oQ 1 8 0,oZ 2 false] (oR [oA 3 8 1,oS 4 (.build zze []),oC2 5 147 3 4,oM 2 5] .ret)),[(.tmp 2)],1,[]⟩
theorem qX:zA Tryz.prog 143 tI:=okF Tryz.func143
def jB:C:=oR [oB 14 .lss 13 12] (.seq (oD 14 .skip (.exit 0)) (.seq (.block 1 (oR [oM 15 13,oM 5 15] (oR [oM 16 0,oM 17 5,oI 18 2 16 17,oA 19 2 18,oM 20 1,oM 21 5,oI 22 2 20 21,oA 23 2 22,oS 24 (.eqa true [0,1] (.t 19) (.t 23))] (oD 24 (oR [oZ 4 false] .ret) .skip)))) (.reg [oC 25 .add 13 1,oM 13 25])))
def RC:DA:=⟨(oR [oZ 4 false] (.seq (oR [oM 6 0,oH 7 6,oM 8 1,oH 9 8,oB 10 .neq 7 9] (oD 10 (oR [oZ 4 false] .ret) .skip)) (.seq (oR [oM 11 0,oH 12 11,oJ 13 0] (.block 0 (.loop jB))) (oR [oZ 4 true] .ret)))),[(.tmp 4)],2,[]⟩
theorem sL:zA Tryz.prog 144 RC:=okF Tryz.func144
def zB:C:=oR [oB 18 .lss 17 16] (.seq (oD 18 .skip (.exit 0)) (.seq (.block 1 (oR [oM 19 17,oI 20 13 15 17,oA 21 13 20,oY 8 zzc,oM 7 19,oV 13 8 21] (oR [oM 22 1,oM 23 7,oI 24 13 22 23,oA 25 13 24,oY 9 zzc,oV 13 9 25] (oR [oM 26 2,oA 27 13 8,oA 28 13 9,oS 29 (.callv .any (.t 26) [(.t 27),(.t 28)]),oU 30 29] (oD 30 (oR [oZ 6 false] .ret) .skip))))) (.reg [oC 31 .add 17 1,oM 17 31])))
def JB:DA:=⟨(oR [oZ 6 false] (.seq (oR [oM 10 0,oH 11 10,oM 12 1,oH 13 12,oB 14 .neq 11 13] (oD 14 (oR [oZ 6 false] .ret) .skip)) (.seq (oR [oM 15 0,oH 16 15,oJ 17 0] (.block 0 (.loop zB))) (oR [oZ 6 true] .ret)))),[(.tmp 6)],3,[]⟩
theorem qJ:zA Tryz.prog 145 JB:=okF Tryz.func145
def uC:DA:=⟨(oR [oQ 2 13 0,oQ 3 13 1,oZ 4 false] (oR [oF 5 0 2,oL 6 5,oF 7 0 3,oL 8 7,oB 9 .eql 6 8,oM 10 9,oFg 11 1 2 10 true,oP 12 11 10 true,oFg 13 1 3 10 true,oP 14 13 10 true,oBg 15 .eql 12 14 10 true,oPa 16 10 15,oM 17 16,oFg 18 2 2 17 true,oP 19 18 17 true,oFg 20 2 3 17 true,oP 21 20 17 true,oBg 22 .eql 19 21 17 true,oPa 23 17 22,oM 24 23,oFg 25 3 2 24 true,oP 26 25 24 true,oFg 27 3 3 24 true,oP 28 27 24 true,oG 29 (.bin .eql true (.t 26) (.t 28)) 24 true,oPa 30 24 29,oM 31 30,oFg 32 4 2 31 true,oP 33 32 31 true,oFg 34 4 3 31 true,oP 35 34 31 true,oG 36 (.bin .eql true (.t 33) (.t 35)) 31 true,oPa 37 31 36,oM 38 37,oFg 39 5 2 38 true,oLg 40 8 39 38 true,oFg 41 5 3 38 true,oLg 42 8 41 38 true,oCg 43 147 40 42 38 true,oPa 44 38 43,oM 4 44] .ret)),[(.tmp 4)],2,[]⟩
theorem KR:zA Tryz.prog 146 uC:=okF Tryz.func146
def DC:DA:=⟨(oR [oQ 2 8 0,oQ 3 8 1,oZ 4 false] (oR [oF 5 0 2,oL 6 5,oF 7 0 3,oL 8 7,oB 9 .eql 6 8,oM 10 9,oFg 11 1 2 10 true,oP 12 11 10 true,oFg 13 1 3 10 true,oP 14 13 10 true,oG 15 (.bin .eql true (.t 12) (.t 14)) 10 true,oPa 16 10 15,oM 17 16,oFg 18 2 2 17 true,oP 19 18 17 true,oFg 20 2 3 17 true,oP 21 20 17 true,oBg 22 .eql 19 21 17 true,oPa 23 17 22,oM 24 23,oFg 25 3 2 24 true,oP 26 25 24 true,oFg 27 3 3 24 true,oP 28 27 24 true,oBg 29 .eql 26 28 24 true,oPa 30 24 29,oM 31 30,oFg 32 4 2 31 true,oP 33 32 31 true,oFg 34 4 3 31 true,oP 35 34 31 true,oBg 36 .eql 33 35 31 true,oPa 37 31 36,oM 38 37,oFg 39 7 2 38 true,oP 40 39 38 true,oFg 41 7 3 38 true,oP 42 41 38 true,oCg 43 154 40 42 38 true,oPa 44 38 43,oM 45 44,oFg 46 5 2 45 true,oP 47 46 45 true,oFg 48 5 3 45 true,oP 49 48 45 true,oG 50 (.call .any 155 [(.t 47),(.t 49),(.c (.fn 147 []))]) 45 true,oPa 51 45 50,oM 52 51,oFg 53 6 2 52 true,oP 54 53 52 true,oFg 55 6 3 52 true,oP 56 55 52 true,oG 57 (.call .any 155 [(.t 54),(.t 56),(.c (.fn 147 []))]) 52 true,oPa 58 52 57,oM 4 58] .ret)),[(.tmp 4)],2,[]⟩
theorem fZ:zA Tryz.prog 147 DC:=okF Tryz.func147
def wI:DA:=⟨(oR [oZ 2 false] (oR [oM 3 0,oS 4 (.bin .geq false (.t 3) (.c (.int .u8 97))),oM 5 4,oMg 6 0 5 true,oG 7 (.bin .leq false (.t 6) (.c (.int .u8 122))) 5 true,oPa 8 5 7,oM 9 8,oMg 10 0 9 false,oG 11 (.bin .geq false (.t 10) (.c (.int .u8 65))) 9 false,oMg 12 11 9 false,oMg 13 0 12 true,oG 14 (.bin .leq false (.t 13) (.c (.int .u8 90))) 12 true,oPb 15 12 14 9 false,oPo 16 9 15,oM 17 16,oMg 18 0 17 false,oG 19 (.bin .eql false (.t 18) (.c (.int .u8 95))) 17 false,oPo 20 17 19,oM 2 20] .ret)),[(.tmp 2)],1,[]⟩
theorem DW:zA Tryz.prog 150 wI:=okF Tryz.func150
def sJ:DA:=⟨(oR [oZ 2 false] (oR [oM 3 0,oS 4 (.bin .geq false (.t 3) (.c (.int .u8 48))),oM 5 4,oMg 6 0 5 true,oG 7 (.bin .leq false (.t 6) (.c (.int .u8 57))) 5 true,oPa 8 5 7,oM 2 8] .ret)),[(.tmp 2)],1,[]⟩
theorem JY:zA Tryz.prog 151 sJ:=okF Tryz.func151
def xN:DA:=⟨(oR [oZ 4 false] (oR [oM 5 1,oM 6 0,oB 7 .gtr 5 6,oM 8 7,oMg 9 1 8 true,oCi 10 .geq 9 1 8 true,oPa 11 8 10,oM 12 11,oMg 13 1 12 true,oCi 14 .leq 13 1000 12 true,oPa 15 12 14,oM 4 15] .ret)),[(.tmp 4)],2,[]⟩
theorem K6:zA Tryz.prog 152 xN:=okF Tryz.func152
def UD:C:=.seq (oR [oM 11 5,oM 12 0,oH 13 12,oB 14 .lss 11 13] (oD 14 .skip (.exit 0))) (.seq (.block 1 (oR [oM 17 0,oM 18 5,oI 19 8 17 18,oA 20 8 19,oM 21 1,oM 22 5,oI 23 8 21 22,oA 24 8 23,oC2 25 119 20 24,oU 26 25] (oD 26 (oR [oZ 4 false] .ret) .skip))) (.reg [oM 15 5,oC 16 .add 15 1,oM 5 16]))
def cE:DA:=⟨(oR [oZ 4 false] (.seq (oR [oM 6 0,oH 7 6,oM 8 1,oH 9 8,oB 10 .neq 7 9] (oD 10 (oR [oZ 4 false] .ret) .skip)) (.seq (oR [oJ 5 0] (.block 0 (.loop UD))) (oR [oZ 4 true] .ret)))),[(.tmp 4)],2,[]⟩
theorem UQ:zA Tryz.prog 153 cE:=okF Tryz.func153
def KB:C:=oR [oB 14 .lss 13 12] (.seq (oD 14 .skip (.exit 0)) (.seq (.block 1 (oR [oM 15 13,oM 5 15] (oR [oM 16 0,oM 17 5,oI 18 2 16 17,oA 19 2 18,oM 20 1,oM 21 5,oI 22 2 20 21,oA 23 2 22,oS 24 (.eqa true [0,1] (.t 19) (.t 23))] (oD 24 (oR [oZ 4 false] .ret) .skip)))) (.reg [oC 25 .add 13 1,oM 13 25])))
def fD:DA:=⟨(oR [oZ 4 false] (.seq (oR [oM 6 0,oH 7 6,oM 8 1,oH 9 8,oB 10 .neq 7 9] (oD 10 (oR [oZ 4 false] .ret) .skip)) (.seq (oR [oM 11 0,oH 12 11,oJ 13 0] (.block 0 (.loop KB))) (oR [oZ 4 true] .ret)))),[(.tmp 4)],2,[]⟩
theorem rN:zA Tryz.prog 154 fD:=okF Tryz.func154
def mB:C:=oR [oB 18 .lss 17 16] (.seq (oD 18 .skip (.exit 0)) (.seq (.block 1 (oR [oM 19 17,oI 20 8 15 17,oA 21 8 20,oY 8 zze,oM 7 19,oV 8 8 21] (oR [oM 22 1,oM 23 7,oI 24 8 22 23,oA 25 8 24,oY 9 zze,oV 8 9 25] (oR [oM 26 2,oA 27 8 8,oA 28 8 9,oS 29 (.callv .any (.t 26) [(.t 27),(.t 28)]),oU 30 29] (oD 30 (oR [oZ 6 false] .ret) .skip))))) (.reg [oC 31 .add 17 1,oM 17 31])))
def NB:DA:=⟨(oR [oZ 6 false] (.seq (oR [oM 10 0,oH 11 10,oM 12 1,oH 13 12,oB 14 .neq 11 13] (oD 14 (oR [oZ 6 false] .ret) .skip)) (.seq (oR [oM 15 0,oH 16 15,oJ 17 0] (.block 0 (.loop mB))) (oR [oZ 6 true] .ret)))),[(.tmp 6)],3,[]⟩
theorem AJ:zA Tryz.prog 155 NB:=okF Tryz.func155
noncomputable def AM:DA:=cF [] Tryz.f156
theorem ST:zA Tryz.prog 156 AM:=okF Tryz.func156
noncomputable def iO:DA:=cF [] Tryz.f157
theorem SU:zA Tryz.prog 157 iO:=okF Tryz.func157
noncomputable def PM:DA:=cF [] Tryz.f158
theorem AT:zA Tryz.prog 158 PM:=okF Tryz.func158
noncomputable def OI:DA:=cF [2000049,2000068,2000092] Tryz.f159
theorem SN:zA Tryz.prog 159 OI:=okF Tryz.func159
noncomputable def RO:DA:=cF [] Tryz.f160
theorem fV:zA Tryz.prog 160 RO:=okF Tryz.func160
noncomputable def GK:DA:=cF [] Tryz.f161
theorem DQ:zA Tryz.prog 161 GK:=okF Tryz.func161
noncomputable def JK:DA:=cF [] Tryz.f162
theorem FQ:zA Tryz.prog 162 JK:=okF Tryz.func162
noncomputable def IM:DA:=cF [] Tryz.f163
theorem UT:zA Tryz.prog 163 IM:=okF Tryz.func163
noncomputable def uR:DA:=cF [] Tryz.f164
theorem tZ:zA Tryz.prog 164 uR:=okF Tryz.func164
noncomputable def bS:DA:=cF [] Tryz.f165
theorem I0:zA Tryz.prog 165 bS:=okF Tryz.func165
noncomputable def PX:DA:=cF [] Tryz.f166
theorem X6:zA Tryz.prog 166 PX:=okF Tryz.func166
noncomputable def mS:DA:=cF [] Tryz.f167
theorem P0:zA Tryz.prog 167 mS:=okF Tryz.func167
noncomputable def CV:DA:=cF [] Tryz.f168
theorem L4:zA Tryz.prog 168 CV:=okF Tryz.func168
noncomputable def lP:DA:=cF [] Tryz.f169
theorem CW:zA Tryz.prog 169 lP:=okF Tryz.func169
noncomputable def JL:DA:=cF [] Tryz.f171
theorem DR:zA Tryz.prog 171 JL:=okF Tryz.func171
noncomputable def sP:DA:=cF [] Tryz.f177
theorem HW:zA Tryz.prog 177 sP:=okF Tryz.func177
noncomputable def fR:DA:=cF [] Tryz.f180
theorem kZ:zA Tryz.prog 180 fR:=okF Tryz.func180
noncomputable def pH:DA:=cF [] Tryz.f181
theorem RL:zA Tryz.prog 181 pH:=okF Tryz.func181
noncomputable def aH:DA:=cF [] Tryz.f182
theorem UL:zA Tryz.prog 182 aH:=okF Tryz.func182
noncomputable def QO:DA:=cF [] Tryz.f183
theorem aV:zA Tryz.prog 183 QO:=okF Tryz.func183
noncomputable def WO:DA:=cF [] Tryz.f184
theorem sV:zA Tryz.prog 184 WO:=okF Tryz.func184
noncomputable def LL:DA:=cF [71] Tryz.f185
theorem FR:zA Tryz.prog 185 LL:=okF Tryz.func185
noncomputable def NQ:DA:=cF [] Tryz.f186
theorem NY:zA Tryz.prog 186 NQ:=okF Tryz.func186
noncomputable def pR:DA:=cF [] Tryz.f187
theorem iZ:zA Tryz.prog 187 pR:=okF Tryz.func187
noncomputable def TS:DA:=cF [] Tryz.f190
theorem C0:zA Tryz.prog 190 TS:=okF Tryz.func190
noncomputable def PI:DA:=cF [] Tryz.f191
theorem DN:zA Tryz.prog 191 PI:=okF Tryz.func191
noncomputable def DK:DA:=cF [] Tryz.f192
theorem AQ:zA Tryz.prog 192 DK:=okF Tryz.func192
noncomputable def FK:DA:=cF [] Tryz.f193
theorem SQ:zA Tryz.prog 193 FK:=okF Tryz.func193
noncomputable def fO:DA:=cF [] Tryz.f194
theorem KU:zA Tryz.prog 194 fO:=okF Tryz.func194
noncomputable def qK:DA:=cF [3000000,77,205,227,245,271,301] Tryz.f195
theorem DP:zA Tryz.prog 195 qK:=okF Tryz.func195
noncomputable def XV:DA:=cF [] Tryz.f196
theorem K4:zA Tryz.prog 196 XV:=okF Tryz.func196
noncomputable def xO:DA:=cF [] Tryz.f197
theorem wV:zA Tryz.prog 197 xO:=okF Tryz.func197
noncomputable def BQ:DA:=cF [] Tryz.f198
theorem BY:zA Tryz.prog 198 BQ:=okF Tryz.func198
noncomputable def cP:DA:=cF [] Tryz.f199
theorem eX:zA Tryz.prog 199 cP:=okF Tryz.func199
noncomputable def US:DA:=cF [] Tryz.f200
theorem i1:zA Tryz.prog 200 US:=okF Tryz.func200
noncomputable def RS:DA:=cF [] Tryz.f201
theorem X0:zA Tryz.prog 201 RS:=okF Tryz.func201
noncomputable def TO:DA:=cF [] Tryz.f202
theorem gV:zA Tryz.prog 202 TO:=okF Tryz.func202
noncomputable def UM:DA:=cF [] Tryz.f203
theorem ET:zA Tryz.prog 203 UM:=okF Tryz.func203
noncomputable def NJ:DA:=cF [3000000] Tryz.f204
theorem AP:zA Tryz.prog 204 NJ:=okF Tryz.func204
noncomputable def UI:DA:=cF [] Tryz.f205
theorem PN:zA Tryz.prog 205 UI:=okF Tryz.func205
noncomputable def WJ:DA:=cF [] Tryz.f206
theorem XO:zA Tryz.prog 206 WJ:=okF Tryz.func206
noncomputable def QJ:DA:=cF [3000000,57] Tryz.f207
theorem ZO:zA Tryz.prog 207 QJ:=okF Tryz.func207
noncomputable def lS:DA:=cF [] Tryz.f208
theorem Q0:zA Tryz.prog 208 lS:=okF Tryz.func208
noncomputable def IX:DA:=cF [] Tryz.f209
theorem L6:zA Tryz.prog 209 IX:=okF Tryz.func209
noncomputable def kS:DA:=cF [] Tryz.f210
theorem m0:zA Tryz.prog 210 kS:=okF Tryz.func210
noncomputable def ZV:DA:=cF [] Tryz.f211
theorem J4:zA Tryz.prog 211 ZV:=okF Tryz.func211
noncomputable def lO:DA:=cF [] Tryz.f212
theorem MU:zA Tryz.prog 212 lO:=okF Tryz.func212
noncomputable def iR:DA:=cF [] Tryz.f213
theorem uZ:zA Tryz.prog 213 iR:=okF Tryz.func213
noncomputable def xS:DA:=cF [] Tryz.f214
theorem T0:zA Tryz.prog 214 xS:=okF Tryz.func214
noncomputable def ES:DA:=cF [] Tryz.f215
theorem Z0:zA Tryz.prog 215 ES:=okF Tryz.func215
noncomputable def KE:DA:=cF [] Tryz.f216
theorem jI:zA Tryz.prog 216 KE:=okF Tryz.func216
noncomputable def UO:DA:=cF [] Tryz.f217
theorem jV:zA Tryz.prog 217 UO:=okF Tryz.func217
noncomputable def mJ:DA:=cF [] Tryz.f218
theorem LO:zA Tryz.prog 218 mJ:=okF Tryz.func218
noncomputable def OO:DA:=cF [] Tryz.f219
theorem kV:zA Tryz.prog 219 OO:=okF Tryz.func219
noncomputable def fS:DA:=cF [] Tryz.f220
theorem o0:zA Tryz.prog 220 fS:=okF Tryz.func220
noncomputable def FL:DA:=cF [] Tryz.f221
theorem AR:zA Tryz.prog 221 FL:=okF Tryz.func221
noncomputable def nJ:DA:=cF [] Tryz.f222
theorem KO:zA Tryz.prog 222 nJ:=okF Tryz.func222
noncomputable def ZK:DA:=cF [] Tryz.f223
theorem HQ:zA Tryz.prog 223 ZK:=okF Tryz.func223
noncomputable def TI:DA:=cF [] Tryz.f224
theorem ON:zA Tryz.prog 224 TI:=okF Tryz.func224
noncomputable def TM:DA:=cF [] Tryz.f225
theorem WT:zA Tryz.prog 225 TM:=okF Tryz.func225
noncomputable def MJ:DA:=cF [] Tryz.f226
theorem SP:zA Tryz.prog 226 MJ:=okF Tryz.func226
noncomputable def BJ:DA:=cF [] Tryz.f227
theorem PP:zA Tryz.prog 227 BJ:=okF Tryz.func227
noncomputable def ZL:DA:=cF [] Tryz.f228
theorem GR:zA Tryz.prog 228 ZL:=okF Tryz.func228
noncomputable def MQ:DA:=cF [] Tryz.f229
theorem MY:zA Tryz.prog 229 MQ:=okF Tryz.func229
noncomputable def aP:DA:=cF [] Tryz.f230
theorem AW:zA Tryz.prog 230 aP:=okF Tryz.func230
noncomputable def wR:DA:=cF [] Tryz.f231
theorem wZ:zA Tryz.prog 231 wR:=okF Tryz.func231
noncomputable def cO:DA:=cF [] Tryz.f232
theorem eV:zA Tryz.prog 232 cO:=okF Tryz.func232
noncomputable def aR:DA:=cF [] Tryz.f233
theorem pZ:zA Tryz.prog 233 aR:=okF Tryz.func233
noncomputable def jP:DA:=cF [] Tryz.f234
theorem ZW:zA Tryz.prog 234 jP:=okF Tryz.func234
noncomputable def OX:DA:=cF [] Tryz.f235
theorem Z6:zA Tryz.prog 235 OX:=okF Tryz.func235
noncomputable def cS:DA:=cF [] Tryz.f236
theorem U0:zA Tryz.prog 236 cS:=okF Tryz.func236
noncomputable def DF:DA:=cF [] Tryz.f237
theorem SJ:zA Tryz.prog 237 DF:=okF Tryz.func237
noncomputable def IK:DA:=cF [] Tryz.f238
theorem WQ:zA Tryz.prog 238 IK:=okF Tryz.func238
noncomputable def wO:DA:=cF [] Tryz.f239
theorem RU:zA Tryz.prog 239 wO:=okF Tryz.func239
noncomputable def UK:DA:=cF [] Tryz.f240
theorem QQ:zA Tryz.prog 240 UK:=okF Tryz.func240
noncomputable def tP:DA:=cF [] Tryz.f241
theorem UW:zA Tryz.prog 241 tP:=okF Tryz.func241
noncomputable def OS:DA:=cF [] Tryz.f242
theorem E1:zA Tryz.prog 242 OS:=okF Tryz.func242
noncomputable def gO:DA:=cF [] Tryz.f243
theorem LU:zA Tryz.prog 243 gO:=okF Tryz.func243
noncomputable def eO:DA:=cF [49] Tryz.f244
theorem TU:zA Tryz.prog 244 eO:=okF Tryz.func244
noncomputable def zO:DA:=cF [] Tryz.f245
theorem qV:zA Tryz.prog 245 zO:=okF Tryz.func245
noncomputable def XL:DA:=cF [] Tryz.f246
theorem JR:zA Tryz.prog 246 XL:=okF Tryz.func246
noncomputable def uP:DA:=cF [] Tryz.f247
theorem IW:zA Tryz.prog 247 uP:=okF Tryz.func247
noncomputable def mM:DA:=cF [] Tryz.f248
theorem lT:zA Tryz.prog 248 mM:=okF Tryz.func248
noncomputable def AH:DA:=cF [3000000,20,117,131,163,209,227] Tryz.f249
theorem dM:zA Tryz.prog 249 AH:=okF Tryz.func249
noncomputable def FV:DA:=cF [] Tryz.f250
theorem P4:zA Tryz.prog 250 FV:=okF Tryz.func250
noncomputable def GV:DA:=cF [] Tryz.f251
theorem A4:zA Tryz.prog 251 GV:=okF Tryz.func251
noncomputable def zS:DA:=cF [] Tryz.f252
theorem E0:zA Tryz.prog 252 zS:=okF Tryz.func252
noncomputable def qR:DA:=cF [] Tryz.f253
theorem qZ:zA Tryz.prog 253 qR:=okF Tryz.func253
noncomputable def iP:DA:=cF [] Tryz.f254
theorem OW:zA Tryz.prog 254 iP:=okF Tryz.func254
noncomputable def QM:DA:=cF [] Tryz.f255
theorem zT:zA Tryz.prog 255 QM:=okF Tryz.func255
noncomputable def WS:DA:=cF [] Tryz.f256
theorem K0:zA Tryz.prog 256 WS:=okF Tryz.func256
noncomputable def IS:DA:=cF [] Tryz.f257
theorem Q1:zA Tryz.prog 257 IS:=okF Tryz.func257
noncomputable def MH:DA:=cF [3000000,28,109,147,101,1000000 + 261] Tryz.f258
theorem BM:zA Tryz.prog 258 MH:=okF Tryz.func258
noncomputable def RI:DA:=cF [3000000,93] Tryz.f259
theorem IN:zA Tryz.prog 259 RI:=okF Tryz.func259
noncomputable def WM:DA:=cF [] Tryz.f260
theorem xT:zA Tryz.prog 260 WM:=okF Tryz.func260
noncomputable def sF:DA:=cF [1000000 + 263] Tryz.f261
theorem WI:zA Tryz.prog 261 sF:=okF Tryz.func261
noncomputable def NG:DA:=cF [] Tryz.f262
theorem uL:zA Tryz.prog 262 NG:=okF Tryz.func262
noncomputable def rE:DA:=cF [1000000 + 265] Tryz.f263
theorem BG:zA Tryz.prog 263 rE:=okF Tryz.func263
noncomputable def dO:DA:=cF [] Tryz.f264
theorem JU:zA Tryz.prog 264 dO:=okF Tryz.func264
noncomputable def gD:DA:=cF [] Tryz.f265
theorem jF:zA Tryz.prog 265 gD:=okF Tryz.func265
noncomputable def GL:DA:=cF [] Tryz.f273
theorem SR:zA Tryz.prog 273 GL:=okF Tryz.func273
section
def JQ {α:Type} (f:(α->pA->Option RV)->Option RV):Prop:=(∀ k,f k=none)\/∃ e s',∀ k,f k=k e s'
def Det1 (f:(pA->Option RV)->Option RV):Prop:=(∀ k,f k=none)\/∃ s',∀ k,f k=k s'
theorem JQ.bind {α β:Type} {f:(α->pA->Option RV)->Option RV} (h:JQ f) {g:(β->pA->Option RV)->α->pA->Option RV} (hg:∀ e s,JQ fun k=>g k e s):JQ fun k=>f (g k):=by
 rcases h with h | ⟨e,s,h⟩
 ·exact .inl fun k=>h _
 ·rcases hg e s with h2 | ⟨e',s',h2⟩
  ·exact .inl fun k=>(h _).trans (h2 k)
  ·exact .inr ⟨e',s',fun k=>(h _).trans (h2 k)⟩
theorem JQ.here {α:Type} (e:α) (s:pA):JQ fun (k:α->pA->Option RV)=>k e s:=.inr ⟨e,s,fun _=>rfl⟩
theorem JQ.no {α:Type}:JQ fun (_:α->pA->Option RV)=>none:=.inl fun _=>rfl
def C.det:C->Bool
 | .seq a b=>a.det&&b.det
 | .reg ops=>ops.all fun o=>match o.op with | .nxt _=>false | _=>true
 | .cond _ a b=>a.det&&b.det
 | .block _ b=>b.det
 | .loop b=>b.det
 | _=>true
section
variable {call:uB} {lh:LH}
theorem M7 (s:pA) (d:Option Nat) (g:Option (Nat × Bool)) {a:(pA->Option RV)->Option RV} (ha:Det1 a):Det1 fun k=>CI s d g (a k) k:=by
 unfold CI;cases g with
 | none=>exact ha
 | some p =>
  obtain ⟨t,want⟩:=p;simp only;split
  ·split
   ·exact ha
   ·exact .inr ⟨_,fun _=>rfl⟩
  ·exact .inr ⟨_,fun _=>rfl⟩
  ·exact .inl fun _=>rfl
theorem det_hstep (hh:∀ f xs s,JQ (lh.h f xs s)) (d:Option Nat) (nt:Nat) (x:bB) (xs:List bB) (s:pA):Det1 (FD lh d nt x xs s):=by
 unfold FD;split
 ·rcases hh _ (TK s xs++_) (s.enter nt) with h | ⟨y,s',h⟩
  ·exact .inl fun k=>h _
  ·exact .inr ⟨_,fun k=>h _⟩
 ·exact .inl fun _=>rfl
theorem det_stepK (hh:∀ f xs s,JQ (lh.h f xs s)) (o:WA) (ho:(match o.op with | .nxt _=>false | _=>true)=true) (s:pA):Det1 (o.stepK call lh s):=by
 have hp:∀ (a:Option pA),Det1 fun k=>a.bind k:=fun a=>by
  cases a with
  | none=>exact .inl fun _=>rfl
  | some s'=>exact .inr ⟨s',fun _=>rfl⟩
 unfold WA.stepK;split
 ·exact M7 s _ _ (det_hstep hh _ _ _ _ s)
 ·rename_i h;rw [h] at ho;cases ho
 ·exact hp _
theorem det_ops (hh:∀ f xs s,JQ (lh.h f xs s)):∀ (l:List WA) (hl:(l.all fun o=>match o.op with | .nxt _=>false | _=>true)=true) (s:pA),Det1 (qG call lh l s)
 | [],_,s=>.inr ⟨s,fun _=>rfl⟩
 | o :: r,hl,s=>by
  rw [List.all_cons,ye] at hl;rcases det_stepK (call:=call) hh o hl.1 s with h | ⟨s',h⟩
  ·exact .inl fun k=>h _
  ·rcases det_ops hh r hl.2 s' with h2 | ⟨s2,h2⟩
   ·exact .inl fun k=>(h _).trans (h2 k)
   ·exact .inr ⟨s2,fun k=>(h _).trans (h2 k)⟩
theorem nN (hl:∀ b,b.det=true->∀ s,JQ (lh b s)) (hh:∀ f xs s,JQ (lh.h f xs s)):∀ (c:C) (hc:c.det=true) (s:pA),JQ (c.run call lh s)
 | .skip,_,s=>.inr ⟨.nrm,s,fun _=>rfl⟩
 | .exit id,_,s=>.inr ⟨.exit id,s,fun _=>rfl⟩
 | .ret,_,s=>.inr ⟨.ret,s,fun _=>rfl⟩
 | .seq a b,hc,s=>by
  simp only [C.det,ye] at hc;refine (nN hl hh a hc.1 s).bind (g:=fun k e s=>match e with | .nrm=>b.run call lh s k | e=>k e s) fun e s=>?_
  cases e with
  | nrm=>exact nN hl hh b hc.2 s
  | exit id=>exact JQ.here _ _
  | ret=>exact JQ.here _ _
 | .reg ops,hc,s=>by
  rcases det_ops (call:=call) hh ops hc s with h | ⟨s',h⟩
  ·exact .inl fun k=>h _
  ·exact .inr ⟨_,_,fun k=>h _⟩
 | .cond c t e,hc,s=>by
  simp only [C.det,ye] at hc;simp only [C.run];split
  ·split
   ·exact nN hl hh t hc.1 s
   ·exact nN hl hh e hc.2 s
  ·exact JQ.no
 | .block id b,hc,s=>(nN hl hh b hc s).bind (g:=fun k e s=>match e with | .exit j=>if j=id then k .nrm s else k (.exit j) s | e=>k e s) fun e s=>by
  cases e with
  | nrm=>exact JQ.here _ _
  | ret=>exact JQ.here _ _
  | exit j =>
   simp only;split
   ·exact JQ.here _ _
   ·exact JQ.here _ _
 | .loop b,hc,s=>hl b hc s
end
section
variable {T:Nat->Option DA} {ext:uB}
theorem det_N (hD:∀ f c,T f=some c->c.code.det=true):∀ n,(∀ b,b.det=true->∀ s,JQ (QI T ext n b s))/\∀ f xs s,JQ (HJ T ext n f xs s)
 | 0=>⟨fun _ _ _=>.inl fun _=>rfl,fun _ _ _=>.inl fun _=>rfl⟩
 | n + 1=>by
  obtain ⟨h1,h2⟩:=det_N hD n;have hr:=nN (call:=QD T ext n) (lh:=⟨QI T ext n,HJ T ext n⟩) h1 h2;refine ⟨fun b hb s=>?_,fun f xs s=>?_⟩
  ·have:QI T ext (n + 1) b s=fun k=>b.run (QD T ext n) ⟨QI T ext n,HJ T ext n⟩ s (RK (QI T ext n) b k):=by funext k; rw [QI]
   rw [this];refine (hr b hb s).bind (g:=fun k=>RK (QI T ext n) b k) fun e s=>?_
   cases e with
   | nrm=>exact h1 b hb s
   | exit id=>exact JQ.here _ _
   | ret=>exact JQ.here _ _
  ·have:HJ T ext (n + 1) f xs s=fun k=>match T f with | none=>none | some c=>if xs.length=c.np then c.code.run (QD T ext n) ⟨QI T ext n,HJ T ext n⟩ (s.initH xs) (CH c k) else none:=by funext k; rw [HJ]; rfl
   rw [this];cases hT:T f with
   | none=>exact JQ.no
   | some c =>
    simp only;split
    ·refine (hr c.code (hD f c hT) _).bind (g:=fun k=>CH c k) fun e s=>?_
     cases e with
     | exit id=>exact JQ.no
     | nrm =>
      simp only [CH];cases (JE s c.res).bind sH with
      | none=>exact JQ.no
      | some x=>exact JQ.here _ _
     | ret =>
      simp only [CH];cases (JE s c.res).bind sH with
      | none=>exact JQ.no
      | some x=>exact JQ.here _ _
    ·exact JQ.no
theorem j3 (hD:∀ f c,T f=some c->c.code.det=true) {c:C} (hc:c.det=true) {s:pA} {F:Ex->pA->Prop} (h:∀ (k:Ex->pA->Option RV) (r:RV),(∀ e s',F e s'->k e s'=some r)->c.run (rD T ext) (IF T ext) s k=some r):∃ e s',F e s'/\∀ (k:Ex->pA->Option RV) (r:RV),k e s'=some r->c.run (rD T ext) (IF T ext) s k=some r:=by
 classical
 obtain ⟨m,hm⟩:=(FS c s (fun e s'=>if F e s' then some (default:RV) else none) default (fun _ e s'=>if F e s' then some (default:RV) else none) (fun e s' r' h'=>xB.now h') (h _ _ fun e s' hF=>if_pos hF)).some;obtain ⟨d1,d2⟩:=det_N (T:=T) (ext:=ext) hD m;rcases nN (call:=QD T ext m) (lh:=⟨QI T ext m,HJ T ext m⟩) d1 d2 c hc s with hd | ⟨e,s',hd⟩
 ·rw [hd] at hm;cases hm
 ·rw [hd] at hm;have hF:F e s':=by
   by_cases hF:F e s'
   ·exact hF
   ·rw [if_neg hF] at hm;cases hm
  refine ⟨e,s',hF,fun k r hk=>?_⟩;have hN:c.run (QD T ext m) ⟨QI T ext m,HJ T ext m⟩ s k=some r:=(hd k).trans hk;exact Exists.elim (uD (lpA:=⟨QI T ext m,HJ T ext m⟩) (callB:=fun _=>rD T ext) (lpB:=fun _=>IF T ext) (fun f args S r' h'=>xB.now (pI.2 ⟨m,h'⟩)) (fun f xs s1 k1 r1 km ge h1=>((QK m).2.2 f xs s1 k1 r1 km ge h1).imp fun m' ae=>CX.2 ⟨m',ae⟩) (fun b s1 k1 r1 km ge h1=>((QK m).2.1 b s1 k1 r1 km ge h1).imp fun m' ae=>BX.2 ⟨m',ae⟩) c s k r (fun _=>k) (fun e s' r' h'=>xB.now h') hN).some fun _ h'=>h'
end
end
noncomputable def allL:List (Nat × DA):=[(3,rC),(4,UH),(5,kG),(6,tE),(7,jG),(8,qH),(9,EF),(10,HB),(11,ZQ),(12,EJ),(13,RJ),(14,sD),(15,qC),(16,tH),(17,rH),(18,TF),(19,fK),(20,XQ),(21,tO),(22,xP),(23,qI),(24,LI),(25,rO),(26,zP),(27,sR),(28,sO),(29,IE),(30,pF),(31,pO),(32,DV),(33,sK),(34,zG),(35,OE),(36,gG),(37,PB),(38,uH),(39,QS),(40,CA),(41,iC),(42,GG),(43,PE),(44,SF),(45,UF),(46,uO),(47,II),(48,rR),(49,SK),(51,PK),(55,UX),(56,jO),(57,nA),(58,fJ),(59,pB),(60,MA),(61,NA),(62,qB),(63,lB),(64,XA),(65,fH),(66,lE),(67,fE),(70,gH),(71,gE),(74,TA),(75,dJ),(76,dK),(77,kH),(78,SE),(79,tB),(80,ZB),(81,GD),(82,eI),(83,rI),(84,EM),(85,OM),(86,gP),(87,dR),(88,nS),(95,jS),(96,LV),(97,gS),(98,HV),(99,CQ),(100,JV),(101,zE),(102,LG),(103,KG),(104,AB),(105,OC),(106,QF),(109,PC),(110,WF),(113,iH),(114,xE),(115,bH),(116,lH),(117,nO),(118,mO),(119,FB),(120,FC),(121,oO),(122,RM),(123,EO),(124,LK),(125,CL),(126,SH),(127,eR),(128,fP),(129,BV),(130,bO),(131,kP),(138,dP),(139,kO),(140,HG),(141,jH),(142,gK),(143,tI),(144,RC),(145,JB),(146,uC),(147,DC),(150,wI),(151,sJ),(152,xN),(153,cE),(154,fD),(155,NB),(156,AM),(157,iO),(158,PM),(159,OI),(160,RO),(161,GK),(162,JK),(163,IM),(164,uR),(165,bS),(166,PX),(167,mS),(168,CV),(169,lP),(171,JL),(177,sP),(180,fR),(181,pH),(182,aH),(183,QO),(184,WO),(185,LL),(186,NQ),(187,pR),(190,TS),(191,PI),(192,DK),(193,FK),(194,fO),(195,qK),(196,XV),(197,xO),(198,BQ),(199,cP),(200,US),(201,RS),(202,TO),(203,UM),(204,NJ),(205,UI),(206,WJ),(207,QJ),(208,lS),(209,IX),(210,kS),(211,ZV),(212,lO),(213,iR),(214,xS),(215,ES),(216,KE),(217,UO),(218,mJ),(219,OO),(220,fS),(221,FL),(222,nJ),(223,ZK),(224,TI),(225,TM),(226,MJ),(227,BJ),(228,ZL),(229,MQ),(230,aP),(231,wR),(232,cO),(233,aR),(234,jP),(235,OX),(236,cS),(237,DF),(238,IK),(239,wO),(240,UK),(241,tP),(242,OS),(243,gO),(244,eO),(245,zO),(246,XL),(247,uP),(248,mM),(249,AH),(250,FV),(251,GV),(252,zS),(253,qR),(254,iP),(255,QM),(256,WS),(257,IS),(258,MH),(259,RI),(260,WM),(261,sF),(262,NG),(263,rE),(264,dO),(265,gD),(273,GL)]
noncomputable def lA (f:Nat):Option DA:=allL.lookup f
def okL:List (Nat × DA)->Prop
 | []=>True
 | x::r=>zA Tryz.prog x.1 x.2/\okL r
theorem okL_of:∀ {l:List (Nat × DA)},okL l->∀ {f:Nat} {c:DA},l.lookup f=some c->zA Tryz.prog f c
 | [],_,_,_,h=>by cases h
 | (g,d)::r,hl,f,c,h=>by
  rw [List.lookup_cons] at h;cases e:f==g with
  | true=>rw [e] at h;cases h;cases of_decide_eq_true e;exact hl.1
  | false=>rw [e] at h;exact okL_of hl.2 h
theorem L3 (f:Nat) (c:DA) (h:lA f=some c):zA Tryz.prog f c:=okL_of (l:=allL) ⟨EG,tK,DI,dF,SI,PJ,KH,MF,GY,S4,X4,PO,FP,KY,OP,D0,G0,HY,IU,NW,iL,qM,UU,BW,aZ,GU,NM,DO,FU,O4,k0,MW,qN,AO,MM,ZY,H0,TT,ZJ,cT,wN,uV,PQ,AU,AN,rZ,OQ,EQ,J6,ZU,dZ,gZ,fM,aL,pL,TL,eN,bT,OU,SO,eK,PU,rK,H4,LY,n0,XU,tV,FO,IQ,FY,FW,GW,nT,PT,LW,sZ,O0,j0,G4,p0,D4,XY,F4,PW,OT,IT,wX,wJ,RQ,eJ,TQ,CY,SW,NU,BU,iV,pV,HR,jZ,DU,mT,dV,GQ,LR,gM,eZ,KW,Z4,rV,XW,JW,CU,QT,HU,J0,qX,sL,qJ,KR,fZ,DW,JY,K6,UQ,rN,AJ,ST,SU,AT,SN,fV,DQ,FQ,UT,tZ,I0,X6,P0,L4,CW,DR,HW,kZ,RL,UL,aV,sV,FR,NY,iZ,C0,DN,AQ,SQ,KU,DP,K4,wV,BY,eX,i1,X0,gV,ET,AP,PN,XO,ZO,Q0,L6,m0,J4,MU,uZ,T0,Z0,jI,jV,LO,kV,o0,AR,KO,HQ,ON,WT,SP,PP,GR,MY,AW,wZ,eV,pZ,ZW,Z6,U0,SJ,WQ,RU,QQ,UW,E1,LU,TU,qV,JR,IW,lT,dM,P4,A4,E0,qZ,OW,zT,K0,Q1,BM,IN,xT,WI,uL,BG,JU,jF,SR,trivial⟩ h
section
mutual
def AV.beq:AV->AV->Bool
 | .int k n,.int k' n'=>decide (k=k')&&decide (n=n')
 | .bool a,.bool b=>a == b
 | .str a,.str b=>decide (a=b)
 | .nilP,.nilP=>true
 | .ptr t n o,.ptr t' n' o'=>Nat.beq t t'&&Nat.beq n n'&&Nat.beq o o'
 | .ip l,.ip m=>AV.beqL l m
 | .bp l,.bp m=>AV.beqL l m
 | .sl b l,.sl b' m=>(b == b')&&AV.beqLL l m
 | .bl l,.bl m=>AV.beqLL l m
 | .fn f l,.fn g m=>Nat.beq f g&&AV.beqL l m
 | .agg l,.agg m=>AV.beqL l m
 | .tup l,.tup m=>AV.beqL l m
 | .undef,.undef=>true
 | _,_=>false
def AV.beqL:List AV->List AV->Bool
 | [],[]=>true
 | x :: l,y :: m=>AV.beq x y&&AV.beqL l m
 | _,_=>false
def AV.beqLL:List (List AV)->List (List AV)->Bool
 | [],[]=>true
 | x :: l,y :: m=>AV.beqL x y&&AV.beqLL l m
 | _,_=>false
end
mutual
theorem AV.beq_eq:∀ (x y:AV),AV.beq x y=true->x=y
 | .int k n,y,h=>by cases y <;> simp [AV.beq] at h <;> simp [h]
 | .bool a,y,h=>by cases y <;> simp [AV.beq] at h <;> simp [h]
 | .str a,y,h=>by cases y <;> simp [AV.beq] at h <;> simp [h]
 | .nilP,y,h=>by cases y <;> simp [AV.beq] at h <;> rfl
 | .ptr t n o,y,h=>by cases y <;> simp [AV.beq] at h <;> simp [h]
 | .ip l,y,h=>by cases y <;> simp only [AV.beq] at h <;> first | cases h | rw [AV.beqL_eq l _ h]
 | .bp l,y,h=>by cases y <;> simp only [AV.beq] at h <;> first | cases h | rw [AV.beqL_eq l _ h]
 | .sl b l,y,h=>by
  cases y <;> simp only [AV.beq] at h <;> first | cases h | skip
  rw [ye] at h
  rw [AV.beqLL_eq l _ h.2,show b=_ from by simpa using h.1]
 | .bl l,y,h=>by cases y <;> simp only [AV.beq] at h <;> first | cases h | rw [AV.beqLL_eq l _ h]
 | .ref ..,y,h=>by cases y <;> simp [AV.beq] at h
 | .mp ..,y,h=>by cases y <;> simp [AV.beq] at h
 | .fn f l,y,h=>by
  cases y <;> simp only [AV.beq] at h <;> first | cases h | skip
  rw [ye] at h
  rw [AV.beqL_eq l _ h.2,show f=_ from by simpa using h.1]
 | .agg l,y,h=>by cases y <;> simp only [AV.beq] at h <;> first | cases h | rw [AV.beqL_eq l _ h]
 | .tup l,y,h=>by cases y <;> simp only [AV.beq] at h <;> first | cases h | rw [AV.beqL_eq l _ h]
 | .undef,y,h=>by cases y <;> simp [AV.beq] at h <;> rfl
theorem AV.beqL_eq:∀ (x y:List AV),AV.beqL x y=true->x=y
 | [],[],_=>rfl
 | [],_ :: _,h=>by simp [AV.beqL] at h
 | _ :: _,[],h=>by simp [AV.beqL] at h
 | x :: l,y :: m,h=>by
  simp only [AV.beqL,ye] at h
  rw [AV.beq_eq x y h.1,AV.beqL_eq l m h.2]
theorem AV.beqLL_eq:∀ (x y:List (List AV)),AV.beqLL x y=true->x=y
 | [],[],_=>rfl
 | [],_ :: _,h=>by simp [AV.beqLL] at h
 | _ :: _,[],h=>by simp [AV.beqLL] at h
 | x :: l,y :: m,h=>by
  simp only [AV.beqLL,ye] at h
  rw [AV.beqL_eq x y h.1,AV.beqLL_eq l m h.2]
end
def AV.beqO:Option AV->Option AV->Bool
 | none,none=>true
 | some x,some y=>AV.beq x y
 | _,_=>false
theorem AV.beqO_eq:∀ (x y:Option AV),AV.beqO x y=true->x=y
 | none,none,_=>rfl
 | none,some _,h=>by cases h
 | some _,none,h=>by cases h
 | some x,some y,h=>by rw [AV.beq_eq x y h]
structure ME where
 f:Nat
 args:List AV
 S:Option AV
 r:RV
def look:List ME->uB
 | [],_,_,_=>none
 | e :: l,f,args,S=>if Nat.beq e.f f&&(AV.beqL e.args args&&AV.beqO e.S S) then some e.r else look l f args S
mutual
noncomputable def gR (M:List ME) (T:Nat->Option DA) (ext:uB):Nat->uB
 | 0,f,args,S0=>match T f with
  | none=>ext f args S0
  | some _=>none
 | n + 1,f,args,S0=>match look M f args S0 with
  | some r=>some r
  | none=>match T f with
   | none=>ext f args S0
   | some c=>match zR args,S0 with
    | some rest,some (.agg cs)=>if rest.length=c.np/\OF rest=false then c.code.run (gR M T ext n) ⟨lpM M T ext n,hpM M T ext n⟩ (pA.initR rest cs) (finR c cs.length) else none
    | some _,_=>none
    | none,_=>if args.length=c.np/\OF args=false/\noItO S0=true then c.code.run (gR M T ext n) ⟨lpM M T ext n,hpM M T ext n⟩ (pA.init args S0) (mI c S0)
     else if args.length=c.np + 1/\OF args=true/\OF args.tail=false/\S0.isNone=true then c.code.run (gR M T ext n) ⟨lpM M T ext n,hpM M T ext n⟩ (pA.init args.tail none) (UJ c) else none
noncomputable def lpM (M:List ME) (T:Nat->Option DA) (ext:uB):Nat->LpT
 | 0,_,_,_=>none
 | n + 1,b,s,k=>b.run (gR M T ext n) ⟨lpM M T ext n,hpM M T ext n⟩ s (RK (lpM M T ext n) b k)
noncomputable def hpM (M:List ME) (T:Nat->Option DA) (ext:uB):Nat->HpT
 | 0,_,_,_,_=>none
 | n + 1,f,args,s,k=>match T f with
  | none=>none
  | some c=>if args.length=c.np then c.code.run (gR M T ext n) ⟨lpM M T ext n,hpM M T ext n⟩ (s.initH args) (CH c k) else none
end
variable {T:Nat->Option DA} {ext:uB} {M:List ME}
def PA (T:Nat->Option DA) (ext:uB) (M:List ME):Prop:=∀ f args S r,look M f args S=some r->rD T ext f args S=some r
theorem M_late (hM:PA T ext M):∀ N,(∀ f args S r,gR M T ext N f args S=some r->xB fun m=>QD T ext m f args S=some r) ∧
  (∀ b s k r (km:Nat->Ex->pA->Option RV),(∀ e s' r',k e s'=some r'->xB fun m=>km m e s'=some r')->lpM M T ext N b s k=some r->xB fun m=>QI T ext m b s (km m)=some r) ∧
  QV (hpM M T ext N) (HJ T ext)
 | 0=>by
  refine ⟨fun f args S r h=>⟨0,fun m _=>?_⟩,fun b s k r km _ h=>(by cases h),fun f xs s k r km _ h=>(by cases h)⟩;unfold gR at h;cases hT:T f with
  | none=>rw [hT] at h; cases m <;> (unfold QD; rw [hT]; exact h)
  | some c=>rw [hT] at h; cases h
 | N + 1=>by
  obtain ⟨wo,xl,xo⟩:=M_late hM N;refine ⟨?_,?_,?_⟩
  ·intro f args S0 r h;unfold gR at h;cases hl:look M f args S0 with
   | some r' =>
    rw [hl] at h;injection h with h;subst h;exact r6 f args S0 _ (hM f args S0 _ hl)
   | none =>
   rw [hl] at h;simp only at h;cases hT:T f with
   | none=>rw [hT] at h; exact ⟨0,fun m _=>by cases m <;> (unfold QD; rw [hT]; exact h)⟩
   | some c =>
    rw [hT] at h;cases hm:zR args with
    | some rest =>
     cases S0 with
     | none=>rw [hm] at h; cases h
     | some S =>
      cases S with
      | agg cs =>
       rw [hm] at h;simp only at h;split at h
       ·rename_i hl;refine xB.pred ((uD (lpA:=⟨lpM M T ext N,hpM M T ext N⟩) (lpB:=fun m=>⟨QI T ext m,HJ T ext m⟩) wo xo xl c.code _ _ r (fun _=>finR c cs.length) (fun e s' r' h'=>xB.now h') h).imp fun m ae=>?_);unfold QD;rw [hT];simp only [hm];rw [if_pos hl];exact ae
       ·cases h
      | _=>rw [hm] at h; cases h
    | none =>
     rw [hm] at h;simp only at h;split at h
     ·rename_i hl;refine xB.pred ((uD (lpA:=⟨lpM M T ext N,hpM M T ext N⟩) (lpB:=fun m=>⟨QI T ext m,HJ T ext m⟩) wo xo xl c.code _ _ r (fun _=>mI c S0) (fun e s' r' h'=>xB.now h') h).imp fun m ae=>?_);unfold QD;rw [hT];simp only [hm];rw [if_pos hl];exact ae
     ·rename_i hl;split at h
      ·rename_i rm;refine xB.pred ((uD (lpA:=⟨lpM M T ext N,hpM M T ext N⟩) (lpB:=fun m=>⟨QI T ext m,HJ T ext m⟩) wo xo xl c.code _ _ r (fun _=>UJ c) (fun e s' r' h'=>xB.now h') h).imp fun m ae=>?_);unfold QD;rw [hT];simp only [hm];rw [if_neg hl,if_pos rm];exact ae
      ·cases h
  ·intro b s k r km hk h;unfold lpM at h;refine xB.pred ((uD (lpA:=⟨lpM M T ext N,hpM M T ext N⟩) (lpB:=fun m=>⟨QI T ext m,HJ T ext m⟩) wo xo xl b s _ r (fun m=>RK (QI T ext m) b (km (m + 1))) (fun e s' r' h'=>?_) h).imp fun m hm=>?_)
   ·cases e with
    | nrm=>exact xl b s' k r' (fun m=>km (m + 1)) (fun e s'' r'' h''=>(hk e s'' r'' h'').succ) h'
    | exit id=>exact (hk _ _ _ h').succ
    | ret=>exact (hk _ _ _ h').succ
   ·unfold QI;exact hm
  ·intro f xs s k r km hk h;unfold hpM at h;cases hT:T f with
   | none=>rw [hT] at h; cases h
   | some c =>
    rw [hT] at h;simp only at h;split at h
    ·rename_i hl;refine xB.pred ((uD (lpA:=⟨lpM M T ext N,hpM M T ext N⟩) (lpB:=fun m=>⟨QI T ext m,HJ T ext m⟩) wo xo xl c.code _ _ r (fun m=>CH c (km (m + 1))) (fun e s' r' h'=>?_) h).imp fun m hm=>?_)
     ·cases e with
      | exit id=>cases h'
      | nrm =>
       simp only [CH] at h' ⊢;obtain ⟨y,hy,h'⟩:=y9.1 h';simp only [hy,J];exact (hk _ _ _ h').succ
      | ret =>
       simp only [CH] at h' ⊢;obtain ⟨y,hy,h'⟩:=y9.1 h';simp only [hy,J];exact (hk _ _ _ h').succ
     ·unfold HJ;rw [hT];simp only;rw [if_pos hl];exact hm
    ·cases h
theorem PA.nil:PA T ext []:=fun f args S r h=>by cases h
theorem PA.run (hM:PA T ext M) {f:Nat} {args:List AV} {S:Option AV} {r:RV} (N:Nat) (h:gR M T ext N f args S=some r):rD T ext f args S=some r:=by
 obtain ⟨m,hm⟩:=((M_late hM N).1 f args S r h).some;exact pI.2 ⟨m,hm⟩
theorem PA.cons (hM:PA T ext M) {e:ME} (h:rD T ext e.f e.args e.S=some e.r):PA T ext (e :: M):=fun f args S r hl=>by
 unfold look at hl;split at hl
 ·rename_i hc;simp only [ye] at hc;obtain ⟨h1,h2,h3⟩:=hc;injection hl with hl;have h1:e.f=f:=by simpa using h1
  rw [<- h1,<- AV.beqL_eq _ _ h2,<- AV.beqO_eq _ _ h3,<- hl];exact h
 ·exact hM f args S r hl
theorem PA.more (hM:PA T ext M) (N:Nat) (e:ME) (h:gR M T ext N e.f e.args e.S=some e.r):PA T ext (e :: M):=hM.cons (hM.run N h)
end
section
def putE (e:Nat->rA) (d:Nat) (x:rA):Nat->rA:=fun t=>if t=d then x else e t
theorem zK (e:Nat->rA) (d:Nat) (x:rA) (t:Nat):putE e d x t=if t=d then x else e t:=(rfl)
def CO (m:Nat->Nat->Option (List rA)) (t n:Nat) (r:List rA):Nat->Nat->Option (List rA):=fun t' n'=>if t'=t/\n'=n then some r else m t' n'
theorem kA (m:Nat->Nat->Option (List rA)) (t n:Nat) (r:List rA) (t' n':Nat):CO m t n r t' n'=if t'=t/\n'=n then some r else m t' n':=(rfl)
def setO (m:Nat->Nat->Option AV) (t n:Nat) (r:AV):Nat->Nat->Option AV:=fun t' n'=>if t'=t/\n'=n then some r else m t' n'
theorem setO_at (m:Nat->Nat->Option AV) (t n:Nat) (r:AV) (t' n':Nat):setO m t n r t' n'=if t'=t/\n'=n then some r else m t' n':=(rfl)
def M8 (k:Nat) (e:Nat->rA):Nat->rA:=fun t=>(e t).strip k
theorem stripE_at (k:Nat) (e:Nat->rA) (t:Nat):M8 k e t=(e t).strip k:=(rfl)
def KA (k:Nat) (m:Nat->Nat->Option (List rA)):Nat->Nat->Option (List rA):=fun t n=>(m t n).map (·.map (rA.strip k))
theorem stripM_at (k:Nat) (m:Nat->Nat->Option (List rA)) (t n:Nat):KA k m t n=(m t n).map (·.map (rA.strip k)):=(rfl)
theorem rA.strip_v (k:Nat) (x:rA):(x.strip k).v=x.v:=(rfl)
theorem rA.strip_a (k:Nat) (x:rA):(x.strip k).a=x.a.strip k:=(rfl)
theorem rA.strip_mk (k:Nat) (v:AV) (a:An):rA.strip k ⟨v,a⟩=⟨v,a.strip k⟩:=(rfl)
def argE (args:List AV):Nat->rA:=fun t=>⟨args.getD t .undef,.no⟩
theorem argE_at (args:List AV) (t:Nat):argE args t=⟨args.getD t .undef,.no⟩:=(rfl)
def noM:Nat->Nat->Option (List rA):=fun _ _=>none
theorem noM_at (t n:Nat):noM t n=none:=(rfl)
def objE (S0:Option AV):Nat->Nat->Option AV:=fun t n=>if t=0/\n=0 then S0 else none
theorem objE_at (S0:Option AV) (t n:Nat):objE S0 t n=if t=0/\n=0 then S0 else none:=(rfl)
def undE:Nat->rA:=fun _=>⟨.undef,.no⟩
theorem undE_at (t:Nat):undE t=⟨.undef,.no⟩:=(rfl)
theorem L7 {α β:Type} (a:α) (f:α->Option β):(some a).bind f=f a:=(rfl)
theorem d5 {α β:Type} (f:α->β) (l:List α):(l.map f).take l.length=l.map f:=yS (by simp)
theorem m_init (args:List AV) (S0:Option AV):pA.init args S0=⟨argE args,noM,1,objE S0,undE⟩:=(rfl)
theorem m_put (s:pA) (d:Nat) (x:rA):s.put (some d) x=⟨putE s.env d x,s.mem,s.next,s.obj,s.gh⟩:=(rfl)
theorem m_put0 (s:pA) (x:rA):s.put none x=s:=(rfl)
theorem m_row (s:pA) (t n:Nat) (r:List rA):s.setRow t n r=⟨s.env,CO s.mem t n r,s.next,s.obj,s.gh⟩:=(rfl)
theorem m_obj (s:pA) (t n:Nat) (r:AV):s.setObj t n r=⟨s.env,s.mem,s.next,setO s.obj t n r,s.gh⟩:=(rfl)
theorem m_strip (s:pA) (k:Nat):s.strip k=⟨M8 k s.env,KA k s.mem,s.next,s.obj,M8 k s.gh⟩:=(rfl)
theorem m_stripA (s:pA) (k:Nat) (e:TypeId):s.stripA (.own k e)=s.strip k:=(rfl)
theorem m_stripX (s:pA):s.stripA .ex=s:=(rfl)
def WY (t n:Nat) (e:Nat->rA):Nat->rA:=fun j=>(e j).kill t n
theorem EY (t n:Nat) (e:Nat->rA) (j:Nat):WY t n e j=(e j).kill t n:=(rfl)
def RY (t n:Nat) (m:Nat->Nat->Option (List rA)):Nat->Nat->Option (List rA):=fun t' n'=>if t'=t/\n'=n then none else (m t' n').map (·.map (rA.kill t n))
theorem OJ (t n:Nat) (m:Nat->Nat->Option (List rA)) (t' n':Nat):RY t n m t' n'=if t'=t/\n'=n then none else (m t' n').map (·.map (rA.kill t n)):=(rfl)
theorem rA.kill_v (t n:Nat) (x:rA):(x.kill t n).v=x.v.kill t n:=(rfl)
theorem rA.kill_a (t n:Nat) (x:rA):(x.kill t n).a=x.a:=(rfl)
theorem rA.kill_mk (t n:Nat) (v:AV) (a:An):rA.kill t n ⟨v,a⟩=⟨v.kill t n,a⟩:=(rfl)
theorem m_kill (s:pA) (t n:Nat):s.killO (some (t,n))=⟨WY t n s.env,RY t n s.mem,s.next,s.obj,WY t n s.gh⟩:=(rfl)
def rowE (cs:List AV):Nat->Nat->Option (List rA):=fun t n=>if t=0/\n=0 then some (cs.map fun v=>⟨v,OG v⟩) else none
theorem rowE_at (cs:List AV) (t n:Nat):rowE cs t n=if t=0/\n=0 then some (cs.map fun v=>⟨v,OG v⟩) else none:=(rfl)
theorem m_initR (args cs:List AV):pA.initR args cs=⟨argE args,rowE cs,1,objE none,undE⟩:=by
 have:objE none=fun _ _=>none:=by funext t n; simp [objE]
 rw [this];rfl
def drop0M (m:Nat->Nat->Option (List rA)):Nat->Nat->Option (List rA):=fun t n=>if t=0/\n=0 then none else m t n
theorem drop0M_at (m:Nat->Nat->Option (List rA)) (t n:Nat):drop0M m t n=if t=0/\n=0 then none else m t n:=(rfl)
theorem m_drop0 (s:pA):s.drop0=⟨s.env,drop0M s.mem,s.next,s.obj,s.gh⟩:=(rfl)
def slotE (xs:List rA):Nat->rA:=fun t=>xs.getD t ⟨.undef,.no⟩
theorem slotE_at (xs:List rA) (t:Nat):slotE xs t=xs.getD t ⟨.undef,.no⟩:=(rfl)
def waitE (nt:Nat) (e g:Nat->rA):Nat->rA:=fun t=>if t<nt then e t else g (t - nt)
theorem I7 (nt:Nat) (e g:Nat->rA) (t:Nat):waitE nt e g t=if t<nt then e t else g (t - nt):=(rfl)
def backE (nt:Nat) (g:Nat->rA):Nat->rA:=fun t=>if t<nt then g t else ⟨.undef,.no⟩
theorem backE_at (nt:Nat) (g:Nat->rA) (t:Nat):backE nt g t=if t<nt then g t else ⟨.undef,.no⟩:=(rfl)
def restE (nt:Nat) (g:Nat->rA):Nat->rA:=fun t=>g (t + nt)
theorem t7 (nt:Nat) (g:Nat->rA) (t:Nat):restE nt g t=g (t + nt):=(rfl)
theorem m_initH (s:pA) (xs:List rA):s.initH xs=⟨slotE xs,s.mem,s.next,s.obj,s.gh⟩:=(rfl)
theorem m_enter (s:pA) (nt:Nat):s.enter nt=⟨s.env,s.mem,s.next + 1,s.obj,waitE nt s.env s.gh⟩:=(rfl)
theorem m_leave (s:pA) (nt:Nat):s.leave nt=⟨backE nt s.gh,s.mem,s.next,s.obj,restE nt s.gh⟩:=(rfl)
theorem m_kill0 (s:pA):s.killO none=s:=(rfl)
theorem c8 {v:AV} (h:v.free0=true) (t n:Nat):v.kill0 t n=v:=by
 cases v <;> first | rfl | (simp [AV.free0] at h; done)
theorem W6 {cs:List AV} (h:cs.all AV.free0=true) (t n:Nat):cs.map (AV.kill0 t n)=cs:=by
 have h1:cs.map (AV.kill0 t n)=cs.map id:=yH fun x hx=>c8 (y8.1 h x hx) t n
 rwa [List.map_id] at h1
theorem kill_free {v:AV} (h:v.free=true) (t n:Nat):v.kill t n=v:=by
 cases v with
 | agg cs=>exact congrArg AV.agg (W6 h t n)
 | _=>first | rfl | (simp [AV.free,AV.free0] at h; done)
theorem frz0_free {s:pA} {v:AV} (h:v.free0=true):v.frz0 s=v:=by
 cases v <;> first | rfl | (simp [AV.free0] at h; done)
theorem frz_map {s:pA} {cs:List AV} (h:cs.all AV.free0=true):cs.map (AV.frz0 s)=cs:=by
 have h1:cs.map (AV.frz0 s)=cs.map id:=yH fun x hx=>frz0_free (y8.1 h x hx)
 rwa [List.map_id] at h1
theorem frz_free {s:pA} {v:AV} (h:v.free=true):v.frz s=v:=by
 cases v with
 | agg cs=>exact congrArg AV.agg (frz_map h)
 | _=>first | rfl | (simp [AV.free,AV.free0] at h; done)
section
variable {sz:Nat} {l:List (List AV)}
theorem cK (l m:List (List AV)):xA (l++m)=xA l++xA m:=by simp [xA]
theorem tN (h:AA sz l=true):(xA l).length=l.length * sz:=by
 induction l with
 | nil=>simp [xA]
 | cons c r ih =>
  rw [cB] at h;simp only [ye,decide_eq_true_eq] at h;have:=ih h.2;simp only [xA,yv,List.map_append,yb,y7,yA] at this ⊢;rw [this,h.1,yM];omega
theorem dW (h:AA sz l=true) {k:Nat} (hk:k<=l.length):xA l=xA (l.take k)++xA (l.drop k)/\(xA (l.take k)).length=k * sz:=by
 refine ⟨by rw [<- cK,Y05],?_⟩;rw [tN (ZI h k),ym,yU hk]
theorem H8 (h:AA sz l=true) {k:Nat} (hk:k<=l.length):(xA l).take (k * sz)=xA (l.take k):=by
 obtain ⟨h1,h2⟩:=dW h hk;rw [h1,<- h2,List.take_left]
theorem JN (h:AA sz l=true) {k:Nat} (hk:k<=l.length):(xA l).drop (k * sz)=xA (l.drop k):=by
 obtain ⟨h1,h2⟩:=dW h hk;rw [h1,<- h2,List.drop_left]
theorem jL (c:List AV) (r:List (List AV)):xA (c :: r)=c.map (⟨·,.no⟩)++xA r:=by simp [xA]
theorem FM (h:AA sz l=true) {k:Nat} {c:List AV} (hk:l[k]?=some c):c.length=sz:=by
 simp only [AA,y8] at h;simpa using h c (yD hk)
theorem uJ (h:AA sz l=true) {k:Nat} {c:List AV} (hk:l[k]?=some c):aA true sz (k * sz) (xA l)=some ⟨.agg c,.no⟩:=by
 have ba:=(yh.1 hk).1;have hc:=FM h hk;have hd:l.drop k=c :: l.drop (k + 1):=by rw [yj ba,(yh.1 hk).2]
 simp only [aA,if_true,tN h];rw [if_pos (by rw [<- yM]; exact Y02 _ ba),JN h (by omega),hd,jL,<- hc,List.take_left' (by simp)];simp [Function.comp_def]
theorem xF (h:AA sz l=true) {k:Nat} (hk:k<l.length) {c:List AV} (hc:c.length=sz) (a:An):uA true sz (k * sz) (xA l) (.agg c) a=some (xA (l.set k c)):=by
 simp only [uA,if_true,tN h];rw [if_pos ⟨hc,by rw [<- yM]; exact Y02 _ hk⟩,H8 h (by omega),<- yM,JN h hk,List.set_eq_take_append_cons_drop,if_pos hk,cK,jL,yo]
theorem wA (z off:Nat) (r:List rA):aA false z off r=r[off]?:=by simp [aA]
theorem tA (z off:Nat) (x:rA) (r:List rA):aA true z off (x :: r)=if off + z<=(x :: r).length then some ⟨.agg ((((x :: r).drop off).take z).map (·.v)),.no⟩ else none:=by simp [aA]
theorem eA (z off:Nat) (y:rA) (r:List rA) (x:AV) (a:An):uA false z off (y :: r) x a=if x.leaf/\off<(y :: r).length then some ((y :: r).set off ⟨x,a⟩) else none:=by simp [uA]
theorem qA (z off:Nat) (y:rA) (r:List rA) (cs:List AV) (a:An):uA true z off (y :: r) (.agg cs) a=if cs.length=z/\off + z<=(y :: r).length then some ((y :: r).take off++cs.map (⟨·,.no⟩)++(y :: r).drop (off + z)) else none:=by simp [uA]
def jD (l:List (List AV)):Bool:=l.all fun c=>c.all AV.free0
theorem aE {α:Type} (f:α->List AV) (l:List α) (h:∀ x,(f x).all AV.free0=true):jD (l.map f)=true:=by
 simp only [jD,List.all_map,y8];exact fun x _=>h x
theorem LB (h:AA sz l=true) (hf:jD l=true):UG (xA l) sz 0 l.length=some l:=by
 unfold UG;rw [if_pos]
 ·congr 1;refine List.ext_getElem (by simp) fun i h1 h2=>?_
  simp only [List.getElem_map,List.getElem_range,yr];rw [JN h (by omega),yj h2,jL];have hc:=FM h (yg h2);rw [<- hc,List.take_left' (by simp)];simp [Function.comp_def]
 ·refine ⟨by rw [tN h]; omega,?_⟩;simp only [xA,List.all_map,List.all_flatten,Function.comp_def];exact hf
end
section
variable {call:uB} {lp:LH} {T:Nat->Option DA} {ext:uB}
noncomputable def seqK (call:uB) (lp:LH) (b:C) (k:Ex->pA->Option RV):Ex->pA->Option RV:=fun e s=>match e with
 | .nrm=>b.run call lp s k
 | e=>k e s
def regK (k:Ex->pA->Option RV):pA->Option RV:=fun s=>k .nrm { s with next:=s.next + 1 }
noncomputable def opK (call:uB) (lp:LH) (r:List WA) (k:pA->Option RV):pA->Option RV:=fun s=>qG call lp r s k
def callK (d:Option Nat) (nt:Nat) (k:pA->Option RV):rA->pA->Option RV:=fun y s'=>k ((s'.leave nt).put d y)
def blkK (id:Nat) (k:Ex->pA->Option RV):Ex->pA->Option RV:=fun e s=>match e with
 | .exit j=>if j=id then k .nrm s else k (.exit j) s
 | e=>k e s
def L5 (v:AV) (a b:Option RV):Option RV:=match v with
 | .bool t=>if t then a else b
 | _=>none
def fU (v:AV) (w:Bool) (a b:Option pA):Option pA:=match v with
 | .bool t=>if t=w then a else b
 | .tup []=>b
 | _=>none
def gU (v:AV) (w:Bool) (a b:Option RV):Option RV:=match v with
 | .bool t=>if t=w then a else b
 | .tup []=>b
 | _=>none
def fnC (v:AV) (h:Nat->List AV->Option RV):Option RV:=match v with
 | .fn f cs=>h f cs
 | _=>none
variable (b c:C) (s:pA) (k:Ex->pA->Option RV) (j id:Nat)
theorem JC:seqK call lp b k .nrm s=b.run call lp s k:=(rfl)
theorem seqK_exit:seqK call lp b k (.exit j) s=k (.exit j) s:=(rfl)
theorem seqK_ret:seqK call lp b k .ret s=k .ret s:=(rfl)
theorem regK_at:regK k s=k .nrm ⟨s.env,s.mem,s.next + 1,s.obj,s.gh⟩:=(rfl)
theorem opK_at (r:List WA) (k:pA->Option RV):opK call lp r k s=qG call lp r s k:=(rfl)
theorem callK_at (d:Option Nat) (nt:Nat) (k:pA->Option RV) (y:rA):callK d nt k y s=k ((s.leave nt).put d y):=(rfl)
theorem blkK_nrm:blkK id k .nrm s=k .nrm s:=(rfl)
theorem blkK_exit:blkK id k (.exit j) s=if j=id then k .nrm s else k (.exit j) s:=(rfl)
theorem blkK_ret:blkK id k .ret s=k .ret s:=(rfl)
theorem N7 (x y:Option RV):L5 (.bool true) x y=x:=(rfl)
theorem Z5 (x y:Option RV):L5 (.bool false) x y=y:=(rfl)
theorem d6 (t w:Bool) (x y:Option pA):fU (.bool t) w x y=if t=w then x else y:=(rfl)
theorem o8 (w:Bool) (x y:Option pA):fU (.tup []) w x y=y:=(rfl)
theorem j6 (t w:Bool) (x y:Option RV):gU (.bool t) w x y=if t=w then x else y:=(rfl)
theorem s8 (w:Bool) (x y:Option RV):gU (.tup []) w x y=y:=(rfl)
theorem fnC_fn (f:Nat) (cs:List AV) (h:Nat->List AV->Option RV):fnC (.fn f cs) h=h f cs:=(rfl)
theorem r_skip:C.run call lp .skip s k=k .nrm s:=(rfl)
theorem MG:C.run call lp (.seq b c) s k=b.run call lp s (seqK call lp c k):=(rfl)
theorem r_reg (ops:List WA):C.run call lp (.reg ops) s k=qG call lp ops s (regK k):=(rfl)
theorem r_cond (x:bB):C.run call lp (.cond x b c) s k=L5 (x.get s) (b.run call lp s k) (c.run call lp s k):=(rfl)
theorem r_block:C.run call lp (.block id b) s k=b.run call lp s (blkK id k):=(rfl)
theorem r_loop:C.run call (IF T ext) (.loop b) s k=zF T ext b s k:=(rfl)
theorem r_exit:C.run call lp (.exit id) s k=k (.exit id) s:=(rfl)
theorem r_ret:C.run call lp .ret s k=k .ret s:=(rfl)
theorem a_nrm:RK lp b k .nrm s=lp b s k:=(rfl)
theorem a_exit:RK lp b k (.exit j) s=k (.exit j) s:=(rfl)
theorem a_ret:RK lp b k .ret s=k .ret s:=(rfl)
theorem o_nil (k:pA->Option RV):qG call lp [] s k=k s:=(rfl)
theorem o_cons (o:WA) (r:List WA) (k:pA->Option RV):qG call lp (o :: r) s k=o.stepK call lp s (opK call lp r k):=(rfl)
theorem s_plain (d:Option Nat) (op:K):WA.step call ⟨d,op,none⟩ s=(op.run call s).bind (WA.eff ⟨d,op,none⟩ s):=(rfl)
theorem s_guard (d:Option Nat) (op:K) (t:Nat) (w:Bool):WA.step call ⟨d,op,some (t,w)⟩ s=fU (s.env t).v w ((op.run call s).bind (WA.eff ⟨d,op,none⟩ s)) (some (s.put d ⟨.tup [],.no⟩)):=by
 simp only [WA.step,fU];generalize (s.env t).v=v;cases v with
 | tup l=>cases l <;> rfl
 | _=>rfl
theorem k_callh (d:Option Nat) (nt:Nat) (x:bB) (xs:List bB) (g:Option (Nat × Bool)) (k:pA->Option RV):WA.stepK call lp ⟨d,.callh nt x xs,g⟩ s k=CI s d g (FD lp d nt x xs s k) k:=(rfl)
theorem hg_none (d:Option Nat) (a:Option RV) (k:pA->Option RV):CI s d none a k=a:=(rfl)
theorem hg_some (d:Option Nat) (t:Nat) (w:Bool) (a:Option RV) (k:pA->Option RV):CI s d (some (t,w)) a k=gU (s.env t).v w a (k (s.put d ⟨.tup [],.no⟩)):=by
 simp only [CI,gU];generalize (s.env t).v=v;cases v with
 | tup l=>cases l <;> rfl
 | _=>rfl
theorem h_step (d:Option Nat) (nt:Nat) (x:bB) (xs:List bB) (k:pA->Option RV):FD (IF T ext) d nt x xs s k=fnC (x.get s) fun f cs=>evH T ext f (TK s xs++cs.map (⟨·,.no⟩)) (s.enter nt) (callK d nt k):=by
 simp only [FD,fnC];generalize x.get s=v;cases v <;> rfl
section
variable (d:Option Nat) (g:Option (Nat × Bool)) (k:pA->Option RV)
section
variable {x0}
include x0
theorem k_mv:WA.stepK call lp ⟨d,.mv x0,g⟩ s k=(WA.step call ⟨d,.mv x0,g⟩ s).bind k:=(rfl)
theorem k_pick {x1} {x2}:WA.stepK call lp ⟨d,.pick x0 x1 x2,g⟩ s k=(WA.step call ⟨d,.pick x0 x1 x2,g⟩ s).bind k:=(rfl)
theorem k_alloc:WA.stepK call lp ⟨d,.alloc x0,g⟩ s k=(WA.step call ⟨d,.alloc x0,g⟩ s).bind k:=(rfl)
theorem k_box {x1}:WA.stepK call lp ⟨d,.box x0 x1,g⟩ s k=(WA.step call ⟨d,.box x0 x1,g⟩ s).bind k:=(rfl)
theorem k_build {x1}:WA.stepK call lp ⟨d,.build x0 x1,g⟩ s k=(WA.step call ⟨d,.build x0 x1,g⟩ s).bind k:=(rfl)
theorem k_bsl {x1} {x2}:WA.stepK call lp ⟨d,.bsl x0 x1 x2,g⟩ s k=(WA.step call ⟨d,.bsl x0 x1 x2,g⟩ s).bind k:=(rfl)
theorem k_bslr {x1} {x2} {x3}:WA.stepK call lp ⟨d,.bslr x0 x1 x2 x3,g⟩ s k=(WA.step call ⟨d,.bslr x0 x1 x2 x3,g⟩ s).bind k:=(rfl)
theorem k_load {x1} {x2} {x3}:WA.stepK call lp ⟨d,.load x0 x1 x2 x3,g⟩ s k=(WA.step call ⟨d,.load x0 x1 x2 x3,g⟩ s).bind k:=(rfl)
theorem k_store {x1} {x2} {x3} {x4}:WA.stepK call lp ⟨d,.store x0 x1 x2 x3 x4,g⟩ s k=(WA.step call ⟨d,.store x0 x1 x2 x3 x4,g⟩ s).bind k:=(rfl)
theorem k_bin {x1} {x2} {x3}:WA.stepK call lp ⟨d,.bin x0 x1 x2 x3,g⟩ s k=(WA.step call ⟨d,.bin x0 x1 x2 x3,g⟩ s).bind k:=(rfl)
theorem k_mm {x1} {x2}:WA.stepK call lp ⟨d,.mm x0 x1 x2,g⟩ s k=(WA.step call ⟨d,.mm x0 x1 x2,g⟩ s).bind k:=(rfl)
theorem k_eqa {x1} {x2} {x3}:WA.stepK call lp ⟨d,.eqa x0 x1 x2 x3,g⟩ s k=(WA.step call ⟨d,.eqa x0 x1 x2 x3,g⟩ s).bind k:=(rfl)
theorem k_eqn {x1} {x2} {x3}:WA.stepK call lp ⟨d,.eqn x0 x1 x2 x3,g⟩ s k=(WA.step call ⟨d,.eqn x0 x1 x2 x3,g⟩ s).bind k:=(rfl)
theorem k_un {x1}:WA.stepK call lp ⟨d,.un x0 x1,g⟩ s k=(WA.step call ⟨d,.un x0 x1,g⟩ s).bind k:=(rfl)
theorem k_conv {x1}:WA.stepK call lp ⟨d,.conv x0 x1,g⟩ s k=(WA.step call ⟨d,.conv x0 x1,g⟩ s).bind k:=(rfl)
theorem k_rstr:WA.stepK call lp ⟨d,.rstr x0,g⟩ s k=(WA.step call ⟨d,.rstr x0,g⟩ s).bind k:=(rfl)
theorem k_bstr {x1}:WA.stepK call lp ⟨d,.bstr x0 x1,g⟩ s k=(WA.step call ⟨d,.bstr x0 x1,g⟩ s).bind k:=(rfl)
theorem k_clr {x1} {x2}:WA.stepK call lp ⟨d,.clr x0 x1 x2,g⟩ s k=(WA.step call ⟨d,.clr x0 x1 x2,g⟩ s).bind k:=(rfl)
theorem k_mks {x1} {x2} {x3} {x4}:WA.stepK call lp ⟨d,.mks x0 x1 x2 x3 x4,g⟩ s k=(WA.step call ⟨d,.mks x0 x1 x2 x3 x4,g⟩ s).bind k:=(rfl)
theorem k_slc {x1} {x2} {x3} {x4} {x5}:WA.stepK call lp ⟨d,.slc x0 x1 x2 x3 x4 x5,g⟩ s k=(WA.step call ⟨d,.slc x0 x1 x2 x3 x4 x5,g⟩ s).bind k:=(rfl)
theorem k_aslc {x1} {x2} {x3} {x4} {x5}:WA.stepK call lp ⟨d,.aslc x0 x1 x2 x3 x4 x5,g⟩ s k=(WA.step call ⟨d,.aslc x0 x1 x2 x3 x4 x5,g⟩ s).bind k:=(rfl)
theorem k_faddr {x1}:WA.stepK call lp ⟨d,.faddr x0 x1,g⟩ s k=(WA.step call ⟨d,.faddr x0 x1,g⟩ s).bind k:=(rfl)
theorem k_field {x1} {x2} {x3}:WA.stepK call lp ⟨d,.field x0 x1 x2 x3,g⟩ s k=(WA.step call ⟨d,.field x0 x1 x2 x3,g⟩ s).bind k:=(rfl)
theorem k_iaddr {x1} {x2}:WA.stepK call lp ⟨d,.iaddr x0 x1 x2,g⟩ s k=(WA.step call ⟨d,.iaddr x0 x1 x2,g⟩ s).bind k:=(rfl)
theorem k_aaddr {x1} {x2} {x3}:WA.stepK call lp ⟨d,.aaddr x0 x1 x2 x3,g⟩ s k=(WA.step call ⟨d,.aaddr x0 x1 x2 x3,g⟩ s).bind k:=(rfl)
theorem k_index {x1}:WA.stepK call lp ⟨d,.index x0 x1,g⟩ s k=(WA.step call ⟨d,.index x0 x1,g⟩ s).bind k:=(rfl)
theorem k_ext {x1}:WA.stepK call lp ⟨d,.ext x0 x1,g⟩ s k=(WA.step call ⟨d,.ext x0 x1,g⟩ s).bind k:=(rfl)
theorem k_call {x1} {x2}:WA.stepK call lp ⟨d,.call x0 x1 x2,g⟩ s k=(WA.step call ⟨d,.call x0 x1 x2,g⟩ s).bind k:=(rfl)
theorem k_callo {x1} {x2} {x3}:WA.stepK call lp ⟨d,.callo x0 x1 x2 x3,g⟩ s k=(WA.step call ⟨d,.callo x0 x1 x2 x3,g⟩ s).bind k:=(rfl)
theorem k_calln {x1} {x2} {x3} {x4} {x5}:WA.stepK call lp ⟨d,.calln x0 x1 x2 x3 x4 x5,g⟩ s k=(WA.step call ⟨d,.calln x0 x1 x2 x3 x4 x5,g⟩ s).bind k:=(rfl)
theorem k_callq {x1} {x2}:WA.stepK call lp ⟨d,.callq x0 x1 x2,g⟩ s k=(WA.step call ⟨d,.callq x0 x1 x2,g⟩ s).bind k:=(rfl)
theorem k_callf {x1} {x2} {x3}:WA.stepK call lp ⟨d,.callf x0 x1 x2 x3,g⟩ s k=(WA.step call ⟨d,.callf x0 x1 x2 x3,g⟩ s).bind k:=(rfl)
theorem k_mkf {x1}:WA.stepK call lp ⟨d,.mkf x0 x1,g⟩ s k=(WA.step call ⟨d,.mkf x0 x1,g⟩ s).bind k:=(rfl)
theorem k_callv {x1} {x2}:WA.stepK call lp ⟨d,.callv x0 x1 x2,g⟩ s k=(WA.step call ⟨d,.callv x0 x1 x2,g⟩ s).bind k:=(rfl)
theorem k_callr {x1} {x2}:WA.stepK call lp ⟨d,.callr x0 x1 x2,g⟩ s k=(WA.step call ⟨d,.callr x0 x1 x2,g⟩ s).bind k:=(rfl)
theorem k_len {x1}:WA.stepK call lp ⟨d,.len x0 x1,g⟩ s k=(WA.step call ⟨d,.len x0 x1,g⟩ s).bind k:=(rfl)
theorem k_app {x1} {x2} {x3} {x4} {x5}:WA.stepK call lp ⟨d,.app x0 x1 x2 x3 x4 x5,g⟩ s k=(WA.step call ⟨d,.app x0 x1 x2 x3 x4 x5,g⟩ s).bind k:=(rfl)
theorem k_appf {x1} {x2} {x3} {x4} {x5}:WA.stepK call lp ⟨d,.appf x0 x1 x2 x3 x4 x5,g⟩ s k=(WA.step call ⟨d,.appf x0 x1 x2 x3 x4 x5,g⟩ s).bind k:=(rfl)
theorem k_appm {x1} {x2} {x3} {x4} {x5}:WA.stepK call lp ⟨d,.appm x0 x1 x2 x3 x4 x5,g⟩ s k=(WA.step call ⟨d,.appm x0 x1 x2 x3 x4 x5,g⟩ s).bind k:=(rfl)
theorem k_appn {x1} {x2} {x3} {x4} {x5}:WA.stepK call lp ⟨d,.appn x0 x1 x2 x3 x4 x5,g⟩ s k=(WA.step call ⟨d,.appn x0 x1 x2 x3 x4 x5,g⟩ s).bind k:=(rfl)
end
theorem k_mkm:WA.stepK call lp ⟨d,.mkm,g⟩ s k=(WA.step call ⟨d,.mkm,g⟩ s).bind k:=(rfl)
theorem k_bad:WA.stepK call lp ⟨d,.bad,g⟩ s k=(WA.step call ⟨d,.bad,g⟩ s).bind k:=(rfl)
theorem k_mkb {T e:TypeId}:WA.stepK call lp ⟨d,.mkb T e,g⟩ s k=(WA.step call ⟨d,.mkb T e,g⟩ s).bind k:=(rfl)
theorem k_mget {x0} {x1} {x2} {x3} {x4}:WA.stepK call lp ⟨d,.mget x0 x1 x2 x3 x4,g⟩ s k=(WA.step call ⟨d,.mget x0 x1 x2 x3 x4,g⟩ s).bind k:=(rfl)
theorem k_mset {x0} {x1} {x2} {x3}:WA.stepK call lp ⟨d,.mset x0 x1 x2 x3,g⟩ s k=(WA.step call ⟨d,.mset x0 x1 x2 x3,g⟩ s).bind k:=(rfl)
theorem k_mlen {x0}:WA.stepK call lp ⟨d,.mlen x0,g⟩ s k=(WA.step call ⟨d,.mlen x0,g⟩ s).bind k:=(rfl)
theorem k_rng {x0}:WA.stepK call lp ⟨d,.rng x0,g⟩ s k=(WA.step call ⟨d,.rng x0,g⟩ s).bind k:=(rfl)
theorem k_slz {x0}:WA.stepK call lp ⟨d,.slz x0,g⟩ s k=(WA.step call ⟨d,.slz x0,g⟩ s).bind k:=(rfl)
theorem k_ent {x0}:WA.stepK call lp ⟨d,.ent x0,g⟩ s k=(WA.step call ⟨d,.ent x0,g⟩ s).bind k:=(rfl)
theorem k_nxt {x0}:WA.stepK call lp ⟨d,.nxt x0,g⟩ s k=CI s d g (AY d x0 s k) k:=(rfl)
theorem k_nilchk {x0}:WA.stepK call lp ⟨d,.nilchk x0,g⟩ s k=(WA.step call ⟨d,.nilchk x0,g⟩ s).bind k:=(rfl)
end
theorem e_none (d:Option Nat) (op:K) (g:Option (Nat × Bool)) (x:rA):WA.eff ⟨d,op,g⟩ s (x,.none)=some (s.put d x):=(rfl)
theorem e_set (d:Option Nat) (op:K) (g:Option (Nat × Bool)) (x:rA) (t n:Nat) (r:List rA):WA.eff ⟨d,op,g⟩ s (x,.set t n r)=some ((s.setRow t n r).put d x):=(rfl)
theorem e_newp (d:Nat) (op:K) (g:Option (Nat × Bool)) (t n o:Nat) (a:An) (r:List rA):WA.eff ⟨some d,op,g⟩ s (⟨.ptr t n o,a⟩,.new r)=some ((s.setRow d s.next r).put (some d) ⟨.ptr d s.next 0,.no⟩):=(rfl)
theorem e_newr (d:Nat) (op:K) (g:Option (Nat × Bool)) (t n z o l p:Nat) (a:An) (r:List rA):WA.eff ⟨some d,op,g⟩ s (⟨.ref t n z o l p,a⟩,.new r)=some ((s.setRow d s.next r).put (some d) ⟨.ref d s.next z o l p,.no⟩):=(rfl)
theorem e_app (d:Nat) (op:K) (g:Option (Nat × Bool)) (v:AV) (a:An) (kk j:Nat) (e:TypeId):WA.eff ⟨some d,op,g⟩ s (⟨v,.own kk e⟩,.app a j)=some (((s.stripA a).strip d).put (some d) ⟨v,.own d e⟩):=(rfl)
theorem e_obj (d:Option Nat) (op:K) (g:Option (Nat × Bool)) (x:rA) (t n:Nat) (S:AV):WA.eff ⟨d,op,g⟩ s (x,.obj t n S)=some ((s.setObj t n S).put d x):=(rfl)
theorem e_mk (d:Nat) (op:K) (g:Option (Nat × Bool)) (x:rA) (S:AV):WA.eff ⟨some d,op,g⟩ s (x,.mk S)=some ((s.setObj d s.next S).put (some d) ⟨x.v.named d s.next,.no⟩):=(rfl)
theorem e_rn (d:Nat) (op:K) (g:Option (Nat × Bool)) (t n z o l p:Nat) (a:An) (q:Option (Nat × Nat)) (r:List rA):WA.eff ⟨some d,op,g⟩ s (⟨.ref t n z o l p,a⟩,.rn q r)=some (((s.killO q).setRow d s.next r).put (some d) ⟨.ref d s.next z o l p,.no⟩):=(rfl)
theorem e_ob2 (d:Nat) (op:K) (g:Option (Nat × Bool)) (t n z o l p:Nat) (a:An) (t' n':Nat) (S:AV) (r:List rA):WA.eff ⟨some d,op,g⟩ s (⟨.ref t n z o l p,a⟩,.ob2 t' n' S r)=some (((s.setObj t' n' S).setRow d s.next r).put (some d) ⟨.ref d s.next z o l p,.no⟩):=(rfl)
theorem run_cg {b:C} {s s':pA} {k:Ex->pA->Option RV} (h:s=s'):C.run call lp b s k=C.run call lp b s' k:=by rw [h]
theorem ops_cg {l:List WA} {s s':pA} {k:pA->Option RV} (h:s=s'):qG call lp l s k=qG call lp l s' k:=by rw [h]
theorem stepK_cg {o:WA} {s s':pA} {k:pA->Option RV} (h:s=s'):WA.stepK call lp o s k=WA.stepK call lp o s' k:=by rw [h]
theorem bind_cg {α β:Type} {a a':Option α} {f:α->Option β} (h:a=a'):a.bind f=a'.bind f:=by rw [h]
theorem condC_cg {v v':AV} {a b:Option RV} (h:v=v'):L5 v a b=L5 v' a b:=by rw [h]
theorem guardC_cg {v v':AV} {w:Bool} {a b:Option pA} (h:v=v'):fU v w a b=fU v' w a b:=by rw [h]
theorem guardK_cg {v v':AV} {w:Bool} {a b:Option RV} (h:v=v'):gU v w a b=gU v' w a b:=by rw [h]
theorem fnC_cg {v v':AV} {g:Nat->List AV->Option RV} (h:v=v'):fnC v g=fnC v' g:=by rw [h]
theorem evL_cg {T:Nat->Option DA} {ext:uB} {b:C} {s s':pA} {k:Ex->pA->Option RV} (h:s=s'):zF T ext b s k=zF T ext b s' k:=by rw [h]
theorem evH_cg {T:Nat->Option DA} {ext:uB} {f:Nat} {xs oy:List rA} {s s':pA} {k:rA->pA->Option RV} (hx:xs=oy) (h:s=s'):evH T ext f xs s k=evH T ext f oy s' k:=by rw [h,hx]
end
attribute [congr] run_cg ops_cg stepK_cg bind_cg condC_cg guardC_cg guardK_cg fnC_cg evL_cg evH_cg
attribute [simp] k_callo k_calln k_callq k_clr k_rng k_slz k_ent k_nxt k_bad k_mkb k_mv k_pick k_alloc k_box k_build k_bsl k_bslr k_load k_store k_bin k_mm k_eqa k_eqn k_un k_conv k_rstr k_bstr k_mks k_slc k_aslc k_faddr k_field k_iaddr k_aaddr k_index k_ext k_call k_callf k_mkf k_callv k_callr k_callh k_len k_app k_appf k_appm k_appn k_mkm k_mget k_mset k_mlen k_nilchk j6 s8 fnC_fn hg_none hg_some h_step opK_at callK_at undE_at rowE_at drop0M_at slotE_at I7 backE_at t7 m_initH m_enter m_leave m_initR m_drop0
attribute [simp] zK kA setO_at stripE_at stripM_at rA.strip_v rA.strip_a rA.strip_mk argE_at noM_at objE_at EY OJ rA.kill_v rA.kill_a rA.kill_mk
attribute [simp] e_ob2 frz_free frz_map AV.frz AV.frz0 kill_free W6 AV.kill AV.kill0 m_kill m_kill0 e_rn m_init m_put m_put0 m_row m_obj m_strip m_stripA m_stripX An.strip e_none e_set e_newp e_newr e_app e_obj e_mk K.run bB.get uA AV.leaf AV.whole AV.cells binC mmC FJ gT aA GF Cl.okPtr Cl.okMem ZS mI t8 objAt bI T1 AV.free AV.free0 AV.back AV.backN AV.isObj AV.named w7 JD ZE kD TP AV.capOk oT NF XI AV.elems bB.an OG ZG cB iI SD ZI CK d5
attribute [simp ↓] L7 JC seqK_exit seqK_ret regK_at blkK_nrm blkK_exit blkK_ret N7 Z5 d6 o8 r_skip MG r_reg r_cond r_block r_loop r_exit r_ret a_nrm a_exit a_ret o_nil o_cons s_plain s_guard
end
def dA:uB:=fun _ _ _=>none
theorem eU {O:XE} (f:FuncId) (args:List AV) (S:Option AV) (r:RV) (h:dA f args S=some r):LA Tryz.prog O f args S r:=by cases h
def AZ:List (List AV)->Option (List (List UInt8))
 | []=>some []
 | [.str x] :: r=>(AZ r).map (x.data.toList :: ·)
 | _=>none
def jnB (sep:List UInt8):List (List UInt8)->List UInt8
 | []=>[]
 | [x]=>x
 | x :: r=>x++sep++jnB sep r
def insE (z:Nat):List AV->Option RV
 | .undef :: .sl b l :: .int .i64 i :: .sl false [x] :: []=>if 0<=i/\i<=l.length/\l.length<=900/\AA z (x :: l)=true/\(b=true->l=[]) then some (.sl false (l.take i.toNat++x :: l.drop i.toNat),none) else none
 | _=>none
def delE (z:Nat):List AV->Option RV
 | .undef :: .sl false l :: .int .i64 i :: .int .i64 j :: []=>if 0<=i/\j=i + 1/\j<=l.length/\l.length<=900/\AA z l=true then some (.sl false (l.take i.toNat++l.drop j.toNat),none) else none
 | _=>none
def itoaE:List AV->Option RV
 | [.int .i64 n]=>if 0<=n/\n<100 then some (.str ⟨(if n<10 then [UInt8.ofNat (48 + n.toNat)] else [UInt8.ofNat (48 + n.toNat / 10),UInt8.ofNat (48 + n.toNat % 10)]).toArray⟩,none) else none
 | _=>none
def jnE:List AV->Option RV
 | [.sl false l,.str s]=>(AZ l).bind fun xs=>if l.length<=1000/\(jnB s.data.toList xs).length<=140737488355328 then some (.str ⟨(jnB s.data.toList xs).toArray⟩,none) else none
 | _=>none
def bA:uB:=fun f args S =>
 if f=68 then (match S with
  | some (.int .i64 13)=>insE 13 args
  | _=>none)
 else if f=72 then (match S with
  | some (.int .i64 2)=>insE 2 args
  | _=>none)
 else if f=69 then (match S with
  | some (.int .i64 13)=>delE 13 args
  | _=>none)
 else if f=73 then (match S with
  | some (.int .i64 2)=>delE 2 args
  | _=>none)
 else if f=50 then (match S with
  | none=>itoaE args
  | _=>none)
 else if f=54 then (match S with
  | none=>jnE args
  | _=>none)
 else dA f args S
abbrev i6 (n:Int):AV:=.int .i64 n
abbrev f6:AV:=.bool false
abbrev t6:AV:=.bool true
abbrev n6:AV:=.sl true []
abbrev e6:AV:=.str ⟨#[]⟩
abbrev i0:AV:=.int .i64 0
def awe_M0:List ME:=[]
theorem awe_k0:PA lA bA awe_M0:=PA.nil
abbrev vc:AV:=(.sl false [[(i6 5),(.str (.mk #[82])),i0,i0,i0,n6,(.sl false [[(i6 1),(.str (.mk #[97])),(i6 1),f6,f6,i0,f6,i0,e6,i0,n6,n6,n6]]),i0,i0,f6],[(i6 2),e6,i0,(i6 9),i0,n6,n6,i0,i0,f6]])
abbrev ve:AV:=(.sl false [[(i6 1),(.str (.mk #[97])),(i6 1),f6,f6,i0,f6,i0,e6,i0,n6,n6,n6],[(i6 2),(.str (.mk #[98])),(i6 1),f6,t6,(i6 2),f6,i0,e6,i0,n6,n6,n6]])
abbrev vf:AV:=(.sl false [[(i6 5),(.str (.mk #[82])),i0,i0,i0,n6,(.sl false [[(i6 1),(.str (.mk #[97])),(i6 1),f6,f6,i0,f6,i0,e6,i0,n6,n6,n6],[(i6 2),(.str (.mk #[98])),(i6 1),f6,f6,i0,f6,i0,e6,i0,n6,n6,n6]]),i0,i0,f6],[(i6 2),e6,i0,(i6 9),i0,n6,n6,i0,i0,f6]])
abbrev vg:AV:=(.sl false [[(i6 5),(.str (.mk #[82])),i0,i0,i0,n6,ve,i0,i0,f6],[(i6 2),e6,i0,(i6 9),i0,n6,n6,i0,i0,f6]])
abbrev vh:AV:=(.sl false [[(i6 5),(.str (.mk #[82])),i0,i0,i0,n6,ve,i0,i0,f6],[(i6 2),e6,i0,(i6 5),i0,n6,n6,i0,i0,f6]])
abbrev vi:AV:=(.tup [(.sl false [[i0,i0],[(i6 1),(i6 1)]]),(.sl false [[(i6 (-1))],[i0]])])
abbrev vj:AV:=(.agg [vc])
abbrev vk:AV:=(.agg [vc,i0])
abbrev vl:AV:=(.sl false [[(i6 1),i0,i0,e6,(i6 2),(.str (.mk #[98])),(i6 1),f6,t6,(i6 2),f6,i0,e6,i0,n6,n6,n6,i0,e6,i0,i0,i0,f6,i0,i0]])
abbrev vm:AV:=(.sl false [[(i6 1),(i6 1)]])
abbrev vn:AV:=(.agg [vg])
abbrev vp:AV:=(.agg [vh])
abbrev vq:AV:=(.agg [vf])
abbrev vr:AV:=(.tup [(.sl false [[t6],[t6]]),i0])
abbrev vt:AV:=(.tup [n6,i0,(i6 15)])
abbrev vu:AV:=(.sl false [[(i6 2)],[(i6 2)]])
abbrev vv:AV:=(.agg [vh,i0])
abbrev vw:AV:=(.agg [vg,i0])
abbrev vz:AV:=(.agg [vf,i0])
def awe_M1:List ME:=⟨31,[],none,(vj,none)⟩ :: awe_M0
theorem awe_k1:PA lA bA awe_M1:=awe_k0.more 3000 _ (by kernel_rfl)
def awe_M2:List ME:=⟨32,[f6],none,((.agg [(i6 1),i0,i0,e6,(i6 2),(.str (.mk #[98])),(i6 1),f6,f6,i0,f6,i0,e6,i0,n6,n6,n6,i0,e6,i0,i0,i0,f6,i0,i0]),none)⟩ :: awe_M1
theorem awe_k2:PA lA bA awe_M2:=awe_k1.more 3000 _ (by kernel_rfl)
def awe_M3:List ME:=⟨34,[vj],none,(i0,none)⟩ :: awe_M2
theorem awe_k3:PA lA bA awe_M3:=awe_k2.more 3000 _ (by kernel_rfl)
def awe_M4:List ME:=⟨34,[vq],none,(i0,none)⟩ :: awe_M3
theorem awe_k4:PA lA bA awe_M4:=awe_k3.more 3000 _ (by kernel_rfl)
def awe_M5:List ME:=⟨14,[vj,(.sl false [[(i6 1),i0,i0,e6,(i6 2),(.str (.mk #[98])),(i6 1),f6,f6,i0,f6,i0,e6,i0,n6,n6,n6,i0,e6,i0,i0,i0,f6,i0,i0]])],none,((.tup [vq,(i6 1),i0]),none)⟩ :: awe_M4
theorem awe_k5:PA lA bA awe_M5:=awe_k4.more 3000 _ (by kernel_rfl)
def awe_M6:List ME:=⟨32,[t6],none,((.agg [(i6 1),i0,i0,e6,(i6 2),(.str (.mk #[98])),(i6 1),f6,t6,(i6 2),f6,i0,e6,i0,n6,n6,n6,i0,e6,i0,i0,i0,f6,i0,i0]),none)⟩ :: awe_M5
theorem awe_k6:PA lA bA awe_M6:=awe_k5.more 3000 _ (by kernel_rfl)
def awe_M7:List ME:=⟨34,[vn],none,(i0,none)⟩ :: awe_M6
theorem awe_k7:PA lA bA awe_M7:=awe_k6.more 3000 _ (by kernel_rfl)
def awe_M8:List ME:=⟨14,[vj,vl],none,((.tup [vn,(i6 1),i0]),none)⟩ :: awe_M7
theorem awe_k8:PA lA bA awe_M8:=awe_k7.more 3000 _ (by kernel_rfl)
def awe_M9:List ME:=⟨156,[vj],none,((.tup [i0,i0,i0]),none)⟩ :: awe_M8
theorem awe_k9:PA lA bA awe_M9:=awe_k8.more 3000 _ (by kernel_rfl)
def A9:List ME:=⟨121,[vj],none,(i0,none)⟩ :: awe_M9
theorem awe_k10:PA lA bA A9:=awe_k9.more 3000 _ (by kernel_rfl)
def S9:List ME:=⟨122,[vj],none,(vu,none)⟩ :: A9
theorem awe_k11:PA lA bA S9:=awe_k10.more 3000 _ (by kernel_rfl)
def D9:List ME:=⟨84,[vj],none,(vr,none)⟩ :: S9
theorem awe_k12:PA lA bA D9:=awe_k11.more 3000 _ (by kernel_rfl)
def F9:List ME:=⟨46,[vj],none,(i0,none)⟩ :: D9
theorem awe_k13:PA lA bA F9:=awe_k12.more 3000 _ (by kernel_rfl)
def G9:List ME:=⟨156,[vq],none,((.tup [i0,i0,i0]),none)⟩ :: F9
theorem awe_k14:PA lA bA G9:=awe_k13.more 3000 _ (by kernel_rfl)
def H9:List ME:=⟨121,[vq],none,(i0,none)⟩ :: G9
theorem awe_k15:PA lA bA H9:=awe_k14.more 3000 _ (by kernel_rfl)
def J9:List ME:=⟨122,[vq],none,(vu,none)⟩ :: H9
theorem awe_k16:PA lA bA J9:=awe_k15.more 3000 _ (by kernel_rfl)
def K9:List ME:=⟨84,[vq],none,(vr,none)⟩ :: J9
theorem awe_k17:PA lA bA K9:=awe_k16.more 3000 _ (by kernel_rfl)
def L9:List ME:=⟨46,[vq],none,(i0,none)⟩ :: K9
theorem awe_k18:PA lA bA L9:=awe_k17.more 3000 _ (by kernel_rfl)
def Z9:List ME:=⟨159,[vq,i0,vj,i0],none,(vm,none)⟩ :: L9
theorem awe_k19:PA lA bA Z9:=awe_k18.more 3000 _ (by kernel_rfl)
def X9:List ME:=⟨159,[vq,(i6 1),vj,(i6 1)],none,(n6,none)⟩ :: Z9
theorem awe_k20:PA lA bA X9:=awe_k19.more 3000 _ (by kernel_rfl)
def C9:List ME:=⟨124,[vz,vk],none,(vi,none)⟩ :: X9
theorem awe_k21:PA lA bA C9:=awe_k20.more 3000 _ (by kernel_rfl)
def B9:List ME:=⟨125,[vq,i0,vj,i0],none,(i0,none)⟩ :: C9
theorem awe_k22:PA lA bA B9:=awe_k21.more 3000 _ (by kernel_rfl)
def N9:List ME:=⟨125,[vq,(i6 1),vj,(i6 1)],none,(i0,none)⟩ :: B9
theorem awe_k23:PA lA bA N9:=awe_k22.more 3000 _ (by kernel_rfl)
def M9:List ME:=⟨85,[vz,vk],none,(vt,none)⟩ :: N9
theorem awe_k24:PA lA bA M9:=awe_k23.more 3000 _ (by kernel_rfl)
def awe_M25:List ME:=⟨47,[vz,vk],none,((.tup [t6,i0]),none)⟩ :: M9
theorem awe_k25:PA lA bA awe_M25:=awe_k24.more 3000 _ (by kernel_rfl)
def awe_M26:List ME:=⟨159,[vj,i0,vq,i0],none,(vm,none)⟩ :: awe_M25
theorem awe_k26:PA lA bA awe_M26:=awe_k25.more 3000 _ (by kernel_rfl)
def awe_M27:List ME:=⟨159,[vj,(i6 1),vq,(i6 1)],none,(n6,none)⟩ :: awe_M26
theorem awe_k27:PA lA bA awe_M27:=awe_k26.more 3000 _ (by kernel_rfl)
def awe_M28:List ME:=⟨124,[vk,vz],none,(vi,none)⟩ :: awe_M27
theorem awe_k28:PA lA bA awe_M28:=awe_k27.more 3000 _ (by kernel_rfl)
def awe_M29:List ME:=⟨125,[vj,i0,vq,i0],none,((i6 7),none)⟩ :: awe_M28
theorem awe_k29:PA lA bA awe_M29:=awe_k28.more 3000 _ (by kernel_rfl)
def awe_M30:List ME:=⟨85,[vk,vz],none,((.tup [(.sl false [[i0,i0]]),(i6 7),i0]),none)⟩ :: awe_M29
theorem awe_k30:PA lA bA awe_M30:=awe_k29.more 3000 _ (by kernel_rfl)
def awe_M31:List ME:=⟨47,[vk,vz],none,((.tup [f6,i0]),none)⟩ :: awe_M30
theorem awe_k31:PA lA bA awe_M31:=awe_k30.more 3000 _ (by kernel_rfl)
def awe_M32:List ME:=⟨21,[vj,vq,i0],none,((.tup [t6,f6,i0]),none)⟩ :: awe_M31
theorem awe_k32:PA lA bA awe_M32:=awe_k31.more 3000 _ (by kernel_rfl)
def awe_M33:List ME:=⟨156,[vn],none,((.tup [i0,i0,i0]),none)⟩ :: awe_M32
theorem awe_k33:PA lA bA awe_M33:=awe_k32.more 3000 _ (by kernel_rfl)
def awe_M34:List ME:=⟨121,[vn],none,(i0,none)⟩ :: awe_M33
theorem awe_k34:PA lA bA awe_M34:=awe_k33.more 3000 _ (by kernel_rfl)
def awe_M35:List ME:=⟨122,[vn],none,(vu,none)⟩ :: awe_M34
theorem awe_k35:PA lA bA awe_M35:=awe_k34.more 3000 _ (by kernel_rfl)
def awe_M36:List ME:=⟨84,[vn],none,(vr,none)⟩ :: awe_M35
theorem awe_k36:PA lA bA awe_M36:=awe_k35.more 3000 _ (by kernel_rfl)
def awe_M37:List ME:=⟨46,[vn],none,(i0,none)⟩ :: awe_M36
theorem awe_k37:PA lA bA awe_M37:=awe_k36.more 3000 _ (by kernel_rfl)
def awe_M38:List ME:=⟨159,[vn,i0,vj,i0],none,(vm,none)⟩ :: awe_M37
theorem awe_k38:PA lA bA awe_M38:=awe_k37.more 3000 _ (by kernel_rfl)
def awe_M39:List ME:=⟨159,[vn,(i6 1),vj,(i6 1)],none,(n6,none)⟩ :: awe_M38
theorem awe_k39:PA lA bA awe_M39:=awe_k38.more 3000 _ (by kernel_rfl)
def awe_M40:List ME:=⟨124,[vw,vk],none,(vi,none)⟩ :: awe_M39
theorem awe_k40:PA lA bA awe_M40:=awe_k39.more 3000 _ (by kernel_rfl)
def awe_M41:List ME:=⟨125,[vn,i0,vj,i0],none,(i0,none)⟩ :: awe_M40
theorem awe_k41:PA lA bA awe_M41:=awe_k40.more 3000 _ (by kernel_rfl)
def awe_M42:List ME:=⟨125,[vn,(i6 1),vj,(i6 1)],none,(i0,none)⟩ :: awe_M41
theorem awe_k42:PA lA bA awe_M42:=awe_k41.more 3000 _ (by kernel_rfl)
def awe_M43:List ME:=⟨85,[vw,vk],none,(vt,none)⟩ :: awe_M42
theorem awe_k43:PA lA bA awe_M43:=awe_k42.more 3000 _ (by kernel_rfl)
def awe_M44:List ME:=⟨47,[vw,vk],none,((.tup [t6,i0]),none)⟩ :: awe_M43
theorem awe_k44:PA lA bA awe_M44:=awe_k43.more 3000 _ (by kernel_rfl)
def awe_M45:List ME:=⟨159,[vj,i0,vn,i0],none,(vm,none)⟩ :: awe_M44
theorem awe_k45:PA lA bA awe_M45:=awe_k44.more 3000 _ (by kernel_rfl)
def awe_M46:List ME:=⟨159,[vj,(i6 1),vn,(i6 1)],none,(n6,none)⟩ :: awe_M45
theorem awe_k46:PA lA bA awe_M46:=awe_k45.more 3000 _ (by kernel_rfl)
def awe_M47:List ME:=⟨124,[vk,vw],none,(vi,none)⟩ :: awe_M46
theorem awe_k47:PA lA bA awe_M47:=awe_k46.more 3000 _ (by kernel_rfl)
def awe_M48:List ME:=⟨125,[vj,i0,vn,i0],none,(i0,none)⟩ :: awe_M47
theorem awe_k48:PA lA bA awe_M48:=awe_k47.more 3000 _ (by kernel_rfl)
def awe_M49:List ME:=⟨125,[vj,(i6 1),vn,(i6 1)],none,(i0,none)⟩ :: awe_M48
theorem awe_k49:PA lA bA awe_M49:=awe_k48.more 3000 _ (by kernel_rfl)
def awe_M50:List ME:=⟨85,[vk,vw],none,(vt,none)⟩ :: awe_M49
theorem awe_k50:PA lA bA awe_M50:=awe_k49.more 3000 _ (by kernel_rfl)
def awe_M51:List ME:=⟨47,[vk,vw],none,((.tup [t6,i0]),none)⟩ :: awe_M50
theorem awe_k51:PA lA bA awe_M51:=awe_k50.more 3000 _ (by kernel_rfl)
def awe_M52:List ME:=⟨21,[vj,vn,i0],none,((.tup [t6,t6,i0]),none)⟩ :: awe_M51
theorem awe_k52:PA lA bA awe_M52:=awe_k51.more 3000 _ (by kernel_rfl)
def awe_M53:List ME:=⟨159,[vj,i0,vj,i0],none,(vm,none)⟩ :: awe_M52
theorem awe_k53:PA lA bA awe_M53:=awe_k52.more 3000 _ (by kernel_rfl)
def awe_M54:List ME:=⟨159,[vj,(i6 1),vj,(i6 1)],none,(n6,none)⟩ :: awe_M53
theorem awe_k54:PA lA bA awe_M54:=awe_k53.more 3000 _ (by kernel_rfl)
def awe_M55:List ME:=⟨124,[vk,vk],none,(vi,none)⟩ :: awe_M54
theorem awe_k55:PA lA bA awe_M55:=awe_k54.more 3000 _ (by kernel_rfl)
def awe_M56:List ME:=⟨125,[vj,i0,vj,i0],none,(i0,none)⟩ :: awe_M55
theorem awe_k56:PA lA bA awe_M56:=awe_k55.more 3000 _ (by kernel_rfl)
def awe_M57:List ME:=⟨125,[vj,(i6 1),vj,(i6 1)],none,(i0,none)⟩ :: awe_M56
theorem awe_k57:PA lA bA awe_M57:=awe_k56.more 3000 _ (by kernel_rfl)
def awe_M58:List ME:=⟨85,[vk,vk],none,(vt,none)⟩ :: awe_M57
theorem awe_k58:PA lA bA awe_M58:=awe_k57.more 3000 _ (by kernel_rfl)
def awe_M59:List ME:=⟨47,[vk,vk],none,((.tup [t6,i0]),none)⟩ :: awe_M58
theorem awe_k59:PA lA bA awe_M59:=awe_k58.more 3000 _ (by kernel_rfl)
def awe_M60:List ME:=⟨21,[vj,vj,i0],none,((.tup [t6,t6,i0]),none)⟩ :: awe_M59
theorem awe_k60:PA lA bA awe_M60:=awe_k59.more 3000 _ (by kernel_rfl)
def awe_M61:List ME:=⟨34,[vp],none,(i0,none)⟩ :: awe_M60
theorem awe_k61:PA lA bA awe_M61:=awe_k60.more 3000 _ (by kernel_rfl)
def awe_M62:List ME:=⟨156,[vp],none,((.tup [i0,i0,i0]),none)⟩ :: awe_M61
theorem awe_k62:PA lA bA awe_M62:=awe_k61.more 3000 _ (by kernel_rfl)
def awe_M63:List ME:=⟨121,[vp],none,(i0,none)⟩ :: awe_M62
theorem awe_k63:PA lA bA awe_M63:=awe_k62.more 3000 _ (by kernel_rfl)
def awe_M64:List ME:=⟨122,[vp],none,(vu,none)⟩ :: awe_M63
theorem awe_k64:PA lA bA awe_M64:=awe_k63.more 3000 _ (by kernel_rfl)
def awe_M65:List ME:=⟨84,[vp],none,(vr,none)⟩ :: awe_M64
theorem awe_k65:PA lA bA awe_M65:=awe_k64.more 3000 _ (by kernel_rfl)
def awe_M66:List ME:=⟨46,[vp],none,(i0,none)⟩ :: awe_M65
theorem awe_k66:PA lA bA awe_M66:=awe_k65.more 3000 _ (by kernel_rfl)
def awe_M67:List ME:=⟨159,[vp,i0,vj,i0],none,(vm,none)⟩ :: awe_M66
theorem awe_k67:PA lA bA awe_M67:=awe_k66.more 3000 _ (by kernel_rfl)
def awe_M68:List ME:=⟨159,[vp,(i6 1),vj,(i6 1)],none,(n6,none)⟩ :: awe_M67
theorem awe_k68:PA lA bA awe_M68:=awe_k67.more 3000 _ (by kernel_rfl)
def awe_M69:List ME:=⟨124,[vv,vk],none,(vi,none)⟩ :: awe_M68
theorem awe_k69:PA lA bA awe_M69:=awe_k68.more 3000 _ (by kernel_rfl)
def awe_M70:List ME:=⟨125,[vp,i0,vj,i0],none,(i0,none)⟩ :: awe_M69
theorem awe_k70:PA lA bA awe_M70:=awe_k69.more 3000 _ (by kernel_rfl)
def awe_M71:List ME:=⟨125,[vp,(i6 1),vj,(i6 1)],none,(i0,none)⟩ :: awe_M70
theorem awe_k71:PA lA bA awe_M71:=awe_k70.more 3000 _ (by kernel_rfl)
def awe_M72:List ME:=⟨85,[vv,vk],none,(vt,none)⟩ :: awe_M71
theorem awe_k72:PA lA bA awe_M72:=awe_k71.more 3000 _ (by kernel_rfl)
def awe_M73:List ME:=⟨47,[vv,vk],none,((.tup [t6,i0]),none)⟩ :: awe_M72
theorem awe_k73:PA lA bA awe_M73:=awe_k72.more 3000 _ (by kernel_rfl)
def awe_M74:List ME:=⟨159,[vj,i0,vp,i0],none,(vm,none)⟩ :: awe_M73
theorem awe_k74:PA lA bA awe_M74:=awe_k73.more 3000 _ (by kernel_rfl)
def awe_M75:List ME:=⟨159,[vj,(i6 1),vp,(i6 1)],none,(n6,none)⟩ :: awe_M74
theorem awe_k75:PA lA bA awe_M75:=awe_k74.more 3000 _ (by kernel_rfl)
def awe_M76:List ME:=⟨124,[vk,vv],none,(vi,none)⟩ :: awe_M75
theorem awe_k76:PA lA bA awe_M76:=awe_k75.more 3000 _ (by kernel_rfl)
def awe_M77:List ME:=⟨125,[vj,i0,vp,i0],none,(i0,none)⟩ :: awe_M76
theorem awe_k77:PA lA bA awe_M77:=awe_k76.more 3000 _ (by kernel_rfl)
def awe_M78:List ME:=⟨125,[vj,(i6 1),vp,(i6 1)],none,((i6 2),none)⟩ :: awe_M77
theorem awe_k78:PA lA bA awe_M78:=awe_k77.more 3000 _ (by kernel_rfl)
def awe_M79:List ME:=⟨85,[vk,vv],none,((.tup [(.sl false [[i0,i0],[(i6 1),(i6 1)]]),(i6 2),i0]),none)⟩ :: awe_M78
theorem awe_k79:PA lA bA awe_M79:=awe_k78.more 3000 _ (by kernel_rfl)
def awe_M80:List ME:=⟨47,[vk,vv],none,((.tup [f6,i0]),none)⟩ :: awe_M79
theorem awe_k80:PA lA bA awe_M80:=awe_k79.more 3000 _ (by kernel_rfl)
def awe_M81:List ME:=⟨21,[vj,vp,i0],none,((.tup [t6,f6,i0]),none)⟩ :: awe_M80
theorem awe_k81:PA lA bA awe_M81:=awe_k80.more 3000 _ (by kernel_rfl)
def awe_M82:List ME:=⟨23,[vj,i0,(.sl false [[(i6 1),i0,i0,e6,(i6 2),(.str (.mk #[98])),(i6 1),f6,t6,(i6 2),f6,i0,e6,i0,n6,n6,n6,i0,e6,i0,i0,i0,f6,i0,i0],[(i6 7),(i6 1),i0,e6,i0,e6,i0,f6,f6,i0,f6,i0,e6,i0,n6,n6,n6,i0,e6,i0,(i6 5),i0,f6,i0,i0]])],none,((.tup [(i6 1),i0]),none)⟩ :: awe_M81
theorem awe_k82:PA lA bA awe_M82:=awe_k81.more 3000 _ (by kernel_rfl)
def awe_M83:List ME:=⟨17,[vj,vn],none,((.tup [vl,i0]),none)⟩ :: awe_M82
theorem awe_k83:PA lA bA awe_M83:=awe_k82.more 3000 _ (by kernel_rfl)
def awe_M84:List ME:=⟨19,[vl,vl],none,(t6,none)⟩ :: awe_M83
theorem awe_k84:PA lA bA awe_M84:=awe_k83.more 3000 _ (by kernel_rfl)
def awe_M85:List ME:=⟨25,[(.agg [(i6 1),i0,i0,e6,(i6 2),(.str (.mk #[98])),(i6 1),f6,t6,(i6 2),f6,i0,e6,i0,n6,n6,n6,i0,e6,i0,i0,i0,f6,i0,i0])],none,((.str (.mk #[97,100,100,32,48,32,50,32,98,32,49,32,100,101,102,97,117,108,116])),none)⟩ :: awe_M84
theorem awe_k85:PA lA bA awe_M85:=awe_k84.more 3000 _ (by kernel_rfl)
theorem awe_knows:PA lA bA awe_M85:=awe_k85
abbrev evE (f:FuncId) (args:List AV) (r:AV):Prop:=rD lA bA f args none=some (r,none)
theorem TX:evE 11 [] (.bool true):=awe_knows.run 3000 (by kernel_rfl)
section
open Go Go.RowKit Go.ChangeShapes Go.WideShapes Go.Deep
def uM (P:Program) (r:TypeId->List AV->Prop):List Field->List AV->Prop
 | [],ld=>ld=[]
 | f :: fs,ld=>∃ a b,ld=a++b/\a.length=P.cellsOf f.type/\r f.type a/\uM P r fs b
def ArrT (P:Program) (r:TypeId->List AV->Prop) (e:TypeId):Nat->List AV->Prop
 | 0,ld=>ld=[]
 | n + 1,ld=>∃ a b,ld=a++b/\a.length=P.cellsOf e/\r e a/\ArrT P r e n b
def OH (P:Program):Nat->TypeId->List AV->Prop
 | 0,_,_=>False
 | n + 1,t,ld=>match P.underlying t with
  | some .bool=>∃ b,ld=[.bool b]
  | some (.int k)=>∃ i,ld=[.int k i]/\(Lit.int k i).wf=true
  | some .string=>∃ s,ld=[.str s]/\s.size<=maxLen
  | some (.slice e)=>∃ nl els,ld=[.sl nl els]/\els.length<=maxLen/\els.length * P.bytesOf e<=reachBytes/\(nl=true->els=[])/\∀ x∈els,x.length=P.cellsOf e/\OH P n e x
  | some (.struct fs)=>uM P (OH P n) fs.toList ld
  | some (.array k e)=>ArrT P (OH P n) e k ld
  | _=>False
def fY (P:Program) (ts:List TypeId):Nat->Nat->List Field->Bool
 | off,total,[]=>decide (off=total)
 | off,total,f :: fs=>decide (f.offset=off)&&ts.contains f.type&&fY P ts (off + P.cellsOf f.type) total fs
def mP (P:Program) (ts:List TypeId) (t:TypeId):Bool:=match P.underlying t with
 | some .bool | some (.int _) | some .string=>decide (P.cellsOf t=1)
 | some (.slice e)=>ts.contains e&&decide (0<P.cellsOf e)&&decide (P.cellsOf t=1)
 | some (.struct fs)=>fY P ts 0 (P.cellsOf t) fs.toList
 | some (.array k e)=>ts.contains e&&decide (0<P.cellsOf e)&&decide (k * P.cellsOf e=P.cellsOf t)
 | _=>false
section
variable {H:Type} {enc:TypeId × Value->H} {P:Program} {w:World} {base:Nat} {spare:Nat->Bool} {held:Bool}
theorem B6 {t e:TypeId} {fuel:Nat} {cs:List Value} {x:DataW H × List MemPlace} (ht:P.underlying t=some (.slice e)) (h:DataW.trod enc P w base spare held fuel t cs=some x) :
  (∃ n,fuel=n + 1)/\((cs=[.slice none 0 0]) ∨
  ∃ (a:Addr) (len cap n:Nat) (y:Nat->DataW H × List MemPlace) (D sp:List (DataW H)),cs=[.slice (some a) len cap]/\fuel=n + 1/\len<=cap/\cap<=maxLen/\x.1=.slice D sp/\D.length=len/\(∀ i,i<len->(y i).1∈D) ∧
   ∀ i,i<len->∃ pw,w.cells? base (a.add (i * P.cellsOf e)) (P.cellsOf e)=some pw/\DataW.trod enc P w base spare held n e pw=some (y i)):=by
 refine ⟨?_,?_⟩
 ·cases fuel with
  | zero=>simp [DataW.trod] at h
  | succ n=>exact ⟨n,rfl⟩
 rcases DataW.trod_slice ht h with h0 | ⟨a,len,cap,elems,rest,n,hfu,rfl,rfl,hb,hl,hm,da,gb,hsp,hns⟩
 ·exact Or.inl h0.1
 right;refine ⟨a,len,cap,n,fun i=>elems.getD i (.nil,[]),elems.map (·.1),rest.map (·.1),rfl,hfu,hl,hm,rfl,by simpa using da,fun i hi=>?_,fun i hi=>?_⟩
 ·have e:elems.getD i (.nil,[])=elems[i]'(by omega):=by simp [List.getD,yg (show i<elems.length by omega)]
  show (elems.getD i (.nil,[])).1∈_;rw [e];exact List.mem_map_of_mem (yF _)
 have key:=gb i hi;rw [yg (by omega)] at key;obtain ⟨pw,h1,h2⟩:=y9.1 key;refine ⟨pw,h1,?_⟩;rw [h2];simp [List.getD,yg (show i<elems.length by omega)]
theorem wQ {e:TypeId}:∀ {D:List (DataW H)} {d:DataW H},d∈D->∀ m∈d.weights P e,m∈DataW.weightsAll P e D
 | d0 :: r,d,h,m,hm=>by
  simp only [DataW.weightsAll,yq];rcases yw.1 h with rfl | h
  ·exact .inl hm
  ·exact .inr (wQ h m hm)
def wL (P:Program) (t:TypeId) (d:DataW H):Prop:=∀ m∈d.weights P t,m<=reachBytes
section
variable {t e:TypeId} {D sp:List (DataW H)} (ht:P.underlying t=some (.slice e)) (h:wL P t (.slice D sp))
include t e D sp ht h
theorem n8 {d:DataW H} (hd:d∈D):wL P e d:=fun m hm=>h m (by
 simp only [DataW.weights,ht,yw,yq];exact .inr (.inl (wQ hd m hm)))
theorem light_len:D.length * P.bytesOf e<=reachBytes:=by
 have:=h ((D.length + sp.length) * P.bytesOf e) (by simp [DataW.weights,ht]);exact yB (Y02 _ (by omega)) this
end
theorem light_arr {t e:TypeId} {k:Nat} {D:List (DataW H)} (ht:P.underlying t=some (.array k e)) (h:wL P t (.agg D)) {d:DataW H} (hd:d∈D):wL P e d:=fun m hm=>h m (by
 simp only [DataW.weights,ht];exact wQ hd m hm)
theorem O6 {t:TypeId} {fs:Array Field} {D:List (DataW H)} (ht:P.underlying t=some (.struct fs)) (h:wL P t (.agg D)) {i:Nat} {f:Field} {d:DataW H} (hf:fs.toList[i]?=some f) (hd:D[i]?=some d):wL P f.type d:=fun m hm=>h m (by
 simp only [DataW.weights,ht];exact DataW.weights_mem_each (j:=i) (by rw [yc,hf]; rfl) hd m hm)
theorem p6 {ts:List TypeId} {n:Nat} {cs:List Value}
  (ih:∀ (t:TypeId) (cs:List Value) (x:DataW H × List MemPlace),ts.contains t=true->wL P t x.1->DataW.trod enc P w base spare held n t cs=some x->∃ ld,rB k9 w ld cs/\OH P n t ld/\ld.length=P.cellsOf t) :
  ∀ (fs:List Field) (off:Nat),fY P ts off cs.length fs=true->(∀ f∈fs,∃ x,wL P f.type x.1/\DataW.trod enc P w base spare held n f.type ((cs.drop f.offset).take (P.cellsOf f.type))=some x)->∃ ld,rB k9 w ld (cs.drop off)/\uM P (OH P n) fs ld
 | [],off,h,_=>by
  simp only [fY,decide_eq_true_eq] at h;refine ⟨[],?_,rfl⟩;rw [yn (by omega)];rfl
 | f :: fs,off,h,hx=>by
  simp only [fY,ye,decide_eq_true_eq] at h;obtain ⟨⟨ho,ht⟩,h⟩:=h;obtain ⟨x,ba,hx0⟩:=hx f yp;obtain ⟨ld,h1,h2,ug⟩:=ih _ _ _ ht ba hx0;obtain ⟨bs,h3,h4⟩:=p6 ih fs (off + P.cellsOf f.type) h fun g hg=>hx g (yG _ hg)
  refine ⟨ld++bs,?_,ld,bs,rfl,ug,h2,h4⟩;have:cs.drop off=(cs.drop off).take (P.cellsOf f.type)++cs.drop (off + P.cellsOf f.type):=by rw [<- List.drop_drop,Y05]
  rw [this];rw [ho] at h1;exact pE h1 h3
theorem T9 {e:TypeId} {n:Nat} {cs:List Value} (f:∀ i:Nat,i * P.cellsOf e<cs.length->∃ ld,rB k9 w ld ((cs.drop (i * P.cellsOf e)).take (P.cellsOf e))/\OH P n e ld/\ld.length=P.cellsOf e) (hp:0<P.cellsOf e) :
  ∀ (m i:Nat),(i + m) * P.cellsOf e=cs.length->∃ ld,rB k9 w ld (cs.drop (i * P.cellsOf e))/\ArrT P (OH P n) e m ld
 | 0,i,h=>by
  refine ⟨[],?_,rfl⟩;rw [yn (by simp at h; omega)];rfl
 | m + 1,i,h=>by
  have h1:(i + 1 + m) * P.cellsOf e=cs.length:=by rw [<- h]; congr 1; omega
  have hs:(i + 1) * P.cellsOf e=i * P.cellsOf e + P.cellsOf e:=yM i _;have ba:i * P.cellsOf e<cs.length:=by
   have:(i + 1) * P.cellsOf e<=(i + (m + 1)) * P.cellsOf e:=Y02 _ (by omega);omega
  obtain ⟨ld,g1,g2,g2'⟩:=f i ba;obtain ⟨av2,g3,g4⟩:=T9 f hp m (i + 1) h1;refine ⟨ld++av2,?_,ld,av2,rfl,g2',g2,g4⟩;have:cs.drop (i * P.cellsOf e)=(cs.drop (i * P.cellsOf e)).take (P.cellsOf e)++cs.drop ((i + 1) * P.cellsOf e):=by rw [hs,<- List.drop_drop,Y05]
  rw [this];exact pE g1 g3
theorem lF {av:Av}:∀ {l:List AV} {us:List Value},rB av w l us->l.length=us.length
 | [],us,h=>by simp only [rB] at h; subst h; rfl
 | a :: r,us,h=>by
  simp only [rB] at h;obtain ⟨u,db,rfl,_,_,h⟩:=h;simp [lF h]
theorem j5 {ts:List TypeId} (hg:ts.all (mP P ts)=true):∀ (n:Nat) (t:TypeId) (cs:List Value) (x:DataW H × List MemPlace),ts.contains t=true->wL P t x.1->DataW.trod enc P w base spare held n t cs=some x->∃ ld,rB k9 w ld cs/\OH P n t ld/\ld.length=P.cellsOf t
 | 0,t,cs,x,_,_,hx=>by simp [DataW.trod] at hx
 | n + 1,t,cs,x,we,hlw,hx=>by
  have h:mP P ts t=true:=y8.1 hg t (by simpa using we);unfold mP at h;split at h
  ·rename_i ht;simp only [decide_eq_true_eq] at h;obtain ⟨b,rfl,_⟩:=DataW.trod_bool ht hx;exact ⟨[.bool b],⟨_,_,rfl,rfl,rfl,rfl⟩,by simp only [OH,ht]; exact ⟨b,rfl⟩,by simp [h]⟩
  ·rename_i kk ht;simp only [decide_eq_true_eq] at h;obtain ⟨b,rfl,_,hw⟩:=DataW.trod_int ht hx;exact ⟨[.int kk b],⟨_,_,rfl,rfl,rfl,rfl⟩,by simp only [OH,ht]; exact ⟨b,rfl,hw⟩,by simp [h]⟩
  ·rename_i ht;simp only [decide_eq_true_eq] at h;obtain ⟨b,rfl,_,hw⟩:=DataW.trod_string ht hx;exact ⟨[.str b],⟨_,_,rfl,rfl,rfl,rfl⟩,by simp only [OH,ht]; exact ⟨b,rfl,hw⟩,by simp [h]⟩
  ·rename_i e ht;simp only [ye,decide_eq_true_eq] at h;obtain ⟨⟨he,pb⟩,dk⟩:=h;rcases (B6 ht hx).2 with rfl | ⟨a,len,cap,n',y,D,sp,rfl,hn,sb,aw,hxe,hDl,hyD,hi⟩
   ·exact ⟨[.sl true []],⟨_,_,rfl,⟨none,0,rfl,yf _,(fun _ h=>by cases h),fun _=>⟨rfl,rfl,rfl⟩,fun h=>by cases h⟩,rfl,rfl⟩,by simp only [OH,ht]; exact ⟨true,[],rfl,Nat.zero_le _,by simp,fun _=>rfl,(fun _ h=>by cases h)⟩,by simp [dk]⟩
   ·have wn:n'=n:=by omega
    subst wn;rw [hxe] at hlw;have fk:=light_len ht hlw;rw [hDl] at fk;have ja:∀ i:Nat,∃ ld:List AV,i<len->((ld.length=P.cellsOf e/\OH P n' e ld)/\∃ us,rB k9 w ld us/\us.length=P.cellsOf e/\∀ j,j<P.cellsOf e->w.cell? ((a.add (i * P.cellsOf e)).add j)=us[j]?):=fun i=>by
     by_cases ba:i<len
     ·obtain ⟨us,dk,hc2⟩:=hi i (by omega);obtain ⟨ld,h1,h2,ug⟩:=j5 hg n' e us _ he (n8 ht hlw (hyD i ba)) hc2;obtain ⟨_,g1,g2⟩:=World.cells?_some dk;exact ⟨ld,fun _=>⟨⟨ug,h2⟩,us,h1,g1,g2⟩⟩
     ·exact ⟨[],fun h=>absurd h ba⟩
    have ko:=Classical.axiomOfChoice ja;obtain ⟨f,hf⟩:=ko;have xb:∀ ld∈(List.range len).map f,ld.length=P.cellsOf e/\OH P n' e ld:=fun ld ha=>by
     obtain ⟨i,bd,rfl⟩:=yQ.1 ha;exact (hf i (List.mem_range.1 bd)).1
    refine ⟨[.sl false ((List.range len).map f)],⟨_,_,rfl,⟨some a,cap,by simp,by simpa using sb,fun x hx y hy=>((xb x hx).1).trans ((xb y hy).1).symm,(fun h=>by cases h),fun _=>⟨fun h=>(by cases h),fun h0=>?_⟩⟩,rfl,rfl⟩,by simp only [OH,ht]; exact ⟨false,_,rfl,by simp; omega,by simpa using fk,(fun h=>by cases h),xb⟩,by simp [dk]⟩;have fh:0<len:=by simpa using h0
    have hspot:∃ b off,a=⟨b,off,none⟩:=by
     obtain ⟨_,us,_,g1,g2⟩:=hf 0 fh;have g3:=g2 0 pb;simp only [Nat.zero_mul,Addr.add,if_true] at g3;rw [yg (by omega)] at g3;obtain ⟨b,off,sp⟩:=a;cases sp with
     | none=>exact ⟨b,off,rfl⟩
     | some q =>
      simp only [World.cell?] at g3;split at g3
      ·simp at g3
      ·cases g3
    obtain ⟨b,off,rfl⟩:=hspot;refine ⟨b,off,rfl,c9 (fun x hx=>(xb x hx).1) fun i ld px=>?_⟩;rw [yc] at px;obtain ⟨i',bd,rfl⟩:=yl.1 px;rw [yh] at bd;obtain ⟨ba,kh⟩:=bd;simp at ba kh;subst kh;obtain ⟨_,us,g0,g1,g2⟩:=hf i ba;refine zJ g0 fun j u hu=>⟨?_,fun h=>h⟩
    have hj:j<P.cellsOf e:=by rw [<- g1]; exact (yh.1 hu).1
    have:=g2 j hj;rw [Addr.add_lit,Addr.add_lit,hu] at this;exact this
  ·rename_i fs ht;obtain ⟨xs,n',hn,rfl,da,hxl,hf⟩:=DataW.trod_struct ht hx;have wn:n'=n:=by omega
   subst wn;rw [<- da] at h;obtain ⟨ld,h1,h2⟩:=p6 (cs:=cs) (n:=n') (fun t cs x=>j5 hg n' t cs x) fs.toList 0 h fun g hg=>by
    obtain ⟨i,hi,he⟩:=List.getElem_of_mem hg;have bd:i<fs.size:=by simpa using hi
    have h1:=hf i g (by rw [<- he]; simp [bd]);refine ⟨xs[i]'(by omega),O6 ht hlw (i:=i) (f:=g) (by rw [<- he]; simp [bd]) ?_,by rw [h1]; exact yg (by omega)⟩;rw [yc,yg (by omega)];rfl
   rw [yY] at h1;exact ⟨ld,h1,by simp only [OH,ht]; exact h2,(lF h1).trans da⟩
  ·rename_i k e ht;simp only [ye,decide_eq_true_eq] at h;obtain ⟨⟨he,pb⟩,dk⟩:=h;obtain ⟨xs,m,hm,rfl,da,hxl,hf⟩:=DataW.trod_array ht hx;have ae:m=n:=by omega
   subst ae;obtain ⟨ld,h1,h2⟩:=T9 (cs:=cs) (n:=m) (e:=e) (fun i hi=>by
    have hik:i<k:=by
     rw [da,<- dk] at hi;exact Nat.lt_of_mul_lt_mul_right hi
    have h1:=hf i hik;rw [yg (by omega)] at h1;exact j5 hg m e _ _ he (light_arr ht hlw (List.mem_map_of_mem (yF _))) h1) pb k 0 (by rw [yr,da,dk])
   rw [Nat.zero_mul,yY] at h1;exact ⟨ld,h1,by simp only [OH,ht]; exact h2,(lF h1).trans da⟩
  ·cases h
def ParT (P:Program) (t:TypeId) (a:AV):Prop:=∃ n,(nL P t=true/\∃ cs,a=.agg cs/\OH P n t cs)\/(nL P t=false/\OH P n t [a])
def j9 (P:Program):List TypeId->List AV->Prop
 | [],xs=>xs=[]
 | t :: ts,xs=>∃ a r,xs=a :: r/\ParT P t a/\j9 P ts r
theorem par_T {ts:List TypeId} (hg:ts.all (mP P ts)=true) {t:TypeId} {r:Reach} {b0:Nat} {v:Value} {d:DataW H} {p:List MemPlace} (hs:ts.contains t=true) (hv:Value.okWide P w r b0 t v) (hlw:wL P t d) (h:DataW.Trod enc P w base spare held t v d p) :
  ∃ a,GA Ix.none k9 k9 w a v/\ParT P t a:=by
 obtain ⟨fuel,hf⟩:=h;obtain ⟨xs,h1,h2,_⟩:=j5 hg fuel t _ _ hs hlw hf;have one:∀ (u:Value),v=u->v.cells.toList=[u]->nL P t=false->(∀ a,OH P fuel t [a]->a.leaf=true)->∃ a,GA Ix.none k9 k9 w a v/\ParT P t a:=fun u hu hc hw ru=>by
  rw [hc] at h1;have hl:=lF h1
  match xs,hl with
  | [a],_ =>
   simp only [rB] at h1;obtain ⟨u',_,e,h0,_,_⟩:=h1;injection e with e;subst e;exact ⟨a,by rw [hu]; exact TV h0 (ru a h2),fuel,.inr ⟨hw,h2⟩⟩
 cases fuel with
 | zero=>exact h2.elim
 | succ k =>
  have ku:mP P ts t=true:=y8.1 hg t (by simpa using hs);unfold mP at ku;split at ku
  ·rename_i ht;obtain ⟨b,rfl⟩:=okWide_bool ht hv;refine one _ rfl rfl (by simp [nL,ht]) fun a ha=>?_
   simp only [OH,ht] at ha;obtain ⟨b',e⟩:=ha;injection e with e;subst e;rfl
  ·rename_i kk ht;obtain ⟨b,rfl⟩:=okWide_int ht hv;refine one _ rfl rfl (by simp [nL,ht]) fun a ha=>?_
   simp only [OH,ht] at ha;obtain ⟨b',e,_⟩:=ha;injection e with e;subst e;rfl
  ·rename_i ht;obtain ⟨b,rfl⟩:=okWide_string ht hv;refine one _ rfl rfl (by simp [nL,ht]) fun a ha=>?_
   simp only [OH,ht] at ha;obtain ⟨b',e,_⟩:=ha;injection e with e;subst e;rfl
  ·rename_i e' ht;obtain ⟨A,n,c,rfl⟩:=okWide_slice ht hv;refine one _ rfl rfl (by simp [nL,ht]) fun a ha=>?_
   simp only [OH,ht] at ha;obtain ⟨nl,els,e,_⟩:=ha;injection e with e;subst e;rfl
  ·rename_i fs ht;have:∃ cs,v=.agg cs:=by
    simp only [Value.okWide,ht] at hv;obtain ⟨cs,hv,_⟩:=hv;exact ⟨cs,hv⟩
   obtain ⟨cs,rfl⟩:=this;exact ⟨.agg xs,⟨cs,rfl,cD h1⟩,k + 1,.inl ⟨by simp [nL,ht],xs,rfl,h2⟩⟩
  ·rename_i n' e' ht;have:∃ cs,v=.agg cs:=by
    simp only [Value.okWide,ht] at hv;obtain ⟨cs,hv,_⟩:=hv;exact ⟨cs,hv⟩
   obtain ⟨cs,rfl⟩:=this;exact ⟨.agg xs,⟨cs,rfl,cD h1⟩,k + 1,.inl ⟨by simp [nL,ht],xs,rfl,h2⟩⟩
  ·cases ku
theorem H7 {T:List TypeId} (hg:T.all (mP P T)=true) {r:Reach} {b0:Nat}:∀ {ts:List TypeId} {vs:List Value} {ds:List (DataW H)} {p:List MemPlace},DataW.TrodAll enc P w base spare held ts vs ds p->(∀ (j:Nat) t v,ts[j]?=some t->vs[j]?=some v->Value.okWide P w r b0 t v)->(∀ m∈DataW.weightsEach P ts ds,m<=reachBytes)->ts.all (fun t=>T.contains t)=true →
  ∃ xs,sG Ix.none k9 k9 w xs vs/\j9 P ts xs
 | [],vs,ds,p,h,_,_,_=>by
  cases vs with
  | nil=>exact ⟨[],rfl,rfl⟩
  | cons=>cases ds <;> exact h.elim
 | t :: ts,vs,ds,p,h,hv,hw,hs=>by
  obtain ⟨v,mw,d,ds',p',q',rfl,rfl,rfl,h0,h⟩:=trodAll_cons h;simp only [DataW.weightsEach,yq] at hw;simp only [List.all_cons,ye] at hs;obtain ⟨a,h1,h2⟩:=par_T hg hs.1 (hv 0 t v rfl rfl) (fun m hm=>hw m (.inl hm)) h0;obtain ⟨xs,h3,h4⟩:=H7 hg h (fun j t' v' e e'=>hv (j + 1) t' v' (by simpa using e) (by simpa using e')) (fun m hm=>hw m (.inr hm)) hs.2;exact ⟨a :: xs,⟨v,mw,rfl,h1,h3⟩,a,xs,rfl,h2,h4⟩
end
end
section
open Go.ChangeShapes Go.WideShapes Go.ChangeAt Go.RowKit
theorem own:ownKnob Tryz.prog.godebug=none:=by kernel_rfl
theorem laidOut:laidOutB Tryz.prog=true:=by kernel_rfl
theorem xR {H:Type} {enc:TypeId × Value->H} {P:Program} {f:Func} {s:ChangeSpec} {apart fresh dx:Bool} {W W':World} {args:Array Value} {v:Value} {ds gs:List (DataW H)} {before pa pv:List MemPlace}
  (hW:DataW.Whole enc P f.params.toList s.vars apart W args.toList ds gs before)
  (wi:∀ (b:Nat) (sp:Nat->Bool) (hd:Bool),DataW.TrodAll enc P W' b sp hd f.resultTypes.toList (v.resultList f.resultTypes.size) (s.fn H (ds++gs)).results [])
  (eb:DataW.TrodAll enc P W' 0 (fun b=>decide (b<W.heap.size)) true f.params.toList args.toList (s.fn H (ds++gs)).args pa)
  (hvars:DataW.TrodVars enc P W' (fun b=>decide (b<W.heap.size)) s.vars (s.fn H (ds++gs)).vars pv)
  (hb:Below W.heap.size W W'):s.post enc P f apart fresh dx false W args v W' :=
 ⟨ds,gs,before,[],pa,pv,hW,wi _ _ _,eb,hvars,hb.frame _,fun h=>by cases h⟩
end
abbrev joinA (P:Program) (f:FuncId) (fn:Func) (s:ChangeSpec) (c:OpenClaim):Bool:=(c.wf (OpenSpec.ofChange s)&&laidOutB P&&mapsRowed P&&fn.params.all (P.readableRec ·)&&namedTie P c.named s.vars&&(c.stops == [])&&(P.stops == [])&&(c.knobs == [])&&(P.stopKnobs == []))
abbrev joinB (P:Program) (f:FuncId) (fn:Func) (s:ChangeSpec) (c:OpenClaim):Bool:=((c.inPlace == P.inPlace f)&&(c.unfollowed == P.unfollowed f))
abbrev joinC (P:Program) (f:FuncId) (fn:Func) (s:ChangeSpec) (c:OpenClaim):Bool:=((c.recurses == P.recurses f)&&(c.named == P.varsNamed f))
abbrev joinD (P:Program) (f:FuncId) (fn:Func) (s:ChangeSpec) (c:OpenClaim):Bool:=((c.maps == (fn.params.toList++s.plain.varTypes P).any (P.mapsRec ·))&&(c.ifaces == (fn.params.toList++s.plain.varTypes P).any (P.ifacesRec ·))&&(c.mapsOut == P.mapsAmong fn.resultTypes.toList)&&(c.loops == (fn.params.toList++s.plain.varTypes P).any (P.loopsFrom ·))&&(c.wideKeys == (fn.params.toList++s.plain.varTypes P++fn.resultTypes.toList).any (P.wideKeysFrom ·))&&s.vars.all (P.varReadable ·)&&fn.resultTypes.all (fun t=>P.readableRec t&&decide (t<P.types.size))&&(c.ifacesOut == fn.resultTypes.toList.any (P.ifacesRec ·))&&(c.loopsOut == fn.resultTypes.toList.any (P.loopsFrom ·))&&(c.plainKeys == P.plainKeys)&&c.shortTexts.isNone&&P.stopsHeard)
abbrev joinE (P:Program) (f:FuncId) (fn:Func) (s:ChangeSpec) (c:OpenClaim):Bool:=P.mayEnter
abbrev joinF (P:Program) (f:FuncId) (fn:Func) (s:ChangeSpec) (c:OpenClaim):Bool:=(c.lifted == P.liftsFinal)
abbrev joinG (P:Program) (f:FuncId) (fn:Func) (s:ChangeSpec) (c:OpenClaim):Bool:=((P.make == some c.make)&&(c.kinds == (if c.domain.isEmpty then [] else fn.params.toList.map fun t=>match P.underlying t with | some (.int k)=>some k | _=>none))&&(c.pinned == c.pinnedBy)&&(c.veiled == (fn.params.toList++s.plain.varTypes P++fn.resultTypes.toList).any (P.veiledRec ·))&&c.veiledFits P fn.params.toList (fn.params.toList++s.plain.varTypes P++fn.resultTypes.toList))
theorem T2 {P:Program} {f:FuncId} {fn:Func} {s:ChangeSpec} {c:OpenClaim} (h1:joinA P f fn s c=true) (h2:joinB P f fn s c=true) (ug:joinC P f fn s c=true) (h3:joinD P f fn s c=true) (h4:joinE P f fn s c=true) (h5:joinF P f fn s c=true) (h6:joinG P f fn s c=true):joinedFacts P f fn s c=true:=by
 have e:joinedFacts P f fn s c=((c.wf (OpenSpec.ofChange s)&&laidOutB P&&mapsRowed P&&fn.params.all (P.readableRec ·)&&namedTie P c.named s.vars&&(c.stops == [])&&(P.stops == [])&&(c.knobs == [])&&(P.stopKnobs == []))&&(((c.inPlace == P.inPlace f)&&(c.unfollowed == P.unfollowed f))&&(((c.recurses == P.recurses f)&&(c.named == P.varsNamed f))&&(((c.maps == (fn.params.toList++s.plain.varTypes P).any (P.mapsRec ·))&&(c.ifaces == (fn.params.toList++s.plain.varTypes P).any (P.ifacesRec ·))&&(c.mapsOut == P.mapsAmong fn.resultTypes.toList)&&(c.loops == (fn.params.toList++s.plain.varTypes P).any (P.loopsFrom ·))&&(c.wideKeys == (fn.params.toList++s.plain.varTypes P++fn.resultTypes.toList).any (P.wideKeysFrom ·))&&s.vars.all (P.varReadable ·)&&fn.resultTypes.all (fun t=>P.readableRec t&&decide (t<P.types.size))&&(c.ifacesOut == fn.resultTypes.toList.any (P.ifacesRec ·))&&(c.loopsOut == fn.resultTypes.toList.any (P.loopsFrom ·))&&(c.plainKeys == P.plainKeys)&&c.shortTexts.isNone&&P.stopsHeard)&&(P.mayEnter&&((c.lifted == P.liftsFinal)&&((P.make == some c.make)&&(c.kinds == (if c.domain.isEmpty then [] else fn.params.toList.map fun t=>match P.underlying t with | some (.int k)=>some k | _=>none))&&(c.pinned == c.pinnedBy)&&(c.veiled == (fn.params.toList++s.plain.varTypes P++fn.resultTypes.toList).any (P.veiledRec ·))&&c.veiledFits P fn.params.toList (fn.params.toList++s.plain.varTypes P++fn.resultTypes.toList)))))))):=by
  simp only [joinedFacts,Bool.and_assoc];rfl
 dsimp only [joinA,joinB,joinC,joinD,joinE,joinF,joinG] at h1 h2 ug h3 h4 h5 h6;rw [e,h1,h2,ug,h3,h4,h5,h6];rfl
end Go.Proofs.YtbhbeakhognieaaGreatDoor
