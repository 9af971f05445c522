/- A part of the proof. -/
import Derived.Test.YtbhbeakhognieaaGreatDoorVb
import Derived.LoopN
import Derived.Deep.Slices
import Derived.Deep.Fields
import Derived.ChangeSame
import Derived.OpenShut
import Derived.Carry
import Derived.ChangeOld
import Derived.Test.YtbhbeakhognieaaGreatDoorChecked
import Derived.Lib.Builder
import Derived.Lib.UnsafeStr
import Derived.Shelf.RegionOpenPlain
import Derived.SizedLaws
import Derived.ProofKit
import Derived.JoinedCond
set_option linter.all false
set_option maxRecDepth 100000
set_option maxHeartbeats 8000000
open Option renaming bind_some → U, bind_eq_some_iff → y0, map_eq_some_iff → y8
open List renaming map_map → J, all_eq_true → y5, length_append → y9, length_take → yc, length_drop → yg, mem_cons_self → yh, flatten_cons → yi, getElem?_drop → yj, getElem?_eq_some_iff → yk, getElem?_map → yl, getElem?_take → ym, getElem?_eq_getElem → yn, map_congr_left → yo, mem_cons_of_mem → yr, size_toArray → yu, length_map → yv, length_cons → yz, drop_zero → yC, drop_eq_nil_of_le → yD, drop_eq_getElem_cons → yI
open Nat renaming le_refl → y6, zero_add → yb, le_trans → yp, succ_mul → yt
open Bool renaming and_eq_true → y7, false_eq_true → yq
open Array renaming getD_eq_getD_getElem? → yG
namespace Go.Proofs.YtbhbeakhognieaaGreatDoor
open Go
section
open Go Go.RowKit
section
variable {P:Program} {O:OB} {nt B:Nat} {F0:DH} {ga:Av} {w0:World} {s s':tA} {a:Act} {w w':World} {call:OA} {lp:LH}
def exOf:Ex->Exit
 | .nrm=>.normal
 | .exit id=>.exit id
 | .ret=>.ret
def HX (P:Program) (O:OB) (N:Nat) (lp:B6):Prop :=
 ∀ (boxes:List Nat) (nt B:Nat) (F0:DH) (ga:Av) (w0:World) (code:Code) (b:C) (s:tA) (k:Ex->tA->Option RV) (r:RV) (a:Act) (w:World) (Q:Exit->Act->World->Prop),comp P boxes nt code=some b->lp b s k=some r->fB P O nt B F0 ga w0 (fun _=>False) s a w →
  (∀ e s' a' w',fB P O nt B F0 ga w0 (fun _=>False) s' a' w'->k e s'=some r->Q (exOf e) a' w')->Code.rounds P code Q N a w
theorem UB (hm:P.follows .mixedOrders=true) (oa:∀ f args S r,call f args S=some r->EA P O f args S r) {N:Nat} (dj:HX P O N lp.l) (oe:bP P O lp.h) {boxes:List Nat} :
  ∀ (code:Code) (c:C) (s:tA) (k:Ex->tA->Option RV) (r:RV) (a:Act) (w:World) (Q:Exit->Act->World->Prop),comp P boxes nt code=some c->c.run call lp s k=some r->fB P O nt B F0 ga w0 (fun _=>False) s a w →
   (∀ e s' a' w',fB P O nt B F0 ga w0 (fun _=>False) s' a' w'->k e s'=some r->Q (exOf e) a' w')->code.wp P Q a w
 | .skip,c,s,k,r,a,w,Q,hc,hr,R,hk=>by
  injection hc with hc;subst hc;exact wp_skip (hk .nrm s a w R hr)
 | .seq x y,c,s,k,r,a,w,Q,hc,hr,R,hk=>by
  unfold comp at hc;split at hc
  ·rename_i cx cy hx hy;injection hc with hc;subst hc;refine wp_seq (UB hm oa dj oe x cx s _ r a w _ hx hr R fun e s' a' w' R' he=>?_);cases e with
   | nrm=>exact UB hm oa dj oe y cy s' k r a' w' Q hy he R' hk
   | exit id=>exact hk _ _ _ _ R' he
   | ret=>exact hk _ _ _ _ R' he
  ·cases hc
 | .region id ops draw,c,s,k,r,a,w,Q,hc,hr,R,hk=>by
  unfold comp at hc;split at hc
  ·rename_i cs ig;split at hc
   ·rename_i sa;injection hc with hc;subst hc;simp only [y7,Bool.or_eq_true] at sa;simp only [C.run] at hr;exact sR hm oa oe ig sa.1 (fun h=>by rcases sa.2 with h' | h'; rw [h] at h'; cases h'; exact h') R hr fun s' a' w' R' rf=>hk .nrm _ _ _ R' rf
   ·cases hc
  ·cases hc
 | .cond x t e,c,s,k,r,a,w,Q,hc,hr,R,hk=>by
  unfold comp at hc;split at hc
  ·rename_i cx ct ce hx ht he;injection hc with hc;subst hc;simp only [C.run] at hr;split at hr
   ·rename_i b hb;have hv:a.eval x=.bool b:=by
     obtain ⟨ι,Θ,R⟩:=R;have:=(R.opd hx).1
     rwa [hb,AA] at this
    cases b with
    | true=>exact wp_cond_true hv (UB hm oa dj oe t ct s k r a w Q ht (by simpa using hr) R hk)
    | false=>exact wp_cond_false hv (UB hm oa dj oe e ce s k r a w Q he (by simpa using hr) R hk)
   ·cases hr
  ·cases hc
 | .block id b,c,s,k,r,a,w,Q,hc,hr,R,hk=>by
  unfold comp at hc;obtain ⟨cb,hb,rfl⟩:=y8.1 hc;refine wp_block (UB hm oa dj oe b cb s _ r a w _ hb hr R fun e s' a' w' R' he=>?_);cases e with
  | nrm=>exact hk _ _ _ _ R' he
  | ret=>exact hk _ _ _ _ R' he
  | exit j =>
   simp only at he;show Exit.inBlock id Q (.exit j) a' w';unfold Exit.inBlock;split at he
   ·rename_i e; simp only [e,if_true]; exact hk _ _ _ _ R' he
   ·rename_i e; simp only [e,if_false]; exact hk _ _ _ _ R' he
 | .loop b,c,s,k,r,a,w,Q,hc,hr,R,hk=>by
  unfold comp at hc;obtain ⟨cb,hb,rfl⟩:=y8.1 hc;exact wp_loop_rounds N (dj boxes nt B F0 ga w0 b cb s k r a w Q hb hr R hk)
 | .exit id,c,s,k,r,a,w,Q,hc,hr,R,hk=>by
  injection hc with hc;subst hc;exact wp_exit (hk (.exit id) s a w R hr)
 | .ret,c,s,k,r,a,w,Q,hc,hr,R,hk=>by
  injection hc with hc;subst hc;exact wp_ret (hk .ret s a w R hr)
 | .scope b,c,s,k,r,a,w,Q,hc,hr,R,hk=>by
  unfold comp at hc;refine wp_scope_straight (UB hm oa dj oe b c s k r a w _ hc hr R fun e s' a' w' R' he=>?_);have:=hk _ _ _ _ R' he;cases e <;> exact this
 | .rangeFunc ..,_,_,_,_,_,_,_,hc,_,_,_=>by cases hc
 | .label _,_,_,_,_,_,_,_,hc,_,_,_=>by cases hc
 | .goto _,_,_,_,_,_,_,_,hc,_,_,_=>by cases hc
 | .refuse _,_,_,_,_,_,_,_,hc,_,_,_=>by cases hc
theorem XZ {ι:Ix} {av:Av} {x:AV} {v:Value} (h:nA ι av (fun _ _=>False) w x v) (hx:x.free=true):xB av w x v:=by
  cases x <;> first
    | exact h
    | (simp [AV.free,AV.free0] at hx; done)
    | (obtain ⟨us,hv,hc⟩:=h
       exact ⟨us,hv,HC hc fun y hy=>y5.1 hx y hy⟩)
theorem sN {av:Av}:∀ {xs:List AV} {us:List Value},JF av w xs us->us.length=xs.length
 | [],_,h=>by simp only [JF] at h; subst h; rfl
 | x :: r,_,h=>by
  simp only [JF] at h;obtain ⟨u,na,rfl,_,h⟩:=h;simp [sN h]
theorem JK {p:Nat} {av:Av}:∀ {xs:List AV} {us:List Value},BE p av w xs us->us.length=xs.length
 | [],_,h=>by simp only [BE] at h; subst h; rfl
 | x :: r,_,h=>by
  simp only [BE] at h;obtain ⟨u,na,rfl,_,h⟩:=h;simp [JK h]
def RG (ι:Ix) (av avb:Av) (w:World):List AV->List Value->Prop
 | [],us=>us=[]
 | x :: r,us=>∃ u na,us=u :: na/\nA ι av avb w x u/\RG ι av avb w r na
theorem nA.toRep {ι:Ix} {av wa avb:Av} {x:AV} {v:Value} (h:nA ι av avb w x v) (hx:x.free=true) (ub:∀ b o,wa b o->av b o):xB wa w x v :=
 xB.held (xA.less ub) _ _ (XZ (EO (ι':=ι) h hx) hx)
theorem RG.toT {ι:Ix} {av wa avb:Av} (ub:∀ b o,wa b o->av b o):∀ {xs:List AV} {us:List Value},RG ι av avb w xs us->(∀ v∈xs,v.free=true)->JF wa w xs us
 | [],_,h,_=>h
 | x :: r,_,h,hf=>by
  simp only [RG] at h;obtain ⟨u,na,rfl,h0,h⟩:=h;exact ⟨u,na,rfl,h0.toRep (hf x yh) ub,h.toT ub fun v hv=>hf v (yr _ hv)⟩
theorem FT {t n:Nat} {x:AV} (h:(ID t n x).isObj=true):x=.ptr t n 0:=by
 cases x with
 | ptr t' n' o =>
  simp only [ID] at h;split at h
  ·rename_i e; obtain ⟨rfl,rfl,rfl⟩:=e; rfl
  ·cases h
 | _=>cases h
theorem IS {t n:Nat} {x:AV} (h:(ID t n x).free=true):ID t n x=x:=by
 cases x with
 | ptr t' n' o =>
  simp only [ID] at h;split at h <;> cases h
 | _=>rfl
theorem RG.toO {ι:Ix} {av wa avb:Av} {t n p:Nat} (hp:ι t n=some p) (ub:∀ b o,wa b o->av b o):∀ {xs:List AV} {us:List Value},RG ι av avb w xs us->(∀ v∈xs,((ID t n v).free||(ID t n v).isObj)=true)->BE p wa w (xs.map (ID t n)) us
 | [],_,h,_=>h
 | x :: r,_,h,hf=>by
  simp only [RG] at h;obtain ⟨u,na,rfl,h0,h⟩:=h;refine ⟨u,na,rfl,?_,h.toO hp ub fun v hv=>hf v (yr _ hv)⟩;have h1:=hf x yh;unfold eM;split
  ·rename_i ho;have:=FT ho;subst this;obtain ⟨b,hb,hv⟩:=h0;rw [hp] at hb;injection hb with hb;rw [hv,hb]
  ·rename_i ho;have kw:(ID t n x).free=true:=by
    rcases Bool.or_eq_true_iff.1 h1 with h | h
    ·exact h
    ·exact absurd h ho
   have wk:=IS kw;rw [wk] at kw ⊢;exact h0.toRep kw ub
theorem RG.frz {D:Nat->Prop} {ι:Ix} {Θ:tE} (R:DA P O nt B F0 ga w0 D s a w ι Θ):∀ {xs:List AV} {us:List Value},RG ι (JA ga ι Θ) (ZA ι Θ) w xs us->RG ι (XT s (JA ga ι Θ) ι) (ZA ι Θ) w (xs.map (AV.frz s)) us
 | [],_,h=>h
 | x :: r,_,h=>by
  simp only [RG] at h;obtain ⟨u,na,rfl,h0,h⟩:=h;exact ⟨u,na,rfl,h0.frz R,h.frz R⟩
def fG (us:List Value):Value:=if h:us.toArray.size=1 then us.toArray[0] else .tuple us.toArray
theorem sP {av:Av}:∀ {xs:List AV} {us:List Value},JF av w xs us->xB av w (xS xs) (fG us)
 | [],us,h=>by simp only [JF] at h; subst h; exact ⟨#[],rfl,rfl⟩
 | [x],us,h=>by
  simp only [JF] at h;obtain ⟨u,na,rfl,h0,rfl⟩:=h;exact h0
 | x :: y :: r,us,h=>by
  have hl:=sN h;have:¬ us.toArray.size=1:=by simp; simp at hl; omega
  unfold fG;rw [dif_neg this];exact ⟨_,rfl,h⟩
theorem xX {p:Nat} {av:Av}:∀ {xs:List AV} {us:List Value},BE p av w xs us->(∀ v∈xs,(v.free||v.isObj)=true)->JS p av w (xS xs) (fG us)
 | [],us,h,_=>by simp only [BE] at h; subst h; exact ⟨#[],rfl,rfl⟩
 | [x],us,h,hf=>by
  simp only [BE] at h;obtain ⟨u,na,rfl,h0,rfl⟩:=h;have:=hf x yh;cases x with
  | tup vs=>cases this
  | _=>exact h0
 | x :: y :: r,us,h,_=>by
  have hl:=JK h;have:¬ us.toArray.size=1:=by simp; simp at hl; omega
  unfold fG;rw [dif_neg this];exact ⟨_,rfl,h⟩
def cG (tmps:Array Value):ResultVar->Sem Value
 | .tmp t=>pure (tmps.getD t undef)
 | .cell b t=>do loadVar t (<- asAddr (tmps.getD b undef))
theorem fO {D:Nat->Prop} {ι:Ix} {Θ:tE} (R:DA P O nt B F0 ga w0 D s a w ι Θ):∀ {rs:List ResultVar} {cs:List QW} {vs:List AV},FE P rs=some cs->HP s cs=some vs →
  ∃ us,(rs.mapM (cG a.tmps)).run P w=Result.ok us w/\RG ι (JA ga ι Θ) (ZA ι Θ) w vs us
 | [],cs,vs,h,hr=>by
  injection h with h;subst h;injection hr with hr;subst hr;exact ⟨[],by simp,rfl⟩
 | .tmp t :: rs,cs,vs,h,hr=>by
  unfold FE at h;obtain ⟨l,hl,rfl⟩:=y8.1 h;simp only [HP] at hr;obtain ⟨wl,hv,rfl⟩:=y8.1 hr;obtain ⟨us,hu,hT⟩:=fO R hl hv;refine ⟨a.tmps.getD t undef :: us,by rw [List.mapM_cons]; simp only [cG,Sem.run_bind,Sem.run_pure,Result.andThen_ok,hu],_,us,rfl,R.env t,hT⟩
 | .cell b t :: rs,cs,vs,h,hr=>by
  unfold FE at h;split at h
  ·rename_i ag z l hA hz hl;injection h with h;subst h;simp only [HP] at hr;split at hr
   ·rename_i t' n off hb;cases hm:s.mem t' n with
    | none=>rw [hm] at hr; cases hr
    | some row =>
     rw [hm,U] at hr;obtain ⟨x,hx,hr⟩:=y0.1 hr;obtain ⟨wl,hv,rfl⟩:=y8.1 hr;obtain ⟨us,hu,hT⟩:=fO R hl hv;have hv:=R.env b;rw [hb,aC] at hv;obtain ⟨bb,cu,hv⟩:=hv;obtain ⟨de,b',cur,ty,ra,ba,ja,_⟩:=R.rows t' n row hm;rw [cu] at ra;injection ra with ra;subst ra;have ab:∀ (j:Nat) (u:Value),((cur.toList.take row.length).drop off)[j]?=some u->w.cell? ⟨bb,off + j,none⟩=some u:=fun j u hu=>by
      rw [cell_of_row w bb (off + j) cur ty (0,0) ba];rw [yj,ym] at hu;split at hu
      ·simpa using hu
      ·cases hu
     have mb:=AB off ja.rep;have hi:pC ag z ((row.map (·.v)).drop off)=some x.v:=by
      cases ag with
      | true =>
       simp only [bC,if_true] at hx;split at hx
       ·rename_i jb;injection hx with hx;subst hx;simp only [pC,if_true,yg,yv];rw [if_pos (by omega)];simp [List.map_take,List.map_drop]
       ·cases hx
      | false =>
       simp only [bC,yq,if_false] at hx;simp [pC,yj,hx]
     obtain ⟨u,aa,hS,_⟩:=tJ (P:=P) (avb:=ZA ι Θ) hA hz mb ab hi;refine ⟨u :: us,by rw [List.mapM_cons]; simp only [cG,Sem.run_bind,hv,asAddr,Sem.run_pure,Result.andThen_ok,aa,hu],_,us,rfl,hS,hT⟩
   ·cases hr
  ·cases h
structure jA (P:Program) (f:FuncId) (c:PA):Prop where
 enter:∀ xs w,(callFunc f xs).run P w=.ok (.enter f xs) w
 fn:∃ fn,P.funcs[f]?=some fn/\fK P c.mu fn=some c
theorem pN {ι:Ix} {av avl:Av}:∀ {xs:List AV} {us:List Value},jC ι av avl w xs us->us.length=xs.length
 | [],_,h=>by simp only [jC] at h; subst h; rfl
 | x :: r,_,h=>by
  simp only [jC] at h;obtain ⟨u,na,rfl,_,h⟩:=h;simp [pN h]
theorem QR {ι:Ix} {av avl:Av}:∀ {xs:List AV} {us:List Value} (_:jC ι av avl w xs us) (t:Nat),nA ι av avl w (xs.getD t .undef) (us.getD t undef)
 | [],_,_,_=>by simp [nA]
 | x :: r,_,h,t=>by
  simp only [jC] at h;obtain ⟨u,na,rfl,h0,h⟩:=h;cases t with
  | zero=>simpa using h0
  | succ t=>simpa using QR h t
section
variable {vs:List Value} {args:List AV}
include vs args
theorem dM {ι:Ix} {av avl:Av} {np:Nat} (h:jC ι av avl w args vs) (hl:args.length=np) (hn:np<=nt):(vs.toArray++Array.replicate (nt - vs.toArray.size) undef).size=nt:=by
 have:=pN h;simp;omega
theorem PO {ι ι':Ix} {av wa avb avl:Av} {S0:Option AV} (h:jC ι av avl w args vs) (hι:Ix.Le ι ι') (hA:xA av wa w w) (hB:xA avl avb w w) (t:Nat) :
  nA ι' wa avb w ((tA.init args S0).env t).v ((vs.toArray++Array.replicate (nt - vs.toArray.size) undef).getD t undef):=by
 have h1:=nA.held hι hA hB _ _ (QR h t);have h2:(vs.toArray++Array.replicate (nt - vs.toArray.size) undef).getD t undef=vs.getD t undef:=by
  simp only [yG,List.getD_eq_getElem?_getD,Array.getElem?_append,yu,List.getElem?_toArray];split
  ·rfl
  ·rename_i wi;rw [List.getElem?_eq_none (by omega)];simp only [Array.getElem?_replicate];split <;> rfl
 rw [h2];exact h1
theorem sM {av:Av} {np:Nat} (h:jC Ix.none av (fun _ _=>False) w args vs) (ub:O.low (fun _=>False) av w) (hl:args.length=np) (hn:np<=nt) :
  fB P O nt w.heap.size ⟨fun _=>False,none,fun _=>False,0,fun _=>undef⟩ av w (fun _=>False) (tA.init args none) { tmps:=vs.toArray++Array.replicate (nt - vs.toArray.size) undef,defers:=[] } w:=by
 have il:∀ b o,ZA Ix.none (fun _=>none) b o->False:=fun b o h=>by rcases h with (⟨t,n,h⟩ | ⟨t,n,H,h,_⟩) | ⟨k,ow,h,_⟩ <;> cases h
 have hA:xA av (JA av Ix.none (fun _=>none)) w w:=xA.less fun b o h=>h.resolve_right (il b o)
 have hB:xA (fun _ _=>False) (ZA Ix.none (fun _=>none)) w w:=xA.less fun b o h=>il b o h
 exact ⟨Ix.none,fun _=>none,rfl,dM h hl hn,fun t=>PO h (Ix.Le.refl _) hA hB t,fun t=>trivial,fun t n r h=>(by cases h),fun t n b h=>(by cases h),fun _ _ _ _ _ h=>(by cases h),fun _ _ h=>(by cases h),fun _ _ _ _ h=>(by cases h),fun _ _ _ _ h=>(by cases h),ub.2,fun _ h=>(by cases h),WA.refl _ _,⟨rfl,ub.1⟩,fun t n S h=>(by simp [tA.init] at h),fun t n H h=>(by cases h),fun _=>trivial,fun _=>trivial⟩
theorem MW {av:Av} {np p:Nat} {H:Nat->Prop} {S:AV} (h:jC (Ix.one p) av (fun b _=>H b) w args vs) (ub:O.low H av w) (hH:∀ b o,H b->av b o) (xb:O.at_ S H p w) (kq:aS S=true) (hl:args.length=np) (hn:np<=nt) :
  fB P O nt w.heap.size ⟨H,some p,fun _=>False,0,fun _=>undef⟩ av w (fun _=>False) (tA.init args (some S)) { tmps:=vs.toArray++Array.replicate (nt - vs.toArray.size) undef,defers:=[] } w:=by
 obtain ⟨ι,hι⟩:∃ ι:Ix,ι=⟨fun t n=>if t=0/\n=0 then some p else none,fun t n=>if t=0/\n=0 then some H else none,fun _=>0⟩:=⟨_,rfl⟩;have hf:∀ t n b,ι t n=some b->t=0/\n=0/\b=p:=fun t n b h=>by
  subst hι;have h':(if t=0/\n=0 then some p else none)=some b:=h;split at h'
  ·rename_i e; injection h' with h'; exact ⟨e.1,e.2,h'.symm⟩
  ·cases h'
 have ho:∀ t n H1,ι.ob t n=some H1->t=0/\n=0/\H1=H:=fun t n b h=>by
  subst hι;simp only at h;split at h
  ·rename_i e; injection h with h'; exact ⟨e.1,e.2,h'.symm⟩
  ·cases h
 have h0:ι 0 0=some p:=by subst hι; rfl
 have h1:ι.ob 0 0=some H:=by subst hι; rfl
 have ac:∀ t n b,Ix.one p t n=some b->ι t n=some b:=fun t n b h=>by subst hι; exact h
 have jb:Ix.Le (Ix.one p) ι:=⟨ac,fun _ _ _ _=>by subst hι; rfl⟩;clear hι;have xu:=O.main xb;have il:∀ b o,ZA ι (fun _=>none) b o->H b:=fun b o h=>by
  rcases h with (⟨t,n,h⟩ | ⟨t,n,H1,h,hb⟩) | ⟨k,ow,h,_⟩
  ·rw [(hf _ _ _ h).2.2]; exact xu
  ·rw [(ho _ _ _ h).2.2] at hb; exact hb
  ·cases h
 have hA:xA av (JA av ι (fun _=>none)) w w:=xA.less fun b o h=>h.elim id fun h=>hH b o (il b o h)
 refine ⟨ι,fun _=>none,rfl,dM h hl hn,fun t=>?_,fun t=>trivial,fun t n r h=>(by cases h),fun t n b h=>?_,fun t n t' n' b h h'=>?_,fun _ _ h=>(by cases h),fun _ _ _ _ h=>(by cases h),fun _ _ _ _ h=>(by cases h),ub.2,fun q h=>?_,WA.refl _ _,⟨rfl,ub.1⟩,fun t n S1 h=>?_,fun t n H1 h=>?_,fun _=>trivial,fun _=>trivial⟩
 ·exact PO h jb hA (xA.less fun b o h=>il b o h) t
 ·obtain ⟨rfl,rfl,rfl⟩:=hf _ _ _ h;exact ⟨.inr xu,O.lt xb xu,.inl (by simp [tA.init])⟩
 ·obtain ⟨rfl,rfl,_⟩:=hf _ _ _ h;obtain ⟨rfl,rfl,_⟩:=hf _ _ _ h';exact ⟨rfl,rfl⟩
 ·injection h with h;subst h;exact ⟨h0,.inr ⟨H,h1⟩⟩
 ·simp only [tA.init] at h;split at h
  ·rename_i e;injection h with h;subst h;exact ⟨p,H,by rw [e.1,e.2]; exact h0,by rw [e.1,e.2]; exact h1,xb,xR.no kq⟩
  ·cases h
 ·obtain ⟨rfl,rfl,rfl⟩:=ho _ _ _ h;refine ⟨fun b hb=>⟨.inr hb,O.lt xb hb,fun t' n' h=>?_,fun _ _ h=>(by cases h),fun t' n' H' h _=>?_⟩,.inl (by simp [tA.init])⟩
  ·obtain ⟨rfl,rfl,_⟩:=hf _ _ _ h; exact ⟨rfl,rfl⟩
  ·obtain ⟨rfl,rfl,_⟩:=ho _ _ _ h; exact ⟨rfl,rfl⟩
end
theorem MY {vs:List Value} {args cs:List AV} {av:Av} {np p:Nat} {cur:Array Value} {ty:TypeId} (h:jC (Ix.row p cur.size) av (fun b _=>b=p) w args vs) (ub:O.low (fun b=>b=p) av w) (md:∀ o,av p o) (ba:w.heap[p]?=some (.cells cur ty (0,0))) (ig:cs.length<=cur.size) (mb:IA av w cs (cur.toList.take cs.length)) (hl:args.length=np) (hn:np<=nt) :
  fB P O nt w.heap.size ⟨fun b=>b=p,some p,fun b=>b=p,cur.size,fun _=>undef⟩ av w (fun _=>False) (tA.initR args cs) { tmps:=vs.toArray++Array.replicate (nt - vs.toArray.size) undef,defers:=[] } w:=by
 have hf:∀ t n b,(Ix.row p cur.size) t n=some b->t=0/\n=0/\b=p:=fun t n b h=>by
  have h':(if t=0/\n=0 then some p else none)=some b:=h;split at h'
  ·rename_i e; injection h' with h'; exact ⟨e.1,e.2,h'.symm⟩
  ·cases h'
 have il:∀ b o,ZA (Ix.row p cur.size) (fun _=>none) b o->b=p:=fun b o h=>by
  rcases h with (⟨t,n,h⟩ | ⟨t,n,H1,h,hb⟩) | ⟨k,ow,h,_⟩
  ·exact (hf _ _ _ h).2.2
  ·cases h
  ·cases h
 have hA:xA av (JA av (Ix.row p cur.size) (fun _=>none)) w w:=xA.less fun b o h=>h.elim id fun h=>il b o h ▸ md o
 refine ⟨Ix.row p cur.size,fun _=>none,rfl,dM h hl hn,fun t=>?_,fun t=>trivial,fun t n r h=>?_,fun t n b h=>?_,fun t n t' n' b h h'=>?_,fun _ _ h=>(by cases h),fun _ _ _ _ h=>(by cases h),fun _ _ _ _ h=>(by cases h),ub.2,fun q h=>?_,WA.refl _ _,⟨rfl,ub.1⟩,fun t n S1 h=>(by cases h),fun t n H1 h=>(by cases h),fun _=>trivial,fun _=>trivial⟩
 ·exact PO (S0:=none) h (Ix.Le.refl _) hA (xA.less fun b o h=>il b o h) t
 ·simp only [tA.initR] at h;split at h
  ·rename_i e;injection h with h;subst h;refine ⟨rfl,p,cur,ty,by rw [e.1,e.2]; rfl,ba,pW (IA.held hA _ _ mb) fun j u hu=>?_,.inr rfl,rfl⟩;have hj:j<cs.length:=by
    have:=(yk.1 hu).1;rw [yc] at this;omega
   rw [List.getElem?_take_of_lt hj] at hu;simpa using hu
  ·cases h
 ·obtain ⟨rfl,rfl,rfl⟩:=hf _ _ _ h;exact ⟨.inr rfl,uA ba,.inl (by simp [tA.initR])⟩
 ·obtain ⟨rfl,rfl,_⟩:=hf _ _ _ h;obtain ⟨rfl,rfl,_⟩:=hf _ _ _ h';exact ⟨rfl,rfl⟩
 ·injection h with h;subst h;exact ⟨rfl,.inl ⟨rfl,rfl⟩⟩
theorem DA.drop0 {D:Nat->Prop} {ι:Ix} {Θ:tE} (R:DA P O nt B F0 ga w0 D s a w ι Θ):DA P O nt B F0 ga w0 D s.drop0 a w ι Θ :=
 ⟨R.defers,R.size,R.env,R.ann,fun t n r h=>by
  simp only [tA.drop0] at h;split at h
  ·cases h
  ·exact R.rows t n r h,R.mine,R.inj,R.tok,R.tinj,R.apart,R.out,R.pin,R.kept,R.base,R.objs,R.obs,R.gen,R.gann⟩
theorem XL {D:Nat->Prop} {ι:Ix} {Θ:tE} (R:DA P O nt B F0 ga w0 D s a w ι Θ):∀ {rs:List ResultVar} {cs:List QW} {vs:List qA},FE P rs=some cs->XB s cs=some vs →
  ∃ us,(rs.mapM (cG a.tmps)).run P w=Result.ok us w/\rC ι Θ (JA ga ι Θ) (ZA ι Θ) w vs us
 | [],cs,vs,h,hr=>by
  injection h with h;subst h;injection hr with hr;subst hr;exact ⟨[],by simp,rfl⟩
 | .tmp t :: rs,cs,vs,h,hr=>by
  unfold FE at h;obtain ⟨l,hl,rfl⟩:=y8.1 h;simp only [XB] at hr;obtain ⟨wl,hv,rfl⟩:=y8.1 hr;obtain ⟨us,hu,hT⟩:=XL R hl hv;refine ⟨a.tmps.getD t undef :: us,by rw [List.mapM_cons]; simp only [cG,Sem.run_bind,Sem.run_pure,Result.andThen_ok,hu],_,us,rfl,R.env t,R.ann t,hT⟩
 | .cell b t :: rs,cs,vs,h,hr=>by
  unfold FE at h;split at h
  ·rename_i ag z l hA hz hl;injection h with h;subst h;simp only [XB] at hr;split at hr
   ·rename_i t' n off hb;cases hm:s.mem t' n with
    | none=>rw [hm] at hr; cases hr
    | some row =>
     rw [hm,U] at hr;obtain ⟨x,hx,hr⟩:=y0.1 hr;obtain ⟨wl,hv,rfl⟩:=y8.1 hr;obtain ⟨us,hu,hT⟩:=XL R hl hv;have hv:=R.env b;rw [hb,aC] at hv;obtain ⟨bb,cu,hv⟩:=hv;obtain ⟨de,b',cur,ty,ra,ba,ja,_⟩:=R.rows t' n row hm;rw [cu] at ra;injection ra with ra;subst ra;have ab:∀ (j:Nat) (u:Value),((cur.toList.take row.length).drop off)[j]?=some u->w.cell? ⟨bb,off + j,none⟩=some u:=fun j u hu=>by
      rw [cell_of_row w bb (off + j) cur ty (0,0) ba];rw [yj,ym] at hu;split at hu
      ·simpa using hu
      ·cases hu
     have mb:=AB off ja.rep;have hi:pC ag z ((row.map (·.v)).drop off)=some x.v:=by
      cases ag with
      | true =>
       simp only [bC,if_true] at hx;split at hx
       ·rename_i jb;injection hx with hx;subst hx;simp only [pC,if_true,yg,yv];rw [if_pos (by omega)];simp [List.map_take,List.map_drop]
       ·cases hx
      | false =>
       simp only [bC,yq,if_false] at hx;simp [pC,yj,hx]
     obtain ⟨u,aa,hS,_⟩:=tJ (P:=P) (avb:=ZA ι Θ) hA hz mb ab hi;refine ⟨u :: us,by rw [List.mapM_cons]; simp only [cG,Sem.run_bind,hv,asAddr,Sem.run_pure,Result.andThen_ok,aa,hu],u,us,rfl,hS,trivial,hT⟩
   ·cases hr
  ·cases h
theorem lX (hm:P.follows .mixedOrders=true) {call:OA} {lp:LH} {N:Nat} (oa:∀ f args S r,call f args S=some r->EA P O f args S r) (dj:HX P O N lp.l) (oe:bP P O lp.h) {f:FuncId} {fn:Func} {c:PA} (wb:∀ xs w,(callFunc f xs).run P w=.ok (.enter f xs) w) (bh:P.funcs[f]?=some fn) (ic:fK P c.mu fn=some c) {args:List AV} {r:RV} (da:args.length=c.np)
  (h:c.code.run call lp (tA.init args none) (JQ c)=some r):eD P O f args none r:=by
 unfold fK at ic;split at ic
 ·cases ic
 ·rename_i code nf;split at ic
  ·rename_i cc rr sd pp;split at ic
   ·rename_i ea;injection ic with ic;obtain ⟨mu,eh⟩:∃ mu,mu=c.mu:=⟨_,rfl⟩;rw [<- eh] at ic sd;clear eh;subst ic;have xm:fn.params.size + fn.nfree<=fn.ntmps:=ea;have key:∀ (av:Av) (w:World) (vs:List Value),O.low (fun _=>False) av w->jC Ix.none av (fun _ _=>False) w args vs->∀ E:Ending->World->Prop,
      (∀ s' a' w' ι Θ us xs,DA P O fn.ntmps w.heap.size ⟨fun _=>False,none,fun _=>False,0,fun _=>undef⟩ av w (fun _=>False) s' a' w' ι Θ->rC ι Θ (JA av ι Θ) (ZA ι Θ) w' xs us->XB s' rr=some xs->JQ ⟨cc,rr,fn.params.size + fn.nfree,mu⟩ .ret s'=some r->E (.returned (fG us)) w')->Calls P f vs.toArray w E:=fun av w vs ub ka E hE=>by
     refine calls_of_wp bh nf ?_;refine UB hm oa dj oe code cc _ _ _ _ w _ sd h (sM ka ub da xm) fun e s' a' w' R' he=>?_
     have pf:e=.nrm\/e=.ret:=by
      cases e with
      | nrm=>exact .inl rfl
      | ret=>exact .inr rfl
      | exit id=>cases he
     have ui:JQ ⟨cc,rr,fn.params.size + fn.nfree,mu⟩ .ret s'=some r:=by rcases pf with rfl | rfl <;> exact he
     obtain ⟨xs,sb⟩:∃ xs,XB s' rr=some xs:=by
      cases hx:XB s' rr with
      | none=>simp only [JQ,hx] at ui; cases ui
      | some xs=>exact ⟨xs,rfl⟩
     obtain ⟨ι,Θ,R'⟩:=R';obtain ⟨us,oc,fm⟩:=XL R' pp sb;have df:(results fn a'.tmps).run P w'=.ok (fG us) w':=by
      have he:results fn a'.tmps=(do let vs <- fn.results.mapM (cG a'.tmps); pure (if h:vs.size=1 then vs[0] else .tuple vs)):=rfl;rw [he,Array.mapM_eq_mapM_toList];simp only [Sem.run_bind,Sem.run_map,oc,Result.andThen_ok,Sem.run_pure];rfl
     have post:a'.defers=[]/\∃ v,(results fn a'.tmps).run P w'=.ok v w'/\E (.returned v) w':=⟨R'.defers,_,df,hE s' a' w' ι Θ us xs R' fm sb ui⟩;rcases pf with rfl | rfl <;> exact post
    have one:∀ {x:qA} {us:List Value} {ι:Ix} {Θ:tE} {av avb:Av} {w:World},rC ι Θ av avb w [x] us->∃ u,fG us=u/\nA ι av avb w x.v u/\pE Θ x.a u:=fun {x us ι Θ av avb w} h=>by
     simp only [rC] at h;obtain ⟨u,na,rfl,h0,h1,rfl⟩:=h;exact ⟨u,rfl,h0,h1⟩
    refine ⟨wb,?_⟩;obtain ⟨r1,r2⟩:=r;have main:∀ (nl:Bool) (l:List (List AV)),(r1,r2)=(.sl nl l,none)->∀ (av:Av) (w:World) (vs:List Value),O.low (fun _=>False) av w->jC Ix.none av (fun _ _=>False) w args vs →
      Calls P f vs.toArray w fun e w'=>∃ v,e=.returned v/\(if l=[] then xB av w' (.sl nl []) v/\∃ A,v=.slice A 0 0 else ∀ z,UA z l=true->SQ w (fun _=>False) z av w' l v)/\Below w.heap.size w w':=fun nl l hr av w vs ub ka=>by
     refine key av w vs ub ka _ fun s' a' w' ι Θ us xs R' hT sb hf=>?_
     rw [hr] at hf;simp only [JQ,sb] at hf;split at hf
     ·rename_i b a0 he;injection he with he;split at hf
      case isFalse=>cases hf
      rename_i fg;injection hf with hf;injection hf with hf _;injection hf with h1 h2;subst h1; subst h2; subst he;obtain ⟨u,hu,h0,h9⟩:=one hT;refine ⟨_,rfl,?_,R'.kept.below⟩;rw [if_pos rfl,hu];refine ⟨xB.held (xA.less fun b o h=>.inl h) _ _ h0,?_⟩;obtain ⟨A,c,rfl,_,_,h3,_⟩:=h0;cases b with
      | true =>
       obtain ⟨rfl,_,rfl⟩:=h3 rfl;exact ⟨_,rfl⟩
      | false =>
       unfold w8 SS at fg;cases a0 with
       | ex =>
        obtain ⟨A',n',h⟩:=h9;injection h with h1 h2 h3;exact ⟨A,by rw [h3,<- h2]; rfl⟩
       | no=>cases fg
       | own k e=>cases fg
     ·rename_i t n sz len cap a0 he;injection he with he;subst he;obtain ⟨l1,ch,hf⟩:=y8.1 hf;injection hf with hf _;injection hf with h1 h2;subst h1; subst h2;obtain ⟨row,ee,ib⟩:=y0.1 ch;obtain ⟨u,hu,h0,_⟩:=one hT;obtain ⟨b,hb,jb,cc2,bw,xg,hv⟩:=h0;obtain ⟨xc,b',cur,ty,ra,ba,ja,lf,eg⟩:=R'.rows t n row ee;rw [hb] at ra;injection ra with ra;subst ra;obtain ⟨q1,q2,aq,q3,q4⟩:=PC ja ba ib;have db:l1≠[]:=fun e=>by rw [e] at q1; simp at q1
      have oc:aq=cur.toList.take l1.flatten.length:=gW q3 fun j u hj=>by
       have:=q4 j u hj;simpa [World.cell?,ba] using this
      rw [oc] at q3;refine ⟨_,rfl,?_,R'.kept.below⟩;rw [if_neg db,hu];intro z hz;have rb:z=sz:=by
       cases l1 with
       | nil=>exact absurd rfl db
       | cons c r =>
        rw [lB] at hz;simp only [y7,decide_eq_true_eq] at hz;rw [<- hz.1,q2 c yh]
      subst rb;refine ⟨b,cc2,cur,ty,by rw [q1]; exact hv,.inl (lf.elim id False.elim),ba,by rw [q1]; exact yp jb bw,by rw [eg]; simpa using xg,IA.held (xA.less fun b' o h=>?_) _ _ q3⟩;rcases h with h | rfl
      ·exact .inl h
      ·exact .inr (.inl (.inl ⟨t,n,hb⟩))
     ·cases hf
    split
    all_goals first
     | exact True.intro
     | exact main _ _ (by assumption)
     | (rename_i e; cases e; done)
     | (rename_i e _; cases e; done)
   ·cases ic
  ·cases ic
theorem cX (hm:P.follows .mixedOrders=true) {call:OA} {lp:LH} {N:Nat} (oa:∀ f args S r,call f args S=some r->EA P O f args S r) (dj:HX P O N lp.l) (oe:bP P O lp.h) {f:FuncId} {fn:Func} {c:PA} (wb:∀ xs w,(callFunc f xs).run P w=.ok (.enter f xs) w) (bh:P.funcs[f]?=some fn) (ic:fK P c.mu fn=some c) {rest cs:List AV} {r:RV} (da:rest.length=c.np)
  (h:c.code.run call lp (tA.initR rest cs) (FY c cs.length)=some r):UQ P O f rest (some (.agg cs)) r:=by
 unfold fK at ic;split at ic
 ·cases ic
 ·rename_i code nf;split at ic
  ·rename_i cc rr sd pp;split at ic
   ·rename_i ea;injection ic with ic;obtain ⟨mu,eh⟩:∃ mu,mu=c.mu:=⟨_,rfl⟩;rw [<- eh] at ic sd;clear eh;subst ic;have xm:fn.params.size + fn.nfree<=fn.ntmps:=ea;refine ⟨wb,?_⟩;obtain ⟨r1,r2⟩:=r
    match r2,h with
    | some (.agg xl),h =>
     intro av w vs p cur ty ub md ba jb mb ka;refine calls_of_wp bh nf ?_;refine UB hm oa dj oe code cc _ _ _ _ w _ sd h (MY ka ub md ba jb mb da xm) fun e s' a' w' R' he=>?_
     have pf:e=.nrm\/e=.ret:=by
      cases e with
      | nrm=>exact .inl rfl
      | ret=>exact .inr rfl
      | exit id=>cases he
     have ui:∃ xs,HP s' rr=some xs/\GY cs.length s' (xs.map (AV.frz s'.drop0))=some (r1,some (.agg xl)):=by
      rcases pf with rfl | rfl <;> exact y0.1 he
     obtain ⟨xs,sb,jc⟩:=ui;obtain ⟨ι,Θ,R'⟩:=R';obtain ⟨us,oc,fm⟩:=fO R' pp sb;have df:(results fn a'.tmps).run P w'=.ok (fG us) w':=by
      have he:results fn a'.tmps=(do let vs <- fn.results.mapM (cG a'.tmps); pure (if h:vs.size=1 then vs[0] else .tuple vs)):=rfl;rw [he,Array.mapM_eq_mapM_toList];simp only [Sem.run_bind,Sem.run_map,oc,Result.andThen_ok,Sem.run_pure];rfl
     have hs:=fm.frz R'.drop0;unfold GY at jc;split at jc
     ·rename_i nb;obtain ⟨row,kh,jc⟩:=y0.1 jc;split at jc
      ·rename_i ea;injection jc with jc;injection jc with hfv1 hfv2;injection hfv2 with hfv2;injection hfv2 with hfv2;subst hfv1;subst hfv2;obtain ⟨xc,b,ia,ae,hb,ai,ja,_,hz⟩:=R'.rows 0 0 row kh;obtain ⟨gv,hpz⟩:=R'.pin p rfl;rw [gv] at hb;injection hb with hb;subst hb;have hz':ι.z p=cur.size:=by
        rcases hpz with ⟨_,h⟩ | ⟨H,h⟩
        ·exact h
        ·rw [h] at xc; cases xc
       have ac:∀ b o,av b o->XT s'.drop0 (JA av ι Θ) ι b o:=fun b o h=>⟨.inl h,fun ⟨t,n,r,hm,hb⟩=>by
        simp only [tA.drop0] at hm;split at hm
        ·cases hm
        ·rename_i hn;obtain ⟨_,b',_,_,ra,_,_,lf,_⟩:=R'.rows t n r hm;rw [hb] at ra;injection ra with ra;subst ra;rcases lf with lf | lf
         ·have:=ub.2 _ _ h; omega
         ·have:b=p:=lf;subst this;exact hn (R'.inj _ _ _ _ _ hb gv)⟩
       have post:a'.defers=[]/\∃ v,(results fn a'.tmps).run P w'=.ok v w'/\∃ v' cur'' ty'',Ending.returned v=.returned v'/\xB av w' (xS (xs.map (AV.frz s'.drop0))) v'/\w'.heap[p]?=some (.cells cur'' ty'' (0,0))/\cur''.size=cur.size/\IA av w' (row.map fun x=>AV.frz0 s'.drop0 x.v) (cur''.toList.take (row.map fun x=>AV.frz0 s'.drop0 x.v).length)/\WA (fun b=>b=p) w w':=by
        refine ⟨R'.defers,_,df,_,ia,ae,rfl,sP (hs.toT ac fun v hv=>y5.1 nb v hv),ai,hz.trans hz',?_,R'.kept⟩;have h1:=ja.rep.frz R'.drop0;rw [J] at h1;have h2:=HC h1 fun x hx=>y5.1 ea.1 x hx
        rw [yv];exact IA.held (xA.less ac) _ _ h2
       rcases pf with rfl | rfl <;> exact post
      ·cases jc
     ·cases jc
    | none,h=>trivial
    | some (.int ..),h=>trivial
    | some (.bool _),h=>trivial
    | some (.str _),h=>trivial
    | some .nilP,h=>trivial
    | some (.ptr ..),h=>trivial
    | some (.ip _),h=>trivial
    | some (.bp _),h=>trivial
    | some (.sl ..),h=>trivial
    | some (.bl _),h=>trivial
    | some (.ref ..),h=>trivial
    | some (.mp ..),h=>trivial
    | some (.fn ..),h=>trivial
    | some (.tup _),h=>trivial
    | some .undef,h=>trivial
   ·cases ic
  ·cases ic
theorem gH {ι:Ix} {Θ:tE} {av avb:Av}:∀ {xs:List qA} {us:List Value},rC ι Θ av avb w xs us->us.length=xs.length
 | [],_,h=>by simp only [rC] at h; subst h; rfl
 | x :: r,_,h=>by
  simp only [rC] at h;obtain ⟨u,na,rfl,_,_,h⟩:=h;simp [gH h]
theorem rM {ι:Ix} {Θ:tE} {av avb:Av}:∀ {xs:List qA} {us:List Value} (_:rC ι Θ av avb w xs us) (t:Nat),nA ι av avb w (xs.getD t ⟨.undef,.no⟩).v (us.getD t undef)/\pE Θ (xs.getD t ⟨.undef,.no⟩).a (us.getD t undef)
 | [],_,_,_=>by simp [nA,pE]
 | x :: r,_,h,t=>by
  simp only [rC] at h;obtain ⟨u,na,rfl,h0,h1,h⟩:=h;cases t with
  | zero=>simpa using ⟨h0,h1⟩
  | succ t=>simpa using rM h t
theorem LX {ι:Ix} {av avb:Av} {x:AV} {v:Value} (h:nA ι av avb w x v) (hx:x.tupOk=true):OI ι av w x v:=by
 cases x <;> first
  | exact h
  | (cases hx; done)
theorem bO {ι:Ix} {Θ:tE} {av avb:Av}:∀ {xs:List qA} {us:List Value},rC ι Θ av avb w xs us->xs.all (fun x=>x.v.tupOk)=true->zC ι av w (xs.map (·.v)) us
 | [],_,h,_=>h
 | x :: r,_,h,hf=>by
  simp only [rC] at h;obtain ⟨u,na,rfl,h0,_,h⟩:=h;simp only [List.all_cons,y7] at hf;exact ⟨u,na,rfl,LX h0 hf.1,bO h hf.2⟩
theorem zX {ι:Ix} {Θ:tE} {av avb:Av}:∀ {xs:List qA} {us:List Value} {y:qA},rC ι Θ av avb w xs us->QB xs=some y->nA ι av avb w y.v (fG us)/\pE Θ y.a (fG us)
 | [],us,y,h,hp=>by
  simp only [rC] at h;subst h;injection hp with hp;subst hp;exact ⟨⟨#[],rfl,rfl⟩,trivial⟩
 | [x],us,y,h,hp=>by
  simp only [rC] at h;obtain ⟨u,na,rfl,h0,h1,rfl⟩:=h;injection hp with hp;subst hp;exact ⟨h0,h1⟩
 | x :: z :: r,us,y,h,hp=>by
  have hl:=gH h;have:¬ us.toArray.size=1:=by simp; simp at hl; omega
  unfold fG;rw [dif_neg this];unfold QB at hp;split at hp
  ·rename_i e; cases e
  ·split at hp
   ·rename_i nb;injection hp with hp;subst hp;exact ⟨⟨_,rfl,bO h nb⟩,trivial⟩
   ·cases hp
theorem NW {B:Nat} {F0:DH} {ga:Av} {w0 w:World} {ι:Ix} {Θ:tE} {xs:List qA} {us:List Value} (R:mR P O B F0 ga w0 s w ι Θ) (h:rC ι Θ (JA ga ι Θ) (ZA ι Θ) w xs us) {np:Nat} (hl:xs.length=np) (hn:np<=nt) :
  DA P O nt B F0 ga w0 (fun _=>False) (s.initH xs) { tmps:=us.toArray++Array.replicate (nt - us.toArray.size) undef,defers:=[] } w ι Θ:=by
 have hg:∀ t,(us.toArray++Array.replicate (nt - us.toArray.size) undef).getD t undef=us.getD t undef:=fun t=>by
  simp only [yG,List.getD_eq_getElem?_getD,Array.getElem?_append,yu,List.getElem?_toArray];split
  ·rfl
  ·rename_i wi;rw [List.getElem?_eq_none (by omega)];simp only [Array.getElem?_replicate];split <;> rfl
 have rb:(us.toArray++Array.replicate (nt - us.toArray.size) undef).size=nt:=by
  have:=gH h;simp;omega
 exact ⟨rfl,rb,fun t=>by simp only [tA.initH]; rw [hg]; exact (rM h t).1,fun t=>by simp only [tA.initH]; rw [hg]; exact (rM h t).2,R.rows,R.mine,R.inj,R.tok,R.tinj,R.apart,R.out,R.pin,R.kept,R.base,R.objs,R.obs,R.gen,R.gann⟩
theorem DA.bare {D:Nat->Prop} {ι:Ix} {Θ:tE} (R:DA P O nt B F0 ga w0 (fun _=>False) s a w ι Θ):mR P O B F0 ga w0 s w ι Θ :=
 ⟨rfl,rfl,fun _=>trivial,fun _=>trivial,R.rows,R.mine,R.inj,R.tok,R.tinj,R.apart,R.out,R.pin,R.kept,R.base,R.objs,R.obs,R.gen,R.gann⟩
theorem tT (hm:P.follows .mixedOrders=true) {call:OA} {lp:LH} {N:Nat} (oa:∀ f args S r,call f args S=some r->EA P O f args S r) (dj:HX P O N lp.l) (oe:bP P O lp.h) {f:FuncId} {fn:Func} {c:PA} (wb:∀ xs w,(callFunc f xs).run P w=.ok (.enter f xs) w) (bh:P.funcs[f]?=some fn) (ic:fK P c.mu fn=some c) {xs:List qA} {k:qA->tA->Option RV} {r:RV} (da:xs.length=c.np)
  (h:c.code.run call lp (s.initH xs) (KB c k)=some r):(∀ vs w,(callFunc f vs).run P w=.ok (.enter f vs) w) ∧
 ∀ (B:Nat) (F0:DH) (ga:Av) (w0 w:World) (ι:Ix) (Θ:tE) (us:List Value) (E:Ending->World->Prop),mR P O B F0 ga w0 s w ι Θ->rC ι Θ (JA ga ι Θ) (ZA ι Θ) w xs us →
  (∀ y s' w' ι' Θ' v,mR P O B F0 ga w0 s' w' ι' Θ'->nA ι' (JA ga ι' Θ') (ZA ι' Θ') w' y.v v->pE Θ' y.a v->k y s'=some r->E (.returned v) w')->Calls P f us.toArray w E:=by
 unfold fK at ic;split at ic
 ·cases ic
 ·rename_i code nf;split at ic
  ·rename_i cc rr sd pp;split at ic
   ·rename_i ea;injection ic with ic;obtain ⟨mu,eh⟩:∃ mu,mu=c.mu:=⟨_,rfl⟩;rw [<- eh] at ic sd;clear eh;subst ic;have xm:fn.params.size + fn.nfree<=fn.ntmps:=ea;refine ⟨wb,fun B F0 ga w0 w ι Θ us E R sb hE=>?_⟩;refine calls_of_wp bh nf ?_;refine UB hm oa dj oe code cc _ _ _ _ w _ sd h ⟨ι,Θ,NW R sb da xm⟩ fun e s' a' w' R' he=>?_
    have pf:e=.nrm\/e=.ret:=by
     cases e with
     | nrm=>exact .inl rfl
     | ret=>exact .inr rfl
     | exit id=>cases he
    have ui:∃ y,(XB s' rr).bind QB=some y/\k y s'=some r:=by
     rcases pf with rfl | rfl <;> exact y0.1 he
    obtain ⟨y,hy,hk⟩:=ui;obtain ⟨l,hl,hp⟩:=y0.1 hy;obtain ⟨ι',Θ',R'⟩:=R';obtain ⟨vs,dv,fm⟩:=XL R' pp hl;have df:(results fn a'.tmps).run P w'=.ok (fG vs) w':=by
     have he:results fn a'.tmps=(do let vs <- fn.results.mapM (cG a'.tmps); pure (if h:vs.size=1 then vs[0] else .tuple vs)):=rfl;rw [he,Array.mapM_eq_mapM_toList];simp only [Sem.run_bind,Sem.run_map,dv,Result.andThen_ok,Sem.run_pure];rfl
    obtain ⟨xx,hr2⟩:=zX fm hp;have post:a'.defers=[]/\∃ v,(results fn a'.tmps).run P w'=.ok v w'/\E (.returned v) w':=⟨R'.defers,_,df,hE y s' w' ι' Θ' _ (DA.bare (D:=fun _=>False) R') xx hr2 hk⟩;rcases pf with rfl | rfl <;> exact post
   ·cases ic
  ·cases ic
theorem zT {args rest:List AV} (h:bL args=some rest):args=.undef :: .undef :: rest:=by
 unfold bL at h;split at h
 ·injection h with h; subst h; rfl
 ·cases h
theorem mO (hm:P.follows .mixedOrders=true) {T:Nat->Option PA} {ext:OA} (hT:∀ f c,T f=some c->jA P f c) (pj:∀ f args S r,ext f args S=some r->EA P O f args S r) :
  ∀ N,(∀ f args S r,RB T ext N f args S=some r->EA P O f args S r)/\HX P O N (HF T ext N)/\bP P O (mG T ext N)
 | 0=>by
  refine ⟨fun f args S r h=>?_,fun _ _ _ _ _ _ _ _ _ _ _ _ _ _ _ h _ _=>(by cases h),fun _ _ _ _ _ h=>(by cases h)⟩;unfold RB at h;split at h
  ·exact pj f args S r h
  ·cases h
 | N + 1=>by
  obtain ⟨ph,og,rh⟩:=mO hm hT pj N;refine ⟨fun f args S0 r h=>?_,fun boxes nt B F0 ga w0 code b s k r a w Q hc h R hk=>?_,fun f xs s k r h=>?_⟩
  ·unfold RB at h;split at h
   ·exact pj f args S0 r h
   ·rename_i c wv;obtain ⟨wb,fn,bh,ic⟩:=hT f c wv;cases bx:bL args with
    | some rest =>
     rw [bx] at h
     match S0,h with
     | some (.agg cs),h =>
      simp only at h;split at h
      ·rename_i hl;rw [zT bx];exact cX (lp:=⟨HF T ext N,mG T ext N⟩) hm ph og rh wb bh ic hl.1 h
      ·cases h
     | none,h=>cases h
     | some (.int ..),h=>cases h
     | some (.bool _),h=>cases h
     | some (.str _),h=>cases h
     | some .nilP,h=>cases h
     | some (.ptr ..),h=>cases h
     | some (.ip _),h=>cases h
     | some (.bp _),h=>cases h
     | some (.sl ..),h=>cases h
     | some (.bl _),h=>cases h
     | some (.ref ..),h=>cases h
     | some (.mp ..),h=>cases h
     | some (.fn ..),h=>cases h
     | some (.tup _),h=>cases h
     | some .undef,h=>cases h
    | none =>
    rw [bx] at h;simp only at h;split at h
    case isFalse =>
     split at h
     ·rename_i fx;obtain ⟨da,xi,pz,hS⟩:=fx;cases args with
      | nil=>cases xi
      | cons x rest =>
       cases x with
       | undef =>
        simp only [List.tail_cons] at pz h;cases S0 with
        | some S=>cases hS
        | none =>
         have h2:=lX (O:=O) (lp:=⟨HF T ext N,mG T ext N⟩) hm ph og rh wb bh ic (by simpa using da) h;cases rest with
         | nil=>exact h2
         | cons y r=>cases y <;> first | exact h2 | (simp [IC] at pz; done)
       | _=>cases xi
     ·cases h
    ·rename_i fx;obtain ⟨da,xi,zr⟩:=fx;unfold fK at ic;split at ic
     ·cases ic
     ·rename_i code nf;split at ic
      ·rename_i cc rr sd pp;split at ic
       ·rename_i ea;injection ic with ic;obtain ⟨mu,eh⟩:∃ mu,mu=c.mu:=⟨_,rfl⟩;rw [<- eh] at ic sd;clear eh;subst ic;have xm:fn.params.size + fn.nfree<=fn.ntmps:=ea;have ending:∀ {F0:DH} {av:Av} {w:World} {vs:List Value} {E:Ending->World->Prop},
          fB P O fn.ntmps w.heap.size F0 av w (fun _=>False) (tA.init args S0) { tmps:=vs.toArray++Array.replicate (fn.ntmps - vs.toArray.size) undef,defers:=[] } w →
          (∀ (s':tA) (a':Act) (w':World) (ι:Ix) (Θ:tE) (us:List Value) (xs:List AV),DA P O fn.ntmps w.heap.size F0 av w (fun _=>False) s' a' w' ι Θ->RG ι (XT s' (JA av ι Θ) ι) (ZA ι Θ) w' xs us->qT S0 s' xs=some r->E (.returned (fG us)) w')->Calls P f vs.toArray w E:=fun {F0 av w vs E} R hE=>by
         refine calls_of_wp bh nf ?_;refine UB (lp:=⟨HF T ext N,mG T ext N⟩) hm ph og rh code cc _ _ r _ w _ sd h R fun e s' a' w' R' he=>?_
         have pf:e=.nrm\/e=.ret:=by
          cases e with
          | nrm=>exact .inl rfl
          | ret=>exact .inr rfl
          | exit id=>cases he
         have ui:∃ xs,HP s' rr=some xs/\qT S0 s' (xs.map (AV.frz s'))=some r:=by
          rcases pf with rfl | rfl <;> exact y0.1 he
         obtain ⟨xs,sb,jc⟩:=ui;obtain ⟨ι,Θ,R'⟩:=R';obtain ⟨us,oc,fm⟩:=fO R' pp sb;have df:(results fn a'.tmps).run P w'=.ok (fG us) w':=by
          have he:results fn a'.tmps=(do let vs <- fn.results.mapM (cG a'.tmps); pure (if h:vs.size=1 then vs[0] else .tuple vs)):=rfl;rw [he,Array.mapM_eq_mapM_toList];simp only [Sem.run_bind,Sem.run_map,oc,Result.andThen_ok,Sem.run_pure];rfl
         have post:a'.defers=[]/\∃ v,(results fn a'.tmps).run P w'=.ok v w'/\E (.returned v) w':=⟨R'.defers,_,df,hE s' a' w' ι Θ us _ R' (fm.frz R') jc⟩;rcases pf with rfl | rfl <;> exact post
        refine (EA.of xi).2 ⟨wb,?_⟩;obtain ⟨r1,r2⟩:=r;cases S0 with
        | none =>
         cases r2 with
         | none =>
          intro av w vs ub ka;refine ending (sM ka ub da xm) fun s' a' w' ι Θ us xs R' hs jc=>?_
          refine ⟨_,rfl,?_,R'.kept.below⟩;simp only [qT] at jc;split at jc
          ·rename_i nb;injection jc with jc;injection jc with jc;subst jc;exact sP (hs.toT (fun b o h=>⟨.inl h,fun ⟨t,n,r,hm,hb⟩=>by
            obtain ⟨_,b',cur,ty,ra,_,_,lf,_⟩:=R'.rows t n r hm;rw [hb] at ra;injection ra with ra;subst ra;have:=ub.2 _ _ h;have:=lf.elim id False.elim;omega⟩) fun v hv=>y5.1 nb v hv)
          ·split at jc
           ·split at jc
            ·split at jc <;> cases jc
            ·cases jc
           ·cases jc
         | some S' =>
          intro av w vs ub ka;refine ending (sM ka ub da xm) fun s' a' w' ι Θ us xs R' hs jc=>?_
          simp only [qT] at jc;split at jc
          ·cases jc
          ·split at jc
           ·rename_i t n _;split at jc
            ·rename_i S hS;split at jc
             ·rename_i nb;injection jc with jc;injection jc with hfv1 hfv2;injection hfv2 with hfv2;subst hfv1;subst hfv2;obtain ⟨p,H,hp,za,xb,_⟩:=R'.objs t n S hS;refine ⟨_,p,H,rfl,?_,xb,fun b hb=>(((R'.obs t n H za).1 b hb).1).elim id False.elim,R'.kept.below⟩;have tb:∀ v∈xs,((ID t n v).free||(ID t n v).isObj)=true:=fun v hv=>y5.1 nb _ (List.mem_map_of_mem hv)
              refine xX (hs.toO hp (fun b o h=>?_) tb) fun v hv=>y5.1 nb v hv
              refine ⟨?_,fun ⟨t',n',r,hm,hb⟩=>?_⟩
              ·rcases h with h | h
               ·exact .inl h
               ·exact .inr (.inl (.inr ⟨t,n,H,za,h⟩))
              ·obtain ⟨xc,b',cur,ty,ra,_,_,lf,_⟩:=R'.rows t' n' r hm;rw [hb] at ra;injection ra with ra;subst ra;rcases h with h | h
               ·have:=ub.2 _ _ h;have:=lf.elim id False.elim;omega
               ·have e:=((R'.obs t n H za).1 b h).2.2.1 t' n' hb;rw [e.1,e.2,za] at xc;cases xc
             ·cases jc
            ·cases jc
           ·cases jc
        | some S =>
         cases r2 with
         | none =>
          trivial
         | some S' =>
          intro av w vs p H ub hH xb ka;have kq:aS S=true:=zr;refine ending (MW ka ub hH xb kq da xm) fun s' a' w' ι Θ us xs R' hs jc=>?_
          simp only [qT] at jc;split at jc
          ·rename_i nb;obtain ⟨S1,hS1,jc⟩:=y8.1 jc;injection jc with hfv1 hfv2;injection hfv2 with hfv2;subst hfv1;subst hfv2;obtain ⟨p',H',hp,za,gg,_⟩:=R'.objs 0 0 S1 hS1;have gv:=(R'.pin p rfl).1;rw [gv] at hp;injection hp with hp;subst hp;refine ⟨_,H',rfl,sP (hs.toT (fun b o h=>?_) fun v hv=>y5.1 nb v hv),gg,fun b hb=>(((R'.obs 0 0 H' za).1 b hb).1).symm,R'.kept⟩;refine ⟨?_,fun ⟨t',n',r,hm,hb⟩=>?_⟩
           ·rcases h with h | h
            ·exact .inl h
            ·exact .inr (.inl (.inr ⟨0,0,H',za,h⟩))
           ·obtain ⟨xc,b',cur,ty,ra,_,_,lf,_⟩:=R'.rows t' n' r hm;rw [hb] at ra;injection ra with ra;subst ra;rcases h with h | h
            ·have:=ub.2 _ _ h;have:=lf.elim id False.elim;omega
            ·have e:=((R'.obs 0 0 H' za).1 b h).2.2.1 t' n' hb;rw [e.1,e.2,za] at xc;cases xc
          ·cases jc
       ·cases ic
      ·cases ic
  ·unfold HF at h;rw [rounds_succ];refine UB (lp:=⟨HF T ext N,mG T ext N⟩) hm ph og rh code b s _ r a w _ hc h R fun e s' a' w' R' he=>?_
   cases e with
   | nrm=>exact og boxes nt B F0 ga w0 code b s' k r a' w' Q hc he R' hk
   | exit id=>exact hk _ _ _ _ R' he
   | ret=>exact hk _ _ _ _ R' he
  ·unfold mG at h;split at h
   ·cases h
   ·rename_i c wv;obtain ⟨wb,fn,bh,ic⟩:=hT f c wv;split at h
    ·rename_i da;exact tT (lp:=⟨HF T ext N,mG T ext N⟩) hm ph og rh wb bh ic da h
    ·cases h
end
end
section
section
variable {α:Type}
def HA (p:Nat->Prop):Prop:=∃ n,∀ m,n<=m->p m
theorem HA.and {p q:Nat->Prop} (h:HA p) (h':HA q):HA fun m=>p m/\q m:=by
 obtain ⟨n,h⟩:=h;obtain ⟨n',h'⟩:=h';exact ⟨max n n',fun m hm=>⟨h m (by omega),h' m (by omega)⟩⟩
theorem HA.imp {p q:Nat->Prop} (h:HA p) (hi:∀ m,p m->q m):HA q:=by
 obtain ⟨n,h⟩:=h;exact ⟨n,fun m hm=>hi m (h m hm)⟩
theorem HA.now {p:Prop} (h:p):HA fun _=>p:=⟨0,fun _ _=>h⟩
theorem HA.succ {p:Nat->Prop} (h:HA p):HA fun m=>p (m + 1):=by
 obtain ⟨n,h⟩:=h;exact ⟨n,fun m hm=>h (m + 1) (by omega)⟩
theorem HA.pred {p:Nat->Prop} (h:HA fun m=>p (m + 1)):HA p:=by
 obtain ⟨n,h⟩:=h;exact ⟨n + 1,fun m hm=>by have:=h (m - 1) (by omega); simp only at this; rwa [show m - 1 + 1=m from by omega] at this⟩
theorem HA.some {p:Nat->Prop} (h:HA p):∃ m,p m:=by
 obtain ⟨n,h⟩:=h;exact ⟨n,h n (y6 _)⟩
theorem nS {s:tA} {callA:OA} {callB:Nat->OA} (hc:∀ f args S r,callA f args S=some r->HA fun m=>callB m f args S=some r) (k:K) {xe:qA × wB} (h:k.run callA s=some xe):HA fun m=>k.run (callB m) s=some xe:=by
 cases k with
 | call cl f xs =>
  simp only [K.run] at h ⊢;cases hl:cB s cl xs with
  | none=>rw [hl] at h; cases h
  | some vs =>
   rw [hl] at h;simp only [U] at h ⊢;split at h
   ·obtain ⟨r,hr,h⟩:=y0.1 h;exact (hc f vs _ r hr).imp fun m hm=>by rw [hm]; exact h
   ·obtain ⟨r,hr,h⟩:=y0.1 h;exact (hc f vs _ r hr).imp fun m hm=>by rw [hm]; exact h
   ·cases h
 | callf cl f z xs =>
  simp only [K.run] at h ⊢;cases hl:cB s cl xs with
  | none=>rw [hl] at h; cases h
  | some vs =>
   rw [hl] at h;simp only [U] at h ⊢;split at h
   ·obtain ⟨r,hr,h⟩:=y0.1 h;exact (hc f (.undef :: vs) _ r hr).imp fun m hm=>by rw [hm]; exact h
   ·cases h
 | callo cl f z xs =>
  simp only [K.run] at h ⊢;split at h
  ·rename_i vs hl ho
   try simp only [hl,ho]
   obtain ⟨r,hr,h⟩:=y0.1 h;exact (hc f (.undef :: vs) _ r hr).imp fun m hm=>by rw [hm]; exact h
  ·cases h
 | calln cl f z L x xs =>
  simp only [K.run] at h ⊢;split at h
  ·rename_i vs hl ho
   try simp only [hl,ho]
   split at h
   ·rename_i hf
    try simp only [hf,if_true]
    split at h
    ·rename_i t n z' off ln cap hx;split at h
     ·rename_i l he
      try simp only [he]
      split at h
      ·rename_i jm
       try simp only [jm,and_self,if_true]
       obtain ⟨r,hr,h⟩:=y0.1 h;exact (hc f (.undef :: .sl false l :: vs) _ r hr).imp fun m hm=>by simp_all
      ·cases h
     ·cases h
    ·rename_i b hx
     try simp only [hx]
     split at h
     ·rename_i fg
      try simp only [fg,if_true]
      obtain ⟨r,hr,h⟩:=y0.1 h;exact (hc f (.undef :: .sl b [] :: vs) _ r hr).imp fun m hm=>by simp_all
     ·cases h
    ·cases h
   ·cases h
  ·cases h
 | callq cl f xs =>
  simp only [K.run] at h ⊢;split at h
  ·rename_i jm;obtain ⟨r,hr,h⟩:=y0.1 h;exact (hc f _ _ r hr).imp fun m hm=>by rw [if_pos jm,hm]; exact h
  ·cases h
 | callv cl x xs =>
  simp only [K.run] at h ⊢;split at h
  ·rename_i f cs hx
   try simp only [hx]
   split at h
   ·rename_i vs ws hl hw ho
    try simp only [hl,hw,ho]
    obtain ⟨r,hr,h⟩:=y0.1 h;exact (hc f (vs++ws) _ r hr).imp fun m hm=>by rw [hm]; exact h
   ·cases h
  ·cases h
 | callr cl f xs =>
  simp only [K.run] at h ⊢;split at h
  ·rename_i t n hp
   try simp only [hp]
   split at h
   ·rename_i sa;simp only [if_pos sa];split at h
    ·rename_i r vs hr hv
     try simp only [hr,hv]
     split at h
     ·rename_i nb;simp only [if_pos nb];obtain ⟨q,hq,h⟩:=y0.1 h;exact (hc f _ _ q hq).imp fun m hm=>by rw [hm]; exact h
     ·cases h
    ·cases h
   ·cases h
  ·cases h
 | _=>exact HA.now h
theorem QX {s s1:tA} {callA:OA} {callB:Nat->OA} (hc:∀ f args S r,callA f args S=some r->HA fun m=>callB m f args S=some r) (o:sA) (h1:o.step callA s=some s1):HA fun m=>o.step (callB m) s=some s1:=by
 unfold sA.step at h1 ⊢;cases hg:o.guard with
 | none =>
  rw [hg] at h1;simp only at h1 ⊢;obtain ⟨xe,hx,he⟩:=y0.1 h1;exact (nS hc o.op hx).imp fun m hm=>by rw [hm]; exact he
 | some p =>
  obtain ⟨t,want⟩:=p;rw [hg] at h1;simp only at h1 ⊢;cases hv:(s.env t).v with
  | bool b =>
   rw [hv] at h1;simp only at h1 ⊢;by_cases hb:b=want
   ·rw [if_pos hb] at h1;simp only [if_pos hb];obtain ⟨xe,hx,he⟩:=y0.1 h1;exact (nS hc o.op hx).imp fun m hm=>by rw [hm]; exact he
   ·rw [if_neg hb] at h1;simp only [if_neg hb];exact HA.now h1
  | tup l=>rw [hv] at h1; cases l with
   | nil=>exact HA.now h1
   | cons=>cases h1
  | _=>rw [hv] at h1; cases h1
def tN (hA:E7) (hB:Nat->E7):Prop:=∀ f xs s k r (km:Nat->qA->tA->Option RV),(∀ y s' r',k y s'=some r'->HA fun m=>km m y s'=some r')->hA f xs s k=some r->HA fun m=>hB m f xs s (km m)=some r
theorem OO {s:tA} {lhA:LH} {lhB:Nat->LH} (hh:tN lhA.h fun m=>(lhB m).h) (d:Option Nat) (nt:Nat) (x:GA) (xs:List GA) {k:tA->Option RV} {r:RV} {km:Nat->tA->Option RV} (hk:∀ s' r',k s'=some r'->HA fun m=>km m s'=some r') (h:gK lhA d nt x xs s k=some r):HA fun m=>gK (lhB m) d nt x xs s (km m)=some r:=by
 unfold gK at h ⊢;split at h
 ·rename_i f cs hx
  try simp only [hx]
  exact hh _ _ _ _ _ (fun m y s'=>km m ((s'.leave nt).put d y)) (fun y s' r' h'=>hk _ _ h') h
 ·cases h
theorem HA.all {l:List Nat} {Q:Nat->Nat->Prop} (h:∀ i∈l,HA fun m=>Q i m):HA fun m=>∀ i∈l,Q i m:=by
 induction l with
 | nil=>exact ⟨0,fun m _ i hi=>by cases hi⟩
 | cons a r ih =>
  refine ((h a yh).and (ih fun i hi=>h i (yr _ hi))).imp fun m hm i hi=>?_
  rcases List.mem_cons.1 hi with rfl | hi
  ·exact hm.1
  ·exact hm.2 i hi
theorem NO {s:tA} (d:Option Nat) (x:GA) {k:tA->Option RV} {r:RV} {km:Nat->tA->Option RV} (hk:∀ s' r',k s'=some r'->HA fun m=>km m s'=some r') (h:BO d x s k=some r):HA fun m=>BO d x s (km m)=some r:=by
 unfold BO at h ⊢;split at h
 ·rename_i t n hx
  try simp only [hx]
  split at h
  ·rename_i tm nm N seen hi
   try simp only [hi]
   split at h
   ·rename_i L hL
    try simp only [hL]
    split at h
    ·rename_i hN
     try simp only [hN,if_true]
     obtain ⟨h1,h2⟩:=ZL _ h;have je:=HA.all (Q:=fun i m=>(match L[i]? with | some [y,v]=>if y.flat&&v.flat then km m ((s.setObj t n (ZQ tm nm N (seen++[i]))).put d ⟨.tup [.bool true,y,v],.no⟩) else none | _=>none)=some r) fun i bc=>by
      have:=h2 i bc;split at this
      ·rename_i y v hy;split at this
       ·rename_i hf;simp only [hy,hf,if_true];exact hk _ _ this
       ·cases this
      ·cases this
     by_cases he:(List.range N).filter (fun i=>!seen.contains i)=[]
     ·refine (hk _ _ (h1 he)).imp fun m hm=>dP _ (fun _=>hm) fun i bc=>?_
      rw [he] at bc;cases bc
     ·exact je.imp fun m hm=>dP _ (fun e=>absurd e he) hm
    ·cases h
   ·cases h
  ·cases h
 ·cases h
theorem UT {s:tA} {callA:OA} {callB:Nat->OA} {lhA:LH} {lhB:Nat->LH} (hc:∀ f args S r,callA f args S=some r->HA fun m=>callB m f args S=some r) (hh:tN lhA.h fun m=>(lhB m).h) (o:sA) {k:tA->Option RV} {r:RV} {km:Nat->tA->Option RV} (hk:∀ s' r',k s'=some r'->HA fun m=>km m s'=some r') (h:o.stepK callA lhA s k=some r):HA fun m=>o.stepK (callB m) (lhB m) s (km m)=some r:=by
 obtain ⟨d,op,g⟩:=o;by_cases gb:qX op=true
 ·cases op with
  | callh nt x xs =>
   simp only [sA.stepK,QF] at h ⊢;cases g with
   | none=>exact OO hh d nt x xs hk h
   | some p =>
    obtain ⟨t,want⟩:=p;simp only at h ⊢;cases hv:(s.env t).v with
    | bool b =>
     rw [hv] at h;simp only at h ⊢;by_cases hb:b=want
     ·rw [if_pos hb] at h;simp only [if_pos hb];exact OO hh d nt x xs hk h
     ·rw [if_neg hb] at h;simp only [if_neg hb];exact hk _ _ h
    | tup l=>rw [hv] at h; cases l with
     | nil=>exact hk _ _ h
     | cons=>cases h
    | _=>rw [hv] at h; cases h
  | nxt x =>
   simp only [sA.stepK,QF] at h ⊢;cases g with
   | none=>exact NO d x hk h
   | some p =>
    obtain ⟨t,want⟩:=p;simp only at h ⊢;cases hv:(s.env t).v with
    | bool b =>
     rw [hv] at h;simp only at h ⊢;by_cases hb:b=want
     ·rw [if_pos hb] at h;simp only [if_pos hb];exact NO d x hk h
     ·rw [if_neg hb] at h;simp only [if_neg hb];exact hk _ _ h
    | tup l=>rw [hv] at h; cases l with
     | nil=>exact hk _ _ h
     | cons=>cases h
    | _=>rw [hv] at h; cases h
  | _=>cases gb
 ·have gb:qX op=false:=by simpa using gb
  rw [lD gb] at h;obtain ⟨s1,h1,h2⟩:=y0.1 h;exact ((QX hc ⟨d,op,g⟩ h1).and (hk _ _ h2)).imp fun m hm=>by rw [lD gb,hm.1]; exact hm.2
theorem zS {callA:OA} {callB:Nat->OA} {lhA:LH} {lhB:Nat->LH} (hc:∀ f args S r,callA f args S=some r->HA fun m=>callB m f args S=some r) (hh:tN lhA.h fun m=>(lhB m).h):∀ (ops:List sA) {s:tA} {k:tA->Option RV} {r:RV} {km:Nat->tA->Option RV},(∀ s' r',k s'=some r'->HA fun m=>km m s'=some r')->AC callA lhA ops s k=some r->HA fun m=>AC (callB m) (lhB m) ops s (km m)=some r
 | [],s,k,r,km,hk,h=>hk _ _ h
 | o :: l,s,k,r,km,hk,h=>UT hc hh o (km:=fun m s=>AC (callB m) (lhB m) l s (km m)) (fun s' r' h'=>zS hc hh l hk h') h
theorem sB {callA:OA} {lpA:LH} {callB:Nat->OA} {lpB:Nat->LH} (hc:∀ f args S r,callA f args S=some r->HA fun m=>callB m f args S=some r) (hh:tN lpA.h fun m=>(lpB m).h)
  (hl:∀ b s k r (km:Nat->Ex->tA->Option RV),(∀ e s' r',k e s'=some r'->HA fun m=>km m e s'=some r')->lpA b s k=some r->HA fun m=>lpB m b s (km m)=some r) :
  ∀ (c:C) (s:tA) (k:Ex->tA->Option RV) (r:RV) (km:Nat->Ex->tA->Option RV),(∀ e s' r',k e s'=some r'->HA fun m=>km m e s'=some r')->c.run callA lpA s k=some r->HA fun m=>c.run (callB m) (lpB m) s (km m)=some r
 | .skip,s,k,r,km,hk,h=>hk _ _ _ h
 | .exit id,s,k,r,km,hk,h=>hk _ _ _ h
 | .ret,s,k,r,km,hk,h=>hk _ _ _ h
 | .seq a b,s,k,r,km,hk,h=>by
  refine sB hc hh hl a s _ r (fun m e s'=>match e with | .nrm=>b.run (callB m) (lpB m) s' (km m) | e=>km m e s') (fun e s' r' h'=>?_) h;cases e with
  | nrm=>exact sB hc hh hl b s' k r' km hk h'
  | exit id=>exact hk _ _ _ h'
  | ret=>exact hk _ _ _ h'
 | .reg ops,s,k,r,km,hk,h=>by
  simp only [C.run] at h ⊢;exact zS hc hh ops (km:=fun m s=>km m .nrm { s with next:=s.next + 1 }) (fun s' r' h'=>hk _ _ _ h') h
 | .cond x t e,s,k,r,km,hk,h=>by
  simp only [C.run] at h ⊢;cases hv:x.get s with
  | bool b =>
   rw [hv] at h;cases b with
   | true=>exact sB hc hh hl t s k r km hk (by simpa using h)
   | false=>exact sB hc hh hl e s k r km hk (by simpa using h)
  | _=>rw [hv] at h; cases h
 | .block id b,s,k,r,km,hk,h=>by
  refine sB hc hh hl b s _ r (fun m e s'=>match e with | .exit j=>if j=id then km m .nrm s' else km m (.exit j) s' | e=>km m e s') (fun e s' r' h'=>?_) h;cases e with
  | nrm=>exact hk _ _ _ h'
  | ret=>exact hk _ _ _ h'
  | exit j =>
   simp only at h' ⊢;by_cases e:j=id
   ·rw [if_pos e] at h'; simp only [if_pos e]; exact hk _ _ _ h'
   ·rw [if_neg e] at h'; simp only [if_neg e]; exact hk _ _ _ h'
 | .loop b,s,k,r,km,hk,h=>hl b s k r km hk h
variable {T:Nat->Option PA} {ext:OA}
theorem HS {ext':OA} (hx:∀ f args S r,ext f args S=some r->ext' f args S=some r):∀ N,(∀ f args S r,RB T ext N f args S=some r->HA fun m=>RB T ext' m f args S=some r) ∧
  (∀ b s k r (km:Nat->Ex->tA->Option RV),(∀ e s' r',k e s'=some r'->HA fun m=>km m e s'=some r')->HF T ext N b s k=some r->HA fun m=>HF T ext' m b s (km m)=some r) ∧
  tN (mG T ext N) (mG T ext')
 | 0=>by
  refine ⟨fun f args S r h=>⟨0,fun m _=>?_⟩,fun b s k r km _ h=>(by cases h),fun f xs s k r km _ h=>(by cases h)⟩;unfold RB at h;cases hT:T f with
  | none=>rw [hT] at h; cases m <;> (unfold RB; rw [hT]; exact hx _ _ _ _ h)
  | some c=>rw [hT] at h; cases h
 | N + 1=>by
  obtain ⟨ph,og,rh⟩:=HS hx N;refine ⟨?_,?_,?_⟩
  ·intro f args S0 r h;unfold RB at h;cases hT:T f with
   | none=>rw [hT] at h; exact ⟨0,fun m _=>by cases m <;> (unfold RB; rw [hT]; exact hx _ _ _ _ h)⟩
   | some c =>
    rw [hT] at h;cases hm:bL args with
    | some rest =>
     cases S0 with
     | none=>rw [hm] at h; cases h
     | some S =>
      cases S with
      | agg cs =>
       rw [hm] at h;simp only at h;split at h
       ·rename_i hl;refine HA.pred ((sB (lpA:=⟨HF T ext N,mG T ext N⟩) (lpB:=fun m=>⟨HF T ext' m,mG T ext' m⟩) ph rh og c.code _ _ r (fun _=>FY c cs.length) (fun e s' r' h'=>HA.now h') h).imp fun m pc=>?_);unfold RB;rw [hT];simp only [hm];rw [if_pos hl];exact pc
       ·cases h
      | _=>rw [hm] at h; cases h
    | none =>
     rw [hm] at h;simp only at h;split at h
     ·rename_i hl;refine HA.pred ((sB (lpA:=⟨HF T ext N,mG T ext N⟩) (lpB:=fun m=>⟨HF T ext' m,mG T ext' m⟩) ph rh og c.code _ _ r (fun _=>uQ c S0) (fun e s' r' h'=>HA.now h') h).imp fun m pc=>?_);unfold RB;rw [hT];simp only [hm];rw [if_pos hl];exact pc
     ·rename_i hl;split at h
      ·rename_i ii;refine HA.pred ((sB (lpA:=⟨HF T ext N,mG T ext N⟩) (lpB:=fun m=>⟨HF T ext' m,mG T ext' m⟩) ph rh og c.code _ _ r (fun _=>JQ c) (fun e s' r' h'=>HA.now h') h).imp fun m pc=>?_);unfold RB;rw [hT];simp only [hm];rw [if_neg hl,if_pos ii];exact pc
      ·cases h
  ·intro b s k r km hk h;unfold HF at h;refine HA.pred ((sB (lpA:=⟨HF T ext N,mG T ext N⟩) (lpB:=fun m=>⟨HF T ext' m,mG T ext' m⟩) ph rh og b s _ r (fun m=>qK (HF T ext' m) b (km (m + 1))) (fun e s' r' h'=>?_) h).imp fun m hm=>?_)
   ·cases e with
    | nrm=>exact og b s' k r' (fun m=>km (m + 1)) (fun e s'' r'' h''=>(hk e s'' r'' h'').succ) h'
    | exit id=>exact (hk _ _ _ h').succ
    | ret=>exact (hk _ _ _ h').succ
   ·unfold HF;exact hm
  ·intro f xs s k r km hk h;unfold mG at h;cases hT:T f with
   | none=>rw [hT] at h; cases h
   | some c =>
    rw [hT] at h;simp only at h;split at h
    ·rename_i hl;refine HA.pred ((sB (lpA:=⟨HF T ext N,mG T ext N⟩) (lpB:=fun m=>⟨HF T ext' m,mG T ext' m⟩) ph rh og c.code _ _ r (fun m=>KB c (km (m + 1))) (fun e s' r' h'=>?_) h).imp fun m hm=>?_)
     ·cases e with
      | exit id=>cases h'
      | nrm =>
       simp only [KB] at h' ⊢;obtain ⟨y,hy,h'⟩:=y0.1 h';simp only [hy,U];exact (hk _ _ _ h').succ
      | ret =>
       simp only [KB] at h' ⊢;obtain ⟨y,hy,h'⟩:=y0.1 h';simp only [hy,U];exact (hk _ _ _ h').succ
     ·unfold mG;rw [hT];simp only;rw [if_pos hl];exact hm
    ·cases h
theorem fH:∀ N,(∀ f args S r,RB T ext N f args S=some r->HA fun m=>RB T ext m f args S=some r) ∧
  (∀ b s k r (km:Nat->Ex->tA->Option RV),(∀ e s' r',k e s'=some r'->HA fun m=>km m e s'=some r')->HF T ext N b s k=some r->HA fun m=>HF T ext m b s (km m)=some r)/\tN (mG T ext N) (mG T ext):=HS fun _ _ _ _ h=>h
open Classical in
noncomputable def cP (T:Nat->Option PA) (ext:OA) (f:Nat) (args:List AV) (S0:Option AV):Option RV:=if h:∃ r n,RB T ext n f args S0=some r then some h.choose else none
open Classical in
noncomputable def cR (T:Nat->Option PA) (ext:OA):B6:=fun b s k=>if h:∃ r n,HF T ext n b s k=some r then some h.choose else none
open Classical in
noncomputable def i7 (T:Nat->Option PA) (ext:OA):E7:=fun f xs s k=>if h:∃ r n,mG T ext n f xs s k=some r then some h.choose else none
noncomputable def o7 (T:Nat->Option PA) (ext:OA):LH:=⟨cR T ext,i7 T ext⟩
theorem bF {f:Nat} {args:List AV} {S0:Option AV} {r:RV}:cP T ext f args S0=some r ↔ ∃ n,RB T ext n f args S0=some r:=by
 unfold cP;constructor
 ·intro h;split at h
  ·rename_i hh; injection h with h; exact h ▸ hh.choose_spec
  ·cases h
 ·rintro ⟨n,hn⟩;have hh:∃ r n,RB T ext n f args S0=some r:=⟨r,n,hn⟩;rw [dif_pos hh];obtain ⟨n',fh⟩:=hh.choose_spec;obtain ⟨m,h1,h2⟩:=(((fH n).1 f args S0 r hn).and ((fH n').1 f args S0 _ fh)).some;rw [h1] at h2;exact h2.symm
theorem HR {b:C} {s:tA} {k:Ex->tA->Option RV} {r:RV}:cR T ext b s k=some r ↔ ∃ n,HF T ext n b s k=some r:=by
 unfold cR;constructor
 ·intro h;split at h
  ·rename_i hh; injection h with h; exact h ▸ hh.choose_spec
  ·cases h
 ·rintro ⟨n,hn⟩;have hh:∃ r n,HF T ext n b s k=some r:=⟨r,n,hn⟩;rw [dif_pos hh];obtain ⟨n',fh⟩:=hh.choose_spec;obtain ⟨m,h1,h2⟩:=(((fH n).2.1 b s k r (fun _=>k) (fun e s' r' h=>HA.now h) hn).and ((fH n').2.1 b s k _ (fun _=>k) (fun e s' r' h=>HA.now h) fh)).some;rw [h1] at h2;exact h2.symm
theorem GR {f:Nat} {xs:List qA} {s:tA} {k:qA->tA->Option RV} {r:RV}:i7 T ext f xs s k=some r ↔ ∃ n,mG T ext n f xs s k=some r:=by
 unfold i7;constructor
 ·intro h;split at h
  ·rename_i hh; injection h with h; exact h ▸ hh.choose_spec
  ·cases h
 ·rintro ⟨n,hn⟩;have hh:∃ r n,mG T ext n f xs s k=some r:=⟨r,n,hn⟩;rw [dif_pos hh];obtain ⟨n',fh⟩:=hh.choose_spec;obtain ⟨m,h1,h2⟩:=(((fH n).2.2 f xs s k r (fun _=>k) (fun e s' r' h=>HA.now h) hn).and ((fH n').2.2 f xs s k _ (fun _=>k) (fun e s' r' h=>HA.now h) fh)).some;rw [h1] at h2;exact h2.symm
theorem FR {ext':OA} (hx:∀ f args S r,ext f args S=some r->ext' f args S=some r) {f:Nat} {args:List AV} {S0:Option AV} {r:RV} (h:cP T ext f args S0=some r):cP T ext' f args S0=some r:=by
 obtain ⟨n,hn⟩:=bF.1 h;exact bF.2 ((HS hx n).1 f args S0 r hn).some
theorem JR (f:Nat) (args:List AV) (S0:Option AV) (r:RV) (h:cP T ext f args S0=some r):HA fun m=>RB T ext m f args S0=some r:=by
 obtain ⟨n,hn⟩:=bF.1 h;exact (fH n).1 f args S0 r hn
theorem KR (b:C) (s:tA) (k:Ex->tA->Option RV) (r:RV) (km:Nat->Ex->tA->Option RV) (hk:∀ e s' r',k e s'=some r'->HA fun m=>km m e s'=some r') (h:cR T ext b s k=some r):HA fun m=>HF T ext m b s (km m)=some r:=by
 obtain ⟨n,hn⟩:=HR.1 h;exact (fH n).2.1 b s k r km hk hn
theorem SY:tN (i7 T ext) (mG T ext):=fun f xs s k r km hk h=>by
 obtain ⟨n,hn⟩:=GR.1 h;exact (fH n).2.2 f xs s k r km hk hn
theorem HQ (c:C) (s:tA) (k:Ex->tA->Option RV) (r:RV) (km:Nat->Ex->tA->Option RV) (hk:∀ e s' r',k e s'=some r'->HA fun m=>km m e s'=some r') (h:c.run (cP T ext) (o7 T ext) s k=some r):HA fun m=>c.run (RB T ext m) ⟨HF T ext m,mG T ext m⟩ s (km m)=some r :=
 sB (lpA:=o7 T ext) (lpB:=fun m=>⟨HF T ext m,mG T ext m⟩) JR SY KR c s k r km hk h
theorem mA {f:Nat} {args:List AV} {S0:Option AV} {r:RV} (c:PA) (hT:T f=some c) (hl:args.length=c.np) (h:c.code.run (cP T ext) (o7 T ext) (tA.init args S0) (uQ c S0)=some r) (hm:IC args=false:=by rfl) (hS:UZ S0=true:=by rfl):cP T ext f args S0=some r:=by
 obtain ⟨m,pc⟩:=(HQ c.code _ _ r (fun _=>uQ c S0) (fun e s' r' h'=>HA.now h') h).some;refine bF.2 ⟨m + 1,?_⟩;have hR:bL args=none:=by
  unfold bL;split
  ·cases hm
  ·rfl
 unfold RB;rw [hT];simp only [hR];rw [if_pos ⟨hl,hm,hS⟩];exact pc
theorem mJ {f:Nat} {xs:List qA} {s:tA} {k:qA->tA->Option RV} {r:RV} (c:PA) (hT:T f=some c) (hl:xs.length=c.np) (h:c.code.run (cP T ext) (o7 T ext) (s.initH xs) (KB c k)=some r):i7 T ext f xs s k=some r:=by
 obtain ⟨m,pc⟩:=(HQ c.code _ _ r (fun _=>KB c k) (fun e s' r' h'=>HA.now h') h).some;refine GR.2 ⟨m + 1,?_⟩;unfold mG;rw [hT];simp only;rw [if_pos hl];exact pc
theorem pO {f:Nat} {args:List AV} {S0:Option AV} {r:RV} (hT:T f=none) (h:ext f args S0=some r):cP T ext f args S0=some r:=by
 refine bF.2 ⟨0,?_⟩;unfold RB;rw [hT];exact h
theorem zB {b:C} {s:tA} {k:Ex->tA->Option RV} {r:RV} (h:b.run (cP T ext) (o7 T ext) s (qK (cR T ext) b k)=some r):cR T ext b s k=some r:=by
 have:=HQ b s _ r (fun m=>qK (HF T ext m) b k) (fun e s' r' h'=>by
  cases e with
  | nrm=>exact KR b s' k r' (fun _=>k) (fun e s'' r'' h''=>HA.now h'') h'
  | exit id=>exact HA.now h'
  | ret=>exact HA.now h') h
 obtain ⟨m,hm⟩:=this.some;refine HR.2 ⟨m + 1,?_⟩;unfold HF;exact hm
theorem DY {P:Program} {O:OB} (hm:P.follows .mixedOrders=true) (hT:∀ f c,T f=some c->jA P f c) (pj:∀ f args S r,ext f args S=some r->EA P O f args S r) {f:Nat} {args:List AV} {S0:Option AV} {r:RV} (h:cP T ext f args S0=some r):EA P O f args S0 r:=by
 obtain ⟨n,hn⟩:=bF.1 h;exact (mO hm hT pj n).1 f args S0 r hn
end
end
section
open Go Go.RowKit Go.ChangeShapes Go.WideShapes Go.Deep
section
variable {H:Type} {enc:TypeId × Value->H} {P:Program} {w:World} {base:Nat} {spare:Nat->Bool} {held:Bool}
theorem JT {av:Av} {b sz:Nat}:∀ {els:List (List AV)} {off:Nat},(∀ zb∈els,zb.length=sz)->(∀ (i:Nat) (zb:List AV),els[i]?=some zb->WB av w zb b (off + i * sz))->Rows av w els b off
 | [],_,_,_=>by simp [Rows]
 | zb :: r,off,hl,h=>by
  simp only [Rows];have h0:=h 0 zb rfl;rw [Nat.zero_mul,Nat.add_zero] at h0;refine ⟨h0,JT (fun x hx=>hl x (yr _ hx)) fun i x hx=>?_⟩;have:=h (i + 1) x (by simpa using hx);rw [hl zb yh,show off + sz + i * sz=off + (i + 1) * sz from by rw [yt]; omega];exact this
abbrev bW:Av:=fun _ _=>False
end
end
section
open Go Go.RowKit Go.ChangeShapes Go.WideShapes Go.Deep
def nG (P:Program) (t:TypeId):Bool:=match P.underlying t with
 | some (.struct _) | some (.array ..)=>true
 | _=>false
section
variable {H:Type} {enc:TypeId × Value->H} {P:Program} {w:World} {base:Nat} {spare:Nat->Bool} {held:Bool}
theorem NP (hl:laidOutB P=true) {W W':World} (hb:Below W.heap.size W W'):∀ {ts:List TypeId} {vs:List Value} {ds:List (DataW H)} {p:List MemPlace},DataW.TrodAll enc P W 0 (fun _=>true) true ts vs ds p->ts.all (fun t=>P.readableRec t&&decide (t<P.types.size))=true →
  DataW.TrodAll enc P W' 0 (fun b=>decide (b<W.heap.size)) true ts vs ds p
 | [],vs,ds,p,h,_=>by
  cases vs with
  | nil=>cases ds with
   | nil=>exact h
   | cons=>exact h.elim
  | cons=>cases ds <;> exact h.elim
 | t :: ts,vs,ds,p,h,hs=>by
  have eb:=DataW.TrodAll.lt h;obtain ⟨v,wl,d,ds',p',q',rfl,rfl,rfl,h0,h⟩:=trodAll_cons h;simp only [List.all_cons,y7,decide_eq_true_eq] at hs;exact trodAll_cons_mk (Below.trod hl hs.1.1 hs.1.2 h0 hb fun x hx=>eb x (List.mem_append_left _ hx)) (NP hl hb h hs.2)
end
end
section
open Go Go.RowKit
section
variable {P:Program}
end
set_option maxHeartbeats 1000000
end
section
open Go Go.RowKit
variable {O:OB}
end
abbrev oM (d n:Nat):sA:=⟨some d,.mv (.t n),none⟩
abbrev oF (d a n:Nat):sA:=⟨some d,.faddr a (.t n),none⟩
abbrev oL (d n:Nat):sA:=⟨some d,.load .any false 1 (.t n),none⟩
abbrev oA (d z n:Nat):sA:=⟨some d,.load .any true z (.t n),none⟩
abbrev oB (d:Nat)(o:BinOp)(a b:Nat):sA:=⟨some d,.bin o false (.t a) (.t b),none⟩
abbrev oC (d:Nat)(o:BinOp)(a:Nat)(n:Int):sA:=⟨some d,.bin o false (.t a) (.c (.int .i64 n)),none⟩
abbrev oX (d n i:Nat):sA:=⟨some d,.ext (.t n) i,none⟩
abbrev oV (z a b:Nat):sA:=⟨none,.store .any true z (.t a) (.t b),none⟩
abbrev oW (a b:Nat):sA:=⟨none,.store .any false 1 (.t a) (.t b),none⟩
abbrev oI (d z a b:Nat):sA:=⟨some d,.iaddr z (.t a) (.t b),none⟩
abbrev oJ (d:Nat)(n:Int):sA:=⟨some d,.mv (.c (.int .i64 n)),none⟩
abbrev oH (d n:Nat):sA:=⟨some d,.len false (.t n),none⟩
abbrev oU (d n:Nat):sA:=⟨some d,.un .not (.t n),none⟩
abbrev oZ (d:Nat)(b:Bool):sA:=⟨some d,.mv (.c (.bool b)),none⟩
abbrev oK (d n:Nat):sA:=⟨some d,.nilchk (.t n),none⟩
abbrev oY (d:Nat)(l:List AV):sA:=⟨some d,.alloc l,none⟩
abbrev oQ (d z n:Nat):sA:=⟨some d,.box z (.t n),none⟩
abbrev oS (d:Nat)(k:K):sA:=⟨some d,k,none⟩
abbrev oN (k:K):sA:=⟨none,k,none⟩
abbrev oG (d:Nat)(k:K)(g:Nat)(b:Bool):sA:=⟨some d,k,some (g,b)⟩
abbrev oP (d n g:Nat)(b:Bool):sA:=⟨some d,.load .any false 1 (.t n),some (g,b)⟩
abbrev oR (l:List sA)(c:C):C:=.seq (.reg l) c
abbrev oD (n:Nat)(a b:C):C:=.cond (.t n) a b
abbrev oFg (d o n g:Nat)(b:Bool):sA:=⟨some d,.faddr o (.t n),some (g,b)⟩
abbrev oPa (d a b:Nat):sA:=⟨some d,.pick (.t a) (.t b) (.c (.bool false)),none⟩
abbrev oPo (d a b:Nat):sA:=⟨some d,.pick (.t a) (.c (.bool true)) (.t b),none⟩
abbrev oMg (d n g:Nat)(b:Bool):sA:=⟨some d,.mv (.t n),some (g,b)⟩
abbrev oC1 (d f a:Nat):sA:=⟨some d,.call .any f [.t a],none⟩
abbrev oC2 (d f a b:Nat):sA:=⟨some d,.call .any f [.t a,.t b],none⟩
abbrev oC4 (d f a b c e:Nat):sA:=⟨some d,.call .any f [.t a,.t b,.t c,.t e],none⟩
abbrev oLr (d r z n:Nat):sA:=⟨some d,.load (.root r) false z (.t n),none⟩
abbrev oLg (d z n g:Nat)(b:Bool):sA:=⟨some d,.load .any true z (.t n),some (g,b)⟩
abbrev oBg (d:Nat)(o:BinOp)(a b g:Nat)(w:Bool):sA:=⟨some d,.bin o false (.t a) (.t b),some (g,w)⟩
abbrev oCi (d:Nat)(o:BinOp)(a:Nat)(n:Int)(g:Nat)(w:Bool):sA:=⟨some d,.bin o false (.t a) (.c (.int .i64 n)),some (g,w)⟩
abbrev oHg (d n g:Nat)(b:Bool):sA:=⟨some d,.len false (.t n),some (g,b)⟩
abbrev oUg (d n g:Nat)(b:Bool):sA:=⟨some d,.un .not (.t n),some (g,b)⟩
abbrev oIg (d z a b g:Nat)(w:Bool):sA:=⟨some d,.iaddr z (.t a) (.t b),some (g,w)⟩
abbrev oAp (d e z y a b:Nat):sA:=⟨some d,.app .any e z y (.t a) (.t b),none⟩
abbrev oPb (d a b g:Nat)(w:Bool):sA:=⟨some d,.pick (.t a) (.t b) (.c (.bool false)),some (g,w)⟩
abbrev oCg (d f a b g:Nat)(w:Bool):sA:=⟨some d,.call .any f [.t a,.t b],some (g,w)⟩
abbrev zza:List AV:=[(.int .i64 0),(.int .i64 0),(.int .i64 0),(.str (ByteArray.mk #[])),(.int .i64 0),(.str (ByteArray.mk #[])),(.int .i64 0),(.bool false),(.bool false),(.int .i64 0),(.bool false),(.int .i64 0),(.str (ByteArray.mk #[])),(.int .i64 0),(.sl true []),(.sl true []),(.sl true []),(.int .i64 0),(.str (ByteArray.mk #[])),(.int .i64 0),(.int .i64 0),(.int .i64 0),(.bool false),(.int .i64 0),(.int .i64 0)]
abbrev zzb:List AV:=[(.int .i64 0),(.str (ByteArray.mk #[])),(.int .i64 0),(.int .i64 0),(.int .i64 0),(.sl true []),(.sl true []),(.int .i64 0),(.int .i64 0),(.bool false)]
abbrev zzc:List AV:=[(.int .i64 0),(.str (ByteArray.mk #[])),(.int .i64 0),(.bool false),(.bool false),(.int .i64 0),(.bool false),(.int .i64 0),(.str (ByteArray.mk #[])),(.int .i64 0),(.sl true []),(.sl true []),(.sl true [])]
noncomputable def cF (l:List Nat) (f:Func):PA:=(fK Tryz.prog l f).getD ⟨.skip,[],0,[]⟩
def PB:PA:=⟨(oR [oQ 1 25 0,oZ 2 false] (.seq (oR [oS 3 (.call .any 11 []),oU 4 3,oM 5 4,oLg 6 25 1 5 false,oG 7 (.bsl zza 1 [(0,(.t 6))]) 5 false,oG 8 (.call .any 13 [(.t 7)]) 5 false,oUg 9 8 5 false,oPo 10 5 9] (oD 10 (oR [oS 11 (.call .any 11 []),oM 2 11] .ret) .skip)) (oR [oA 12 25 1,oC1 13 25 12,oA 14 25 1,oC1 15 26 14,oB 16 .eql 13 15,oM 2 16] .ret))),[(.tmp 2)],1,[]⟩
theorem okF {n:Nat} {f:Func} {c:PA} (h:Tryz.prog.funcs[n]?=some f) (a:∀ xs w,(callFunc n xs).run Tryz.prog w=.ok (.enter n xs) w:=by intro _ _;kernel_rfl) (b:fK Tryz.prog c.mu f=some c:=by kernel_rfl):jA Tryz.prog n c:=⟨a,f,h,b⟩
theorem nI:jA Tryz.prog 7 PB:=okF Tryz.func7
noncomputable def rK:PA:=cF [] Tryz.f11
theorem eP:jA Tryz.prog 11 rK:=okF Tryz.func11
def EC:C:=.seq (oR [oM 36 6,oF 37 6 5,oL 38 37,oH 39 38,oB 40 .lss 36 39,oM 41 40,oMg 42 6 41 true,oCi 43 .lss 42 100 41 true,oPa 44 41 43] (oD 44 .skip (.exit 2))) (.seq (.block 3 (.reg [oM 47 3,oF 48 6 5,oL 49 48,oM 50 6,oI 51 13 49 50,oF 52 5 51,oA 53 8 52,oC1 54 33 53,oB 55 .add 47 54,oF 56 6 5,oL 57 56,oM 58 6,oI 59 13 57 58,oF 60 1 59,oL 61 60,oS 62 (.len true (.t 61)),oB 63 .add 55 62,oM 3 63])) (.reg [oM 45 6,oC 46 .add 45 1,oM 6 46]))
def iF:C:=.seq (oR [oM 11 4,oF 12 0 1,oL 13 12,oH 14 13,oB 15 .lss 11 14] (oD 15 .skip (.exit 0))) (.seq (.block 1 (oR [oF 18 0 1,oL 19 18,oM 20 4,oI 21 10 19 20,oA 22 10 21,oY 5 zzb,oV 10 5 22] (oR [oM 23 3,oF 24 6 5,oL 25 24,oH 26 25,oB 27 .add 23 26,oF 28 5 5,oL 29 28,oH 30 29,oB 31 .add 27 30,oF 32 1 5,oL 33 32,oS 34 (.len true (.t 33)),oB 35 .add 31 34,oM 3 35] (oR [oJ 6 0] (.block 2 (.loop EC)))))) (.reg [oM 16 4,oC 17 .add 16 1,oM 4 17]))
def cE:PA:=⟨(oR [oQ 1 1 0,oZ 2 false] (.seq (oR [oF 7 0 1,oL 8 7,oH 9 8,oC 10 .gtr 9 40] (oD 10 (oR [oZ 2 false] .ret) .skip)) (oR [oJ 3 0] (.seq (oR [oJ 4 0] (.block 0 (.loop iF))) (oR [oM 64 3,oC 65 .leq 64 400,oM 2 65] .ret))))),[(.tmp 2)],1,[]⟩
theorem eR:jA Tryz.prog 12 cE:=okF Tryz.func12
def GB:C:=.seq (oR [oM 7 3,oM 8 0,oH 9 8,oB 10 .lss 7 9] (oD 10 .skip (.exit 0))) (.seq (.block 1 (oR [oM 13 0,oM 14 3,oI 15 25 13 14,oF 16 4 15,oA 17 13 16,oS 18 (.bsl zzc 1 [(0,(.t 17))]),oS 19 (.build zzb [(6,(1,(.t 18)))]),oS 20 (.bsl zzb 1 [(0,(.t 19))]),oS 21 (.build [(.sl true [])] [(0,(1,(.t 20)))]),oC1 22 12 21,oU 23 22,oM 24 23,oMg 25 0 24 false,oMg 26 3 24 false,oIg 27 25 25 26 24 false,oFg 28 3 27 24 false,oP 29 28 24 false,oG 30 (.len true (.t 29)) 24 false,oMg 31 0 24 false,oMg 32 3 24 false,oIg 33 25 31 32 24 false,oFg 34 17 33 24 false,oFg 35 1 34 24 false,oP 36 35 24 false,oG 37 (.len true (.t 36)) 24 false,oBg 38 .add 30 37 24 false,oCi 39 .gtr 38 100 24 false,oPo 40 24 39] (oD 40 (oR [oZ 2 false] .ret) .skip))) (.reg [oM 11 3,oC 12 .add 11 1,oM 3 12]))
def bE:PA:=⟨(oR [oZ 2 false] (.seq (oR [oM 4 0,oH 5 4,oC 6 .gtr 5 20] (oD 6 (oR [oZ 2 false] .ret) .skip)) (.seq (oR [oJ 3 0] (.block 0 (.loop GB))) (oR [oZ 2 true] .ret)))),[(.tmp 2)],1,[]⟩
theorem rR:jA Tryz.prog 13 bE:=okF Tryz.func13
noncomputable def DI:PA:=cF [1000000 + 35,1000000 + 37,30000000 + 34] Tryz.f14
theorem XN:jA Tryz.prog 14 DI:=okF Tryz.func14
noncomputable def wK:PA:=cF [] Tryz.f17
theorem qP:jA Tryz.prog 17 wK:=okF Tryz.func17
noncomputable def BK:PA:=cF [] Tryz.f19
theorem TP:jA Tryz.prog 19 BK:=okF Tryz.func19
noncomputable def JH:PA:=cF [] Tryz.f21
theorem QM:jA Tryz.prog 21 JH:=okF Tryz.func21
noncomputable def NF:PA:=cF [1000000 + 35,1000000 + 37,30000000 + 21] Tryz.f23
theorem EK:jA Tryz.prog 23 NF:=okF Tryz.func23
def wA:PA:=⟨(oR [oQ 1 25 0,oS 2 (.mv (.c (.str (ByteArray.mk #[]))))] (oR [oF 5 1 1,oL 6 5,oC1 7 50 6,oS 8 (.bslr 1 [(.str (ByteArray.mk #[]))] 2 [(0,(.c (.str (ByteArray.mk #[117,110,107,110,111,119,110])))),(1,(.t 7))]),oS 3 (.alloc [(.sl true [])]),oW 3 8] (oR [oS 9 (.mkf 51 [(.t 3)]),oM 4 9] (.seq (oR [oF 10 0 1,oL 11 10] (.block 0 (.seq (oR [oC 13 .eql 11 1,oM 12 13] (oD 12 .skip (.reg [oC 14 .eql 11 3,oM 12 14]))) (oD 12 (oR [oL 15 3,oS 16 (.iaddr 1 (.t 15) (.c (.int .i64 0))),oN (.store .any false 1 (.t 16) (.c (.str (ByteArray.mk #[97,100,100]))))] (.seq (oR [oF 17 0 1,oL 18 17,oC 19 .eql 18 3] (oD 19 (.reg [oL 20 3,oS 21 (.iaddr 1 (.t 20) (.c (.int .i64 0))),oN (.store .any false 1 (.t 21) (.c (.str (ByteArray.mk #[109,101,109,98,101,114]))))]) .skip)) (oR [oLr 22 3 1 3,oF 23 4 1,oF 24 0 23,oLr 25 1 1 24,oC1 26 50 25,oF 27 4 1,oF 28 1 27,oLr 29 1 1 28,oF 30 4 1,oF 31 2 30,oLr 32 1 1 31,oC1 33 50 32,oS 34 (.bsl [(.str (ByteArray.mk #[]))] 3 [(0,(.t 26)),(1,(.t 29)),(2,(.t 33))]),oS 35 (.appm .any 9 1 16 (.t 22) (.t 34)),oN (.store (.root 3) false 1 (.t 3) (.t 35))] (.seq (oR [oF 36 4 1,oF 37 3 36,oL 38 37] (oD 38 (.reg [oL 39 3,oS 40 (.bsl [(.str (ByteArray.mk #[]))] 1 [(0,(.c (.str (ByteArray.mk #[99,114,105,116,105,99,97,108]))))]),oS 41 (.appm .any 9 1 16 (.t 39) (.t 40)),oW 3 41]) .skip)) (oR [oF 42 4 1,oF 43 4 42,oL 44 43] (oD 44 (.reg [oL 45 3,oS 46 (.bsl [(.str (ByteArray.mk #[]))] 1 [(0,(.c (.str (ByteArray.mk #[100,101,102,97,117,108,116]))))]),oS 47 (.appm .any 9 1 16 (.t 45) (.t 46)),oW 3 47]) .skip)))))) (oR [oC 49 .eql 11 2,oM 48 49] (oD 48 (oR [oL 50 3,oS 51 (.iaddr 1 (.t 50) (.c (.int .i64 0))),oN (.store .any false 1 (.t 51) (.c (.str (ByteArray.mk #[114,101,109,111,118,101]))))] (.reg [oM 52 4,oF 53 2 1,oL 54 53,oS 55 (.bsl [(.int .i64 0)] 1 [(0,(.t 54))]),oS 56 (.callh 130 (.t 52) [(.t 55)])])) (oR [oC 58 .eql 11 5,oM 57 58] (oD 57 (oR [oL 59 3,oS 60 (.iaddr 1 (.t 59) (.c (.int .i64 0))),oN (.store .any false 1 (.t 60) (.c (.str (ByteArray.mk #[100,114,111,112]))))] (.reg [oM 61 4,oF 62 2 1,oL 63 62,oS 64 (.bsl [(.int .i64 0)] 1 [(0,(.t 63))]),oS 65 (.callh 130 (.t 61) [(.t 64)])])) (oR [oC 67 .eql 11 4,oM 66 67] (oD 66 (oR [oL 68 3,oS 69 (.iaddr 1 (.t 68) (.c (.int .i64 0))),oN (.store .any false 1 (.t 69) (.c (.str (ByteArray.mk #[115,121,109,98,111,108]))))] (oR [oM 70 4,oF 71 17 1,oF 72 0 71,oL 73 72,oS 74 (.bsl [(.int .i64 0)] 1 [(0,(.t 73))]),oS 75 (.callh 130 (.t 70) [(.t 74)])] (.reg [oL 76 3,oF 77 17 1,oF 78 1 77,oL 79 78,oS 80 (.bsl [(.str (ByteArray.mk #[]))] 1 [(0,(.t 79))]),oS 81 (.appm .any 9 1 16 (.t 76) (.t 80)),oW 3 81]))) (oR [oC 83 .eql 11 6,oM 82 83] (oD 82 (oR [oL 84 3,oS 85 (.iaddr 1 (.t 84) (.c (.int .i64 0))),oN (.store .any false 1 (.t 85) (.c (.str (ByteArray.mk #[110,97,109,101]))))] (.reg [oL 86 3,oF 87 3 1,oL 88 87,oS 89 (.bsl [(.str (ByteArray.mk #[]))] 1 [(0,(.t 88))]),oS 90 (.appm .any 9 1 16 (.t 86) (.t 89)),oW 3 90])) (oR [oC 92 .eql 11 7,oM 91 92] (oD 91 (oR [oL 93 3,oS 94 (.iaddr 1 (.t 93) (.c (.int .i64 0))),oN (.store .any false 1 (.t 94) (.c (.str (ByteArray.mk #[98,111,117,110,100,115]))))] (.reg [oLr 95 3 1 3,oF 96 19 1,oLr 97 1 1 96,oS 98 (.call .any 52 [(.t 97),(.c (.int .i64 10))]),oF 99 20 1,oLr 100 1 1 99,oS 101 (.call .any 52 [(.t 100),(.c (.int .i64 10))]),oF 102 21 1,oLr 103 1 1 102,oC1 104 50 103,oS 105 (.bsl [(.str (ByteArray.mk #[]))] 3 [(0,(.t 98)),(1,(.t 101)),(2,(.t 104))]),oS 106 (.appm .any 9 1 16 (.t 95) (.t 105)),oN (.store (.root 3) false 1 (.t 3) (.t 106))])) (oR [oC 108 .eql 11 8,oM 107 108] (oD 107 (oR [oL 109 3,oS 110 (.iaddr 1 (.t 109) (.c (.int .i64 0))),oN (.store .any false 1 (.t 110) (.c (.str (ByteArray.mk #[111,112,101,110]))))] (.reg [oLr 111 3 1 3,oF 112 22 1,oLr 113 1 1 112,oC1 114 53 113,oS 115 (.bsl [(.str (ByteArray.mk #[]))] 1 [(0,(.t 114))]),oS 116 (.appm .any 9 1 16 (.t 111) (.t 115)),oN (.store (.root 3) false 1 (.t 3) (.t 116))])) (oR [oC 118 .eql 11 9,oM 117 118] (oD 117 (oR [oL 119 3,oS 120 (.iaddr 1 (.t 119) (.c (.int .i64 0))),oN (.store .any false 1 (.t 120) (.c (.str (ByteArray.mk #[117,115,101,115]))))] (.reg [oM 121 4,oF 122 23 1,oL 123 122,oF 124 24 1,oL 125 124,oS 126 (.bsl [(.int .i64 0)] 2 [(0,(.t 123)),(1,(.t 125))]),oS 127 (.callh 130 (.t 121) [(.t 126)])])) .skip)))))))))))))))))) (oR [oL 128 3,oS 129 (.callq .any 54 [(.t 128),(.c (.str (ByteArray.mk #[32])))]),oM 2 129] .ret))))),[(.tmp 2)],1,[16,71,83,95,163,181,213,233,2000052,2000061,2000070,2000121,30000000 + 54]⟩
theorem mM:jA Tryz.prog 25 wA:=okF Tryz.func25
def eA:PA:=⟨(oR [oQ 1 25 0,oS 2 (.mv (.c (.str (ByteArray.mk #[]))))] (oR [oS 5 (.bsl [(.str (ByteArray.mk #[]))] 10 [(0,(.c (.str (ByteArray.mk #[117,110,107,110,111,119,110])))),(1,(.c (.str (ByteArray.mk #[97,100,100])))),(2,(.c (.str (ByteArray.mk #[114,101,109,111,118,101])))),(3,(.c (.str (ByteArray.mk #[109,101,109,98,101,114])))),(4,(.c (.str (ByteArray.mk #[115,121,109,98,111,108])))),(5,(.c (.str (ByteArray.mk #[100,114,111,112])))),(6,(.c (.str (ByteArray.mk #[110,97,109,101])))),(7,(.c (.str (ByteArray.mk #[98,111,117,110,100,115])))),(8,(.c (.str (ByteArray.mk #[111,112,101,110])))),(9,(.c (.str (ByteArray.mk #[117,115,101,115]))))]),oM 3 5] (.seq (oR [oF 6 0 1,oL 7 6,oC 8 .lss 7 1,oM 9 8,oFg 10 0 1 9 false,oP 11 10 9 false,oCi 12 .gtr 11 9 9 false,oPo 13 9 12] (oD 13 (oR [oM 14 3,oS 15 (.iaddr 1 (.t 14) (.c (.int .i64 0))),oL 16 15,oS 17 (.bin .add false (.t 16) (.c (.str (ByteArray.mk #[32])))),oF 18 1 1,oL 19 18,oC1 20 50 19,oB 21 .add 17 20,oM 2 21] .ret) .skip)) (oR [oM 22 3,oF 23 0 1,oL 24 23,oI 25 1 22 24,oL 26 25,oS 27 (.bin .add false (.t 26) (.c (.str (ByteArray.mk #[32])))),oF 28 1 1,oL 29 28,oC1 30 50 29,oB 31 .add 27 30,oS 32 (.bin .add false (.t 31) (.c (.str (ByteArray.mk #[32])))),oM 4 32] (.seq (oR [oF 33 0 1,oL 34 33] (.block 0 (.seq (oR [oC 46 .eql 34 1,oM 45 46] (oD 45 .skip (.reg [oC 47 .eql 34 3,oM 45 47]))) (oD 45 (oR [oM 48 4,oF 49 4 1,oF 50 0 49,oL 51 50,oC1 52 50 51,oB 53 .add 48 52,oS 54 (.bin .add false (.t 53) (.c (.str (ByteArray.mk #[32])))),oF 55 4 1,oF 56 1 55,oL 57 56,oB 58 .add 54 57,oS 59 (.bin .add false (.t 58) (.c (.str (ByteArray.mk #[32])))),oF 60 4 1,oF 61 2 60,oL 62 61,oC1 63 50 62,oB 64 .add 59 63,oM 4 64] (.seq (oR [oF 65 4 1,oF 66 3 65,oL 67 66] (oD 67 (.reg [oM 68 4,oS 69 (.bin .add false (.t 68) (.c (.str (ByteArray.mk #[32,99,114,105,116,105,99,97,108])))),oM 4 69]) .skip)) (oR [oF 70 4 1,oF 71 4 70,oL 72 71] (oD 72 (.reg [oM 73 4,oS 74 (.bin .add false (.t 73) (.c (.str (ByteArray.mk #[32,100,101,102,97,117,108,116])))),oM 4 74]) .skip)))) (.seq (oR [oC 76 .eql 34 2,oM 75 76] (oD 75 .skip (.reg [oC 77 .eql 34 5,oM 75 77]))) (oD 75 (.reg [oM 78 4,oF 79 2 1,oL 80 79,oC1 81 50 80,oB 82 .add 78 81,oM 4 82]) (oR [oC 84 .eql 34 4,oM 83 84] (oD 83 (.reg [oM 85 4,oF 86 17 1,oF 87 0 86,oL 88 87,oC1 89 50 88,oB 90 .add 85 89,oS 91 (.bin .add false (.t 90) (.c (.str (ByteArray.mk #[32])))),oF 92 17 1,oF 93 1 92,oL 94 93,oB 95 .add 91 94,oM 4 95]) (oR [oC 97 .eql 34 6,oM 96 97] (oD 96 (.reg [oM 98 4,oF 99 3 1,oL 100 99,oB 101 .add 98 100,oM 4 101]) (oR [oC 103 .eql 34 7,oM 102 103] (oD 102 (.reg [oM 104 4,oF 105 19 1,oL 106 105,oS 107 (.call .any 52 [(.t 106),(.c (.int .i64 10))]),oB 108 .add 104 107,oS 109 (.bin .add false (.t 108) (.c (.str (ByteArray.mk #[32])))),oF 110 20 1,oL 111 110,oS 112 (.call .any 52 [(.t 111),(.c (.int .i64 10))]),oB 113 .add 109 112,oS 114 (.bin .add false (.t 113) (.c (.str (ByteArray.mk #[32])))),oF 115 21 1,oL 116 115,oC1 117 50 116,oB 118 .add 114 117,oM 4 118]) (oR [oC 120 .eql 34 8,oM 119 120] (oD 119 (.reg [oM 121 4,oF 122 22 1,oL 123 122,oC1 124 53 123,oB 125 .add 121 124,oM 4 125]) (.reg [oM 35 4,oF 36 23 1,oL 37 36,oC1 38 50 37,oB 39 .add 35 38,oS 40 (.bin .add false (.t 39) (.c (.str (ByteArray.mk #[32])))),oF 41 24 1,oL 42 41,oC1 43 50 42,oB 44 .add 40 43,oM 4 44]))))))))))))))) (oR [oM 126 4,oM 2 126] .ret)))))),[(.tmp 2)],1,[]⟩
theorem wO:jA Tryz.prog 26 eA:=okF Tryz.func26
noncomputable def wI:PA:=cF [] Tryz.f31
theorem AM:jA Tryz.prog 31 wI:=okF Tryz.func31
noncomputable def kN:PA:=cF [] Tryz.f32
theorem wR:jA Tryz.prog 32 kN:=okF Tryz.func32
def rD:C:=.seq (oR [oM 41 6,oF 42 7 1,oL 43 42,oH 44 43,oB 45 .lss 41 44] (oD 45 .skip (.exit 4))) (.seq (.block 5 (.reg [oM 48 3,oC 49 .add 48 1,oF 50 7 1,oL 51 50,oM 52 6,oI 53 2 51 52,oF 54 1 53,oL 55 54,oS 56 (.len true (.t 55)),oB 57 .add 49 56,oM 3 57])) (.reg [oM 46 6,oC 47 .add 46 1,oM 6 47]))
def tD:C:=.seq (oR [oM 26 5,oF 27 6 1,oL 28 27,oH 29 28,oB 30 .lss 26 29] (oD 30 .skip (.exit 2))) (.seq (.block 3 (.reg [oM 33 3,oF 34 6 1,oL 35 34,oM 36 5,oI 37 8 35 36,oA 38 8 37,oC1 39 33 38,oB 40 .add 33 39,oM 3 40])) (.reg [oM 31 5,oC 32 .add 31 1,oM 5 32]))
def uD:C:=.seq (oR [oM 11 4,oF 12 5 1,oL 13 12,oH 14 13,oB 15 .lss 11 14] (oD 15 .skip (.exit 0))) (.seq (.block 1 (.reg [oM 18 3,oF 19 5 1,oL 20 19,oM 21 4,oI 22 8 20 21,oA 23 8 22,oC1 24 33 23,oB 25 .add 18 24,oM 3 25])) (.reg [oM 16 4,oC 17 .add 16 1,oM 4 17]))
def DE:PA:=⟨(oR [oQ 1 8 0,oJ 2 0] (oR [oF 7 3 1,oL 8 7,oS 9 (.len true (.t 8)),oS 10 (.bin .add false (.c (.int .i64 1)) (.t 9)),oM 3 10] (.seq (oR [oJ 4 0] (.block 0 (.loop uD))) (.seq (oR [oJ 5 0] (.block 2 (.loop tD))) (.seq (oR [oJ 6 0] (.block 4 (.loop rD))) (oR [oM 58 3,oM 2 58] .ret)))))),[(.tmp 2)],1,[]⟩
theorem RP:jA Tryz.prog 33 DE:=okF Tryz.func33
noncomputable def ZI:PA:=cF [] Tryz.f34
theorem rO:jA Tryz.prog 34 ZI:=okF Tryz.func34
noncomputable def ZH:PA:=cF [10000000 + 59,10000000 + 60,10000000 + 61] Tryz.f35
theorem EM:jA Tryz.prog 35 ZH:=okF Tryz.func35
noncomputable def FI:PA:=cF [10000000 + 62,10000000 + 63] Tryz.f36
theorem CN:jA Tryz.prog 36 FI:=okF Tryz.func36
noncomputable def KH:PA:=cF [6000000,7000000,1000000 + 66,20000000 + 68,20000000 + 69,20000000 + 72,20000000 + 73,30000000 + 65,30000000 + 70,30000000 + 64] Tryz.f37
theorem WM:jA Tryz.prog 37 KH:=okF Tryz.func37
noncomputable def KG:PA:=cF [] Tryz.f40
theorem SL:jA Tryz.prog 40 KG:=okF Tryz.func40
noncomputable def xC:PA:=cF [] Tryz.f41
theorem RE:jA Tryz.prog 41 xC:=okF Tryz.func41
noncomputable def AG:PA:=cF [] Tryz.f42
theorem RL:jA Tryz.prog 42 AG:=okF Tryz.func42
noncomputable def XH:PA:=cF [69,129,153,195,233,293,331,371,433,471] Tryz.f43
theorem RM:jA Tryz.prog 43 XH:=okF Tryz.func43
noncomputable def sF:PA:=cF [] Tryz.f45
theorem KJ:jA Tryz.prog 45 sF:=okF Tryz.func45
noncomputable def NH:PA:=cF [] Tryz.f46
theorem IM:jA Tryz.prog 46 NH:=okF Tryz.func46
noncomputable def FD:PA:=cF [] Tryz.f47
theorem RH:jA Tryz.prog 47 FD:=okF Tryz.func47
def aA:C:=oR [oB 8 .lss 7 6] (.seq (oD 8 .skip (.exit 0)) (.seq (.block 1 (oR [oI 9 1 5 7,oL 10 9,oM 4 10] (.reg [oL 11 1,oM 12 4,oC1 13 50 12,oS 14 (.bsl [(.str (ByteArray.mk #[]))] 1 [(0,(.t 13))]),oS 15 (.appm .any 9 1 16 (.t 11) (.t 14)),oW 1 15]))) (.reg [oC 16 .add 7 1,oM 7 16])))
def SA:PA:=⟨(oR [oM 5 0,oH 6 5,oJ 7 0] (.block 0 (.loop aA))),[],2,[31]⟩
theorem AJ:jA Tryz.prog 51 SA:=okF Tryz.func51
noncomputable def uK:PA:=cF [] Tryz.f57
theorem tP:jA Tryz.prog 57 uK:=okF Tryz.func57
noncomputable def pK:PA:=cF [] Tryz.f58
theorem iP:jA Tryz.prog 58 pK:=okF Tryz.func58
noncomputable def gD:PA:=cF [14] Tryz.f59
theorem zG:jA Tryz.prog 59 gD:=okF Tryz.func59
noncomputable def XC:PA:=cF [14] Tryz.f60
theorem OF:jA Tryz.prog 60 XC:=okF Tryz.func60
noncomputable def ZC:PA:=cF [14] Tryz.f61
theorem IF:jA Tryz.prog 61 ZC:=okF Tryz.func61
noncomputable def qD:PA:=cF [14] Tryz.f62
theorem LF:jA Tryz.prog 62 qD:=okF Tryz.func62
noncomputable def cD:PA:=cF [14] Tryz.f63
theorem uH:jA Tryz.prog 63 cD:=okF Tryz.func63
noncomputable def SG:PA:=cF [] Tryz.f64
theorem TL:jA Tryz.prog 64 SG:=okF Tryz.func64
noncomputable def CH:PA:=cF [] Tryz.f65
theorem TM:jA Tryz.prog 65 CH:=okF Tryz.func65
noncomputable def GI:PA:=cF [2000010] Tryz.f66
theorem BN:jA Tryz.prog 66 GI:=okF Tryz.func66
noncomputable def eF:PA:=cF [] Tryz.f67
theorem SJ:jA Tryz.prog 67 eF:=okF Tryz.func67
noncomputable def BH:PA:=cF [] Tryz.f70
theorem UM:jA Tryz.prog 70 BH:=okF Tryz.func70
noncomputable def rF:PA:=cF [] Tryz.f71
theorem DJ:jA Tryz.prog 71 rF:=okF Tryz.func71
noncomputable def tK:PA:=cF [] Tryz.f75
theorem rP:jA Tryz.prog 75 tK:=okF Tryz.func75
noncomputable def iI:PA:=cF [] Tryz.f78
theorem HM:jA Tryz.prog 78 iI:=okF Tryz.func78
noncomputable def LI:PA:=cF [] Tryz.f79
theorem eO:jA Tryz.prog 79 LI:=okF Tryz.func79
noncomputable def aF:PA:=cF [] Tryz.f80
theorem JJ:jA Tryz.prog 80 aF:=okF Tryz.func80
noncomputable def eK:PA:=cF [] Tryz.f81
theorem wP:jA Tryz.prog 81 eK:=okF Tryz.func81
noncomputable def JI:PA:=cF [] Tryz.f82
theorem MN:jA Tryz.prog 82 JI:=okF Tryz.func82
noncomputable def KI:PA:=cF [] Tryz.f83
theorem qO:jA Tryz.prog 83 KI:=okF Tryz.func83
noncomputable def DG:PA:=cF [] Tryz.f84
theorem UL:jA Tryz.prog 84 DG:=okF Tryz.func84
noncomputable def XG:PA:=cF [113,1000000 + 126] Tryz.f85
theorem GL:jA Tryz.prog 85 XG:=okF Tryz.func85
noncomputable def HI:PA:=cF [] Tryz.f101
theorem NN:jA Tryz.prog 101 HI:=okF Tryz.func101
noncomputable def ZG:PA:=cF [] Tryz.f102
theorem FL:jA Tryz.prog 102 ZG:=okF Tryz.func102
noncomputable def LG:PA:=cF [] Tryz.f103
theorem DL:jA Tryz.prog 103 LG:=okF Tryz.func103
noncomputable def CI:PA:=cF [] Tryz.f104
theorem uO:jA Tryz.prog 104 CI:=okF Tryz.func104
noncomputable def NB:PA:=cF [] Tryz.f105
theorem MD:jA Tryz.prog 105 NB:=okF Tryz.func105
noncomputable def tF:PA:=cF [] Tryz.f106
theorem FJ:jA Tryz.prog 106 tF:=okF Tryz.func106
noncomputable def MB:PA:=cF [] Tryz.f109
theorem qE:jA Tryz.prog 109 MB:=okF Tryz.func109
noncomputable def uF:PA:=cF [] Tryz.f110
theorem GJ:jA Tryz.prog 110 uF:=okF Tryz.func110
noncomputable def pI:PA:=cF [] Tryz.f117
theorem JM:jA Tryz.prog 117 pI:=okF Tryz.func117
noncomputable def aI:PA:=cF [] Tryz.f118
theorem KM:jA Tryz.prog 118 aI:=okF Tryz.func118
noncomputable def rG:PA:=cF [] Tryz.f119
theorem PK:jA Tryz.prog 119 rG:=okF Tryz.func119
noncomputable def aK:PA:=cF [] Tryz.f120
theorem pP:jA Tryz.prog 120 aK:=okF Tryz.func120
noncomputable def qI:PA:=cF [] Tryz.f121
theorem PM:jA Tryz.prog 121 qI:=okF Tryz.func121
noncomputable def FG:PA:=cF [] Tryz.f122
theorem IL:jA Tryz.prog 122 FG:=okF Tryz.func122
noncomputable def fI:PA:=cF [] Tryz.f123
theorem XM:jA Tryz.prog 123 fI:=okF Tryz.func123
noncomputable def kF:PA:=cF [] Tryz.f124
theorem BJ:jA Tryz.prog 124 kF:=okF Tryz.func124
noncomputable def uG:PA:=cF [] Tryz.f125
theorem SK:jA Tryz.prog 125 uG:=okF Tryz.func125
noncomputable def jD:PA:=cF [8000000] Tryz.f126
theorem xG:jA Tryz.prog 126 jD:=okF Tryz.func126
noncomputable def GG:PA:=cF [] Tryz.f140
theorem OL:jA Tryz.prog 140 GG:=okF Tryz.func140
noncomputable def eI:PA:=cF [] Tryz.f141
theorem SM:jA Tryz.prog 141 eI:=okF Tryz.func141
noncomputable def NK:PA:=cF [] Tryz.f142
theorem UP:jA Tryz.prog 142 NK:=okF Tryz.func142
noncomputable def XI:PA:=cF [] Tryz.f143
theorem tO:jA Tryz.prog 143 XI:=okF Tryz.func143
noncomputable def CC:PA:=cF [] Tryz.f144
theorem PF:jA Tryz.prog 144 CC:=okF Tryz.func144
noncomputable def BB:PA:=cF [] Tryz.f145
theorem ND:jA Tryz.prog 145 BB:=okF Tryz.func145
noncomputable def tG:PA:=cF [] Tryz.f146
theorem AK:jA Tryz.prog 146 tG:=okF Tryz.func146
noncomputable def iK:PA:=cF [] Tryz.f147
theorem uP:jA Tryz.prog 147 iK:=okF Tryz.func147
noncomputable def pF:PA:=cF [] Tryz.f153
theorem HJ:jA Tryz.prog 153 pF:=okF Tryz.func153
noncomputable def bD:PA:=cF [] Tryz.f154
theorem iH:jA Tryz.prog 154 bD:=okF Tryz.func154
noncomputable def tC:PA:=cF [] Tryz.f155
theorem mE:jA Tryz.prog 155 tC:=okF Tryz.func155
noncomputable def BG:PA:=cF [] Tryz.f156
theorem LL:jA Tryz.prog 156 BG:=okF Tryz.func156
noncomputable def MH:PA:=cF [] Tryz.f157
theorem OM:jA Tryz.prog 157 MH:=okF Tryz.func157
noncomputable def CG:PA:=cF [] Tryz.f158
theorem JL:jA Tryz.prog 158 CG:=okF Tryz.func158
noncomputable def GD:PA:=cF [2000049,2000068,2000092] Tryz.f159
theorem TH:jA Tryz.prog 159 GD:=okF Tryz.func159
noncomputable def gI:PA:=cF [] Tryz.f160
theorem CM:jA Tryz.prog 160 gI:=okF Tryz.func160
noncomputable def gF:PA:=cF [] Tryz.f161
theorem XJ:jA Tryz.prog 161 gF:=okF Tryz.func161
noncomputable def jF:PA:=cF [] Tryz.f162
theorem CJ:jA Tryz.prog 162 jF:=okF Tryz.func162
noncomputable def qG:PA:=cF [] Tryz.f171
theorem TK:jA Tryz.prog 171 qG:=okF Tryz.func171
noncomputable def sK:PA:=cF [] Tryz.f180
theorem aP:jA Tryz.prog 180 sK:=okF Tryz.func180
noncomputable def MC:PA:=cF [] Tryz.f181
theorem KF:jA Tryz.prog 181 MC:=okF Tryz.func181
noncomputable def wD:PA:=cF [] Tryz.f182
theorem ZF:jA Tryz.prog 182 wD:=okF Tryz.func182
noncomputable def sI:PA:=cF [] Tryz.f183
theorem LM:jA Tryz.prog 183 sI:=okF Tryz.func183
noncomputable def dI:PA:=cF [] Tryz.f184
theorem ZM:jA Tryz.prog 184 dI:=okF Tryz.func184
noncomputable def wG:PA:=cF [71] Tryz.f185
theorem UK:jA Tryz.prog 185 wG:=okF Tryz.func185
noncomputable def eL:PA:=cF [] Tryz.f190
theorem AP:jA Tryz.prog 190 eL:=okF Tryz.func190
noncomputable def JD:PA:=cF [] Tryz.f191
theorem UH:jA Tryz.prog 191 JD:=okF Tryz.func191
noncomputable def dF:PA:=cF [] Tryz.f192
theorem LJ:jA Tryz.prog 192 dF:=okF Tryz.func192
noncomputable def fF:PA:=cF [] Tryz.f193
theorem ZJ:jA Tryz.prog 193 fF:=okF Tryz.func193
noncomputable def tI:PA:=cF [] Tryz.f194
theorem FM:jA Tryz.prog 194 tI:=okF Tryz.func194
noncomputable def PE:PA:=cF [3000000,77,205,227,245,271,301] Tryz.f195
theorem sJ:jA Tryz.prog 195 PE:=okF Tryz.func195
noncomputable def BI:PA:=cF [] Tryz.f199
theorem iO:jA Tryz.prog 199 BI:=okF Tryz.func199
noncomputable def rL:PA:=cF [] Tryz.f200
theorem SP:jA Tryz.prog 200 rL:=okF Tryz.func200
noncomputable def wL:PA:=cF [] Tryz.f201
theorem PP:jA Tryz.prog 201 wL:=okF Tryz.func201
noncomputable def jI:PA:=cF [] Tryz.f202
theorem BM:jA Tryz.prog 202 jI:=okF Tryz.func202
noncomputable def JG:PA:=cF [] Tryz.f203
theorem AL:jA Tryz.prog 203 JG:=okF Tryz.func203
noncomputable def IE:PA:=cF [3000000] Tryz.f204
theorem pJ:jA Tryz.prog 204 IE:=okF Tryz.func204
noncomputable def DD:PA:=cF [] Tryz.f205
theorem EH:jA Tryz.prog 205 DD:=okF Tryz.func205
noncomputable def xE:PA:=cF [] Tryz.f206
theorem QI:jA Tryz.prog 206 xE:=okF Tryz.func206
noncomputable def zE:PA:=cF [3000000,57] Tryz.f207
theorem mI:jA Tryz.prog 207 zE:=okF Tryz.func207
noncomputable def qL:PA:=cF [] Tryz.f215
theorem OP:jA Tryz.prog 215 qL:=okF Tryz.func215
noncomputable def SB:PA:=cF [] Tryz.f216
theorem ED:jA Tryz.prog 216 SB:=okF Tryz.func216
noncomputable def kI:PA:=cF [] Tryz.f217
theorem NM:jA Tryz.prog 217 kI:=okF Tryz.func217
noncomputable def lE:PA:=cF [] Tryz.f218
theorem bI:jA Tryz.prog 218 lE:=okF Tryz.func218
noncomputable def lI:PA:=cF [] Tryz.f219
theorem MM:jA Tryz.prog 219 lI:=okF Tryz.func219
noncomputable def CK:PA:=cF [] Tryz.f220
theorem EP:jA Tryz.prog 220 CK:=okF Tryz.func220
noncomputable def BF:PA:=cF [] Tryz.f221
theorem WK:jA Tryz.prog 221 BF:=okF Tryz.func221
noncomputable def kE:PA:=cF [] Tryz.f222
theorem cI:jA Tryz.prog 222 kE:=okF Tryz.func222
noncomputable def lF:PA:=cF [] Tryz.f223
theorem NJ:jA Tryz.prog 223 lF:=okF Tryz.func223
noncomputable def SD:PA:=cF [] Tryz.f224
theorem WH:jA Tryz.prog 224 SD:=okF Tryz.func224
noncomputable def HG:PA:=cF [] Tryz.f225
theorem PL:jA Tryz.prog 225 HG:=okF Tryz.func225
noncomputable def OE:PA:=cF [] Tryz.f226
theorem aJ:jA Tryz.prog 226 OE:=okF Tryz.func226
noncomputable def UE:PA:=cF [] Tryz.f227
theorem iJ:jA Tryz.prog 227 UE:=okF Tryz.func227
noncomputable def eG:PA:=cF [] Tryz.f228
theorem IK:jA Tryz.prog 228 eG:=okF Tryz.func228
noncomputable def uC:PA:=cF [] Tryz.f237
theorem QE:jA Tryz.prog 237 uC:=okF Tryz.func237
noncomputable def wF:PA:=cF [] Tryz.f238
theorem PJ:jA Tryz.prog 238 wF:=okF Tryz.func238
noncomputable def GH:PA:=cF [] Tryz.f239
theorem bM:jA Tryz.prog 239 GH:=okF Tryz.func239
noncomputable def qF:PA:=cF [] Tryz.f240
theorem OJ:jA Tryz.prog 240 qF:=okF Tryz.func240
noncomputable def PI:PA:=cF [] Tryz.f241
theorem KN:jA Tryz.prog 241 PI:=okF Tryz.func241
noncomputable def uL:PA:=cF [] Tryz.f242
theorem FP:jA Tryz.prog 242 uL:=okF Tryz.func242
noncomputable def uI:PA:=cF [] Tryz.f243
theorem GM:jA Tryz.prog 243 uI:=okF Tryz.func243
noncomputable def HH:PA:=cF [49] Tryz.f244
theorem nM:jA Tryz.prog 244 HH:=okF Tryz.func244
noncomputable def AI:PA:=cF [] Tryz.f247
theorem LN:jA Tryz.prog 247 AI:=okF Tryz.func247
noncomputable def IG:PA:=cF [] Tryz.f248
theorem QL:jA Tryz.prog 248 IG:=okF Tryz.func248
noncomputable def fD:PA:=cF [3000000,20,117,131,163,209,227] Tryz.f249
theorem lG:jA Tryz.prog 249 fD:=okF Tryz.func249
noncomputable def SI:PA:=cF [] Tryz.f254
theorem ZN:jA Tryz.prog 254 SI:=okF Tryz.func254
noncomputable def OG:PA:=cF [] Tryz.f255
theorem WL:jA Tryz.prog 255 OG:=okF Tryz.func255
noncomputable def MK:PA:=cF [] Tryz.f256
theorem IP:jA Tryz.prog 256 MK:=okF Tryz.func256
noncomputable def tL:PA:=cF [] Tryz.f257
theorem DP:jA Tryz.prog 257 tL:=okF Tryz.func257
noncomputable def xD:PA:=cF [3000000,28,109,147,101,1000000 + 261] Tryz.f258
theorem tH:jA Tryz.prog 258 xD:=okF Tryz.func258
noncomputable def AD:PA:=cF [3000000,93] Tryz.f259
theorem QH:jA Tryz.prog 259 AD:=okF Tryz.func259
noncomputable def PG:PA:=cF [] Tryz.f260
theorem EL:jA Tryz.prog 260 PG:=okF Tryz.func260
noncomputable def HB:PA:=cF [1000000 + 263] Tryz.f261
theorem PD:jA Tryz.prog 261 HB:=okF Tryz.func261
noncomputable def LC:PA:=cF [] Tryz.f262
theorem UF:jA Tryz.prog 262 LC:=okF Tryz.func262
noncomputable def mB:PA:=cF [1000000 + 265] Tryz.f263
theorem KC:jA Tryz.prog 263 mB:=okF Tryz.func263
noncomputable def rI:PA:=cF [] Tryz.f264
theorem DM:jA Tryz.prog 264 rI:=okF Tryz.func264
noncomputable def pB:PA:=cF [] Tryz.f265
theorem LB:jA Tryz.prog 265 pB:=okF Tryz.func265
noncomputable def MF:PA:=cF [] Tryz.f273
theorem RK:jA Tryz.prog 273 MF:=okF Tryz.func273
section
def C9 {α:Type} (f:(α->tA->Option RV)->Option RV):Prop:=(∀ k,f k=none)\/∃ e s',∀ k,f k=k e s'
theorem C9.bind {α β:Type} {f:(α->tA->Option RV)->Option RV} (h:C9 f) {g:(β->tA->Option RV)->α->tA->Option RV} (hg:∀ e s,C9 fun k=>g k e s):C9 fun k=>f (g k):=by
 rcases h with h | ⟨e,s,h⟩
 ·exact .inl fun k=>h _
 ·rcases hg e s with h2 | ⟨e',s',h2⟩
  ·exact .inl fun k=>(h _).trans (h2 k)
  ·exact .inr ⟨e',s',fun k=>(h _).trans (h2 k)⟩
theorem C9.no {α:Type}:C9 fun (_:α->tA->Option RV)=>none:=.inl fun _=>rfl
section
variable {call:OA} {lh:LH}
end
section
variable {T:Nat->Option PA} {ext:OA}
end
end
noncomputable def allL:List (Nat × PA):=[(7,PB),(11,rK),(12,cE),(13,bE),(14,DI),(17,wK),(19,BK),(21,JH),(23,NF),(25,wA),(26,eA),(31,wI),(32,kN),(33,DE),(34,ZI),(35,ZH),(36,FI),(37,KH),(40,KG),(41,xC),(42,AG),(43,XH),(45,sF),(46,NH),(47,FD),(51,SA),(57,uK),(58,pK),(59,gD),(60,XC),(61,ZC),(62,qD),(63,cD),(64,SG),(65,CH),(66,GI),(67,eF),(70,BH),(71,rF),(75,tK),(78,iI),(79,LI),(80,aF),(81,eK),(82,JI),(83,KI),(84,DG),(85,XG),(101,HI),(102,ZG),(103,LG),(104,CI),(105,NB),(106,tF),(109,MB),(110,uF),(117,pI),(118,aI),(119,rG),(120,aK),(121,qI),(122,FG),(123,fI),(124,kF),(125,uG),(126,jD),(140,GG),(141,eI),(142,NK),(143,XI),(144,CC),(145,BB),(146,tG),(147,iK),(153,pF),(154,bD),(155,tC),(156,BG),(157,MH),(158,CG),(159,GD),(160,gI),(161,gF),(162,jF),(171,qG),(180,sK),(181,MC),(182,wD),(183,sI),(184,dI),(185,wG),(190,eL),(191,JD),(192,dF),(193,fF),(194,tI),(195,PE),(199,BI),(200,rL),(201,wL),(202,jI),(203,JG),(204,IE),(205,DD),(206,xE),(207,zE),(215,qL),(216,SB),(217,kI),(218,lE),(219,lI),(220,CK),(221,BF),(222,kE),(223,lF),(224,SD),(225,HG),(226,OE),(227,UE),(228,eG),(237,uC),(238,wF),(239,GH),(240,qF),(241,PI),(242,uL),(243,uI),(244,HH),(247,AI),(248,IG),(249,fD),(254,SI),(255,OG),(256,MK),(257,tL),(258,xD),(259,AD),(260,PG),(261,HB),(262,LC),(263,mB),(264,rI),(265,pB),(273,MF)]
noncomputable def RA (f:Nat):Option PA:=allL.lookup f
def okL:List (Nat × PA)->Prop
 | []=>True
 | x::r=>jA Tryz.prog x.1 x.2/\okL r
theorem AZ:∀ {l:List (Nat × PA)},okL l->∀ {f:Nat} {c:PA},l.lookup f=some c->jA Tryz.prog f c
 | [],_,_,_,h=>by cases h
 | (g,d)::r,hl,f,c,h=>by
  rw [List.lookup_cons] at h;cases e:f==g with
  | true=>rw [e] at h;cases h;cases of_decide_eq_true e;exact hl.1
  | false=>rw [e] at h;exact AZ hl.2 h
theorem T1 (f:Nat) (c:PA) (h:RA f=some c):jA Tryz.prog f c:=AZ (l:=allL) ⟨nI,eP,eR,rR,XN,qP,TP,QM,EK,mM,wO,AM,wR,RP,rO,EM,CN,WM,SL,RE,RL,RM,KJ,IM,RH,AJ,tP,iP,zG,OF,IF,LF,uH,TL,TM,BN,SJ,UM,DJ,rP,HM,eO,JJ,wP,MN,qO,UL,GL,NN,FL,DL,uO,MD,FJ,qE,GJ,JM,KM,PK,pP,PM,IL,XM,BJ,SK,xG,OL,SM,UP,tO,PF,ND,AK,uP,HJ,iH,mE,LL,OM,JL,TH,CM,XJ,CJ,TK,aP,KF,ZF,LM,ZM,UK,AP,UH,LJ,ZJ,FM,sJ,iO,SP,PP,BM,AL,pJ,EH,QI,mI,OP,ED,NM,bI,MM,EP,WK,cI,NJ,WH,PL,aJ,iJ,IK,QE,PJ,bM,OJ,KN,FP,GM,nM,LN,QL,lG,ZN,WL,IP,DP,tH,QH,EL,PD,UF,KC,DM,LB,RK,trivial⟩ h
section
mutual
def AV.beq:AV->AV->Bool
 | .int k n,.int k' n'=>decide (k=k')&&decide (n=n')
 | .bool a,.bool b=>a == b
 | .str a,.str b=>decide (a=b)
 | .nilP,.nilP=>true
 | .ptr t n o,.ptr t' n' o'=>Nat.beq t t'&&Nat.beq n n'&&Nat.beq o o'
 | .ip l,.ip m=>AV.beqL l m
 | .bp l,.bp m=>AV.beqL l m
 | .sl b l,.sl b' m=>(b == b')&&AV.beqLL l m
 | .bl l,.bl m=>AV.beqLL l m
 | .fn f l,.fn g m=>Nat.beq f g&&AV.beqL l m
 | .agg l,.agg m=>AV.beqL l m
 | .tup l,.tup m=>AV.beqL l m
 | .undef,.undef=>true
 | _,_=>false
def AV.beqL:List AV->List AV->Bool
 | [],[]=>true
 | x :: l,y :: m=>AV.beq x y&&AV.beqL l m
 | _,_=>false
def AV.beqLL:List (List AV)->List (List AV)->Bool
 | [],[]=>true
 | x :: l,y :: m=>AV.beqL x y&&AV.beqLL l m
 | _,_=>false
end
mutual
theorem AV.beq_eq:∀ (x y:AV),AV.beq x y=true->x=y
 | .int k n,y,h=>by cases y <;> simp [AV.beq] at h <;> simp [h]
 | .bool a,y,h=>by cases y <;> simp [AV.beq] at h <;> simp [h]
 | .str a,y,h=>by cases y <;> simp [AV.beq] at h <;> simp [h]
 | .nilP,y,h=>by cases y <;> simp [AV.beq] at h <;> rfl
 | .ptr t n o,y,h=>by cases y <;> simp [AV.beq] at h <;> simp [h]
 | .ip l,y,h=>by cases y <;> simp only [AV.beq] at h <;> first | cases h | rw [AV.beqL_eq l _ h]
 | .bp l,y,h=>by cases y <;> simp only [AV.beq] at h <;> first | cases h | rw [AV.beqL_eq l _ h]
 | .sl b l,y,h=>by
  cases y <;> simp only [AV.beq] at h <;> first | cases h | skip
  rw [y7] at h
  rw [AV.beqLL_eq l _ h.2,show b=_ from by simpa using h.1]
 | .bl l,y,h=>by cases y <;> simp only [AV.beq] at h <;> first | cases h | rw [AV.beqLL_eq l _ h]
 | .ref ..,y,h=>by cases y <;> simp [AV.beq] at h
 | .mp ..,y,h=>by cases y <;> simp [AV.beq] at h
 | .fn f l,y,h=>by
  cases y <;> simp only [AV.beq] at h <;> first | cases h | skip
  rw [y7] at h
  rw [AV.beqL_eq l _ h.2,show f=_ from by simpa using h.1]
 | .agg l,y,h=>by cases y <;> simp only [AV.beq] at h <;> first | cases h | rw [AV.beqL_eq l _ h]
 | .tup l,y,h=>by cases y <;> simp only [AV.beq] at h <;> first | cases h | rw [AV.beqL_eq l _ h]
 | .undef,y,h=>by cases y <;> simp [AV.beq] at h <;> rfl
theorem AV.beqL_eq:∀ (x y:List AV),AV.beqL x y=true->x=y
 | [],[],_=>rfl
 | [],_ :: _,h=>by simp [AV.beqL] at h
 | _ :: _,[],h=>by simp [AV.beqL] at h
 | x :: l,y :: m,h=>by
  simp only [AV.beqL,y7] at h
  rw [AV.beq_eq x y h.1,AV.beqL_eq l m h.2]
theorem AV.beqLL_eq:∀ (x y:List (List AV)),AV.beqLL x y=true->x=y
 | [],[],_=>rfl
 | [],_ :: _,h=>by simp [AV.beqLL] at h
 | _ :: _,[],h=>by simp [AV.beqLL] at h
 | x :: l,y :: m,h=>by
  simp only [AV.beqLL,y7] at h
  rw [AV.beqL_eq x y h.1,AV.beqLL_eq l m h.2]
end
def AV.beqO:Option AV->Option AV->Bool
 | none,none=>true
 | some x,some y=>AV.beq x y
 | _,_=>false
theorem AV.beqO_eq:∀ (x y:Option AV),AV.beqO x y=true->x=y
 | none,none,_=>rfl
 | none,some _,h=>by cases h
 | some _,none,h=>by cases h
 | some x,some y,h=>by rw [AV.beq_eq x y h]
structure ME where
 f:Nat
 args:List AV
 S:Option AV
 r:RV
def cZ:List ME->OA
 | [],_,_,_=>none
 | e :: l,f,args,S=>if Nat.beq e.f f&&(AV.beqL e.args args&&AV.beqO e.S S) then some e.r else cZ l f args S
mutual
noncomputable def dK (M:List ME) (T:Nat->Option PA) (ext:OA):Nat->OA
 | 0,f,args,S0=>match T f with
  | none=>ext f args S0
  | some _=>none
 | n + 1,f,args,S0=>match cZ M f args S0 with
  | some r=>some r
  | none=>match T f with
   | none=>ext f args S0
   | some c=>match bL args,S0 with
    | some rest,some (.agg cs)=>if rest.length=c.np/\IC rest=false then c.code.run (dK M T ext n) ⟨gX M T ext n,PX M T ext n⟩ (tA.initR rest cs) (FY c cs.length) else none
    | some _,_=>none
    | none,_=>if args.length=c.np/\IC args=false/\UZ S0=true then c.code.run (dK M T ext n) ⟨gX M T ext n,PX M T ext n⟩ (tA.init args S0) (uQ c S0)
     else if args.length=c.np + 1/\IC args=true/\IC args.tail=false/\S0.isNone=true then c.code.run (dK M T ext n) ⟨gX M T ext n,PX M T ext n⟩ (tA.init args.tail none) (JQ c) else none
noncomputable def gX (M:List ME) (T:Nat->Option PA) (ext:OA):Nat->B6
 | 0,_,_,_=>none
 | n + 1,b,s,k=>b.run (dK M T ext n) ⟨gX M T ext n,PX M T ext n⟩ s (qK (gX M T ext n) b k)
noncomputable def PX (M:List ME) (T:Nat->Option PA) (ext:OA):Nat->E7
 | 0,_,_,_,_=>none
 | n + 1,f,args,s,k=>match T f with
  | none=>none
  | some c=>if args.length=c.np then c.code.run (dK M T ext n) ⟨gX M T ext n,PX M T ext n⟩ (s.initH args) (KB c k) else none
end
variable {T:Nat->Option PA} {ext:OA} {M:List ME}
def kA (T:Nat->Option PA) (ext:OA) (M:List ME):Prop:=∀ f args S r,cZ M f args S=some r->cP T ext f args S=some r
theorem JX (hM:kA T ext M):∀ N,(∀ f args S r,dK M T ext N f args S=some r->HA fun m=>RB T ext m f args S=some r) ∧
  (∀ b s k r (km:Nat->Ex->tA->Option RV),(∀ e s' r',k e s'=some r'->HA fun m=>km m e s'=some r')->gX M T ext N b s k=some r->HA fun m=>HF T ext m b s (km m)=some r) ∧
  tN (PX M T ext N) (mG T ext)
 | 0=>by
  refine ⟨fun f args S r h=>⟨0,fun m _=>?_⟩,fun b s k r km _ h=>(by cases h),fun f xs s k r km _ h=>(by cases h)⟩;unfold dK at h;cases hT:T f with
  | none=>rw [hT] at h; cases m <;> (unfold RB; rw [hT]; exact h)
  | some c=>rw [hT] at h; cases h
 | N + 1=>by
  obtain ⟨ph,og,rh⟩:=JX hM N;refine ⟨?_,?_,?_⟩
  ·intro f args S0 r h;unfold dK at h;cases hl:cZ M f args S0 with
   | some r' =>
    rw [hl] at h;injection h with h;subst h;exact JR f args S0 _ (hM f args S0 _ hl)
   | none =>
   rw [hl] at h;simp only at h;cases hT:T f with
   | none=>rw [hT] at h; exact ⟨0,fun m _=>by cases m <;> (unfold RB; rw [hT]; exact h)⟩
   | some c =>
    rw [hT] at h;cases hm:bL args with
    | some rest =>
     cases S0 with
     | none=>rw [hm] at h; cases h
     | some S =>
      cases S with
      | agg cs =>
       rw [hm] at h;simp only at h;split at h
       ·rename_i hl;refine HA.pred ((sB (lpA:=⟨gX M T ext N,PX M T ext N⟩) (lpB:=fun m=>⟨HF T ext m,mG T ext m⟩) ph rh og c.code _ _ r (fun _=>FY c cs.length) (fun e s' r' h'=>HA.now h') h).imp fun m pc=>?_);unfold RB;rw [hT];simp only [hm];rw [if_pos hl];exact pc
       ·cases h
      | _=>rw [hm] at h; cases h
    | none =>
     rw [hm] at h;simp only at h;split at h
     ·rename_i hl;refine HA.pred ((sB (lpA:=⟨gX M T ext N,PX M T ext N⟩) (lpB:=fun m=>⟨HF T ext m,mG T ext m⟩) ph rh og c.code _ _ r (fun _=>uQ c S0) (fun e s' r' h'=>HA.now h') h).imp fun m pc=>?_);unfold RB;rw [hT];simp only [hm];rw [if_pos hl];exact pc
     ·rename_i hl;split at h
      ·rename_i ii;refine HA.pred ((sB (lpA:=⟨gX M T ext N,PX M T ext N⟩) (lpB:=fun m=>⟨HF T ext m,mG T ext m⟩) ph rh og c.code _ _ r (fun _=>JQ c) (fun e s' r' h'=>HA.now h') h).imp fun m pc=>?_);unfold RB;rw [hT];simp only [hm];rw [if_neg hl,if_pos ii];exact pc
      ·cases h
  ·intro b s k r km hk h;unfold gX at h;refine HA.pred ((sB (lpA:=⟨gX M T ext N,PX M T ext N⟩) (lpB:=fun m=>⟨HF T ext m,mG T ext m⟩) ph rh og b s _ r (fun m=>qK (HF T ext m) b (km (m + 1))) (fun e s' r' h'=>?_) h).imp fun m hm=>?_)
   ·cases e with
    | nrm=>exact og b s' k r' (fun m=>km (m + 1)) (fun e s'' r'' h''=>(hk e s'' r'' h'').succ) h'
    | exit id=>exact (hk _ _ _ h').succ
    | ret=>exact (hk _ _ _ h').succ
   ·unfold HF;exact hm
  ·intro f xs s k r km hk h;unfold PX at h;cases hT:T f with
   | none=>rw [hT] at h; cases h
   | some c =>
    rw [hT] at h;simp only at h;split at h
    ·rename_i hl;refine HA.pred ((sB (lpA:=⟨gX M T ext N,PX M T ext N⟩) (lpB:=fun m=>⟨HF T ext m,mG T ext m⟩) ph rh og c.code _ _ r (fun m=>KB c (km (m + 1))) (fun e s' r' h'=>?_) h).imp fun m hm=>?_)
     ·cases e with
      | exit id=>cases h'
      | nrm =>
       simp only [KB] at h' ⊢;obtain ⟨y,hy,h'⟩:=y0.1 h';simp only [hy,U];exact (hk _ _ _ h').succ
      | ret =>
       simp only [KB] at h' ⊢;obtain ⟨y,hy,h'⟩:=y0.1 h';simp only [hy,U];exact (hk _ _ _ h').succ
     ·unfold mG;rw [hT];simp only;rw [if_pos hl];exact hm
    ·cases h
theorem kA.nil:kA T ext []:=fun f args S r h=>by cases h
theorem kA.run (hM:kA T ext M) {f:Nat} {args:List AV} {S:Option AV} {r:RV} (N:Nat) (h:dK M T ext N f args S=some r):cP T ext f args S=some r:=by
 obtain ⟨m,hm⟩:=((JX hM N).1 f args S r h).some;exact bF.2 ⟨m,hm⟩
theorem kA.cons (hM:kA T ext M) {e:ME} (h:cP T ext e.f e.args e.S=some e.r):kA T ext (e :: M):=fun f args S r hl=>by
 unfold cZ at hl;split at hl
 ·rename_i hc;simp only [y7] at hc;obtain ⟨h1,h2,h3⟩:=hc;injection hl with hl;have h1:e.f=f:=by simpa using h1
  rw [<- h1,<- AV.beqL_eq _ _ h2,<- AV.beqO_eq _ _ h3,<- hl];exact h
 ·exact hM f args S r hl
theorem kA.more (hM:kA T ext M) (N:Nat) (e:ME) (h:dK M T ext N e.f e.args e.S=some e.r):kA T ext (e :: M):=hM.cons (hM.run N h)
end
section
def j9 (e:Nat->qA) (d:Nat) (x:qA):Nat->qA:=fun t=>if t=d then x else e t
theorem uW (e:Nat->qA) (d:Nat) (x:qA) (t:Nat):j9 e d x t=if t=d then x else e t:=(rfl)
def KP (m:Nat->Nat->Option (List qA)) (t n:Nat) (r:List qA):Nat->Nat->Option (List qA):=fun t' n'=>if t'=t/\n'=n then some r else m t' n'
theorem jO (m:Nat->Nat->Option (List qA)) (t n:Nat) (r:List qA) (t' n':Nat):KP m t n r t' n'=if t'=t/\n'=n then some r else m t' n':=(rfl)
def setO (m:Nat->Nat->Option AV) (t n:Nat) (r:AV):Nat->Nat->Option AV:=fun t' n'=>if t'=t/\n'=n then some r else m t' n'
theorem D6 (m:Nat->Nat->Option AV) (t n:Nat) (r:AV) (t' n':Nat):setO m t n r t' n'=if t'=t/\n'=n then some r else m t' n':=(rfl)
def OT (k:Nat) (e:Nat->qA):Nat->qA:=fun t=>(e t).strip k
theorem WX (k:Nat) (e:Nat->qA) (t:Nat):OT k e t=(e t).strip k:=(rfl)
def m0 (k:Nat) (m:Nat->Nat->Option (List qA)):Nat->Nat->Option (List qA):=fun t n=>(m t n).map (·.map (qA.strip k))
theorem EX (k:Nat) (m:Nat->Nat->Option (List qA)) (t n:Nat):m0 k m t n=(m t n).map (·.map (qA.strip k)):=(rfl)
theorem qA.strip_v (k:Nat) (x:qA):(x.strip k).v=x.v:=(rfl)
theorem qA.strip_a (k:Nat) (x:qA):(x.strip k).a=x.a.strip k:=(rfl)
theorem qA.strip_mk (k:Nat) (v:AV) (a:An):qA.strip k ⟨v,a⟩=⟨v,a.strip k⟩:=(rfl)
def O7 (args:List AV):Nat->qA:=fun t=>⟨args.getD t .undef,.no⟩
theorem U1 (args:List AV) (t:Nat):O7 args t=⟨args.getD t .undef,.no⟩:=(rfl)
def noM:Nat->Nat->Option (List qA):=fun _ _=>none
theorem K8 (t n:Nat):noM t n=none:=(rfl)
def OZ (S0:Option AV):Nat->Nat->Option AV:=fun t n=>if t=0/\n=0 then S0 else none
theorem s6 (S0:Option AV) (t n:Nat):OZ S0 t n=if t=0/\n=0 then S0 else none:=(rfl)
def Z9:Nat->qA:=fun _=>⟨.undef,.no⟩
theorem J6 (t:Nat):Z9 t=⟨.undef,.no⟩:=(rfl)
theorem XS {α β:Type} (a:α) (f:α->Option β):(some a).bind f=f a:=(rfl)
theorem kR {α β:Type} (f:α->β) (l:List α):(l.map f).take l.length=l.map f:=List.take_of_length_le (by simp)
theorem U8 (args:List AV) (S0:Option AV):tA.init args S0=⟨O7 args,noM,1,OZ S0,Z9⟩:=(rfl)
theorem m_put (s:tA) (d:Nat) (x:qA):s.put (some d) x=⟨j9 s.env d x,s.mem,s.next,s.obj,s.gh⟩:=(rfl)
theorem O8 (s:tA) (x:qA):s.put none x=s:=(rfl)
theorem m_row (s:tA) (t n:Nat) (r:List qA):s.setRow t n r=⟨s.env,KP s.mem t n r,s.next,s.obj,s.gh⟩:=(rfl)
theorem m_obj (s:tA) (t n:Nat) (r:AV):s.setObj t n r=⟨s.env,s.mem,s.next,setO s.obj t n r,s.gh⟩:=(rfl)
theorem o6 (s:tA) (k:Nat):s.strip k=⟨OT k s.env,m0 k s.mem,s.next,s.obj,OT k s.gh⟩:=(rfl)
theorem bZ (s:tA) (k:Nat) (e:TypeId):s.stripA (.own k e)=s.strip k:=(rfl)
theorem nZ (s:tA):s.stripA .ex=s:=(rfl)
def JO (t n:Nat) (e:Nat->qA):Nat->qA:=fun j=>(e j).kill t n
theorem KO (t n:Nat) (e:Nat->qA) (j:Nat):JO t n e j=(e j).kill t n:=(rfl)
def LO (t n:Nat) (m:Nat->Nat->Option (List qA)):Nat->Nat->Option (List qA):=fun t' n'=>if t'=t/\n'=n then none else (m t' n').map (·.map (qA.kill t n))
theorem lL (t n:Nat) (m:Nat->Nat->Option (List qA)) (t' n':Nat):LO t n m t' n'=if t'=t/\n'=n then none else (m t' n').map (·.map (qA.kill t n)):=(rfl)
theorem qA.kill_v (t n:Nat) (x:qA):(x.kill t n).v=x.v.kill t n:=(rfl)
theorem qA.kill_a (t n:Nat) (x:qA):(x.kill t n).a=x.a:=(rfl)
theorem qA.kill_mk (t n:Nat) (v:AV) (a:An):qA.kill t n ⟨v,a⟩=⟨v.kill t n,a⟩:=(rfl)
theorem I8 (s:tA) (t n:Nat):s.killO (some (t,n))=⟨JO t n s.env,LO t n s.mem,s.next,s.obj,JO t n s.gh⟩:=(rfl)
def rowE (cs:List AV):Nat->Nat->Option (List qA):=fun t n=>if t=0/\n=0 then some (cs.map fun v=>⟨v,SC v⟩) else none
theorem I6 (cs:List AV) (t n:Nat):rowE cs t n=if t=0/\n=0 then some (cs.map fun v=>⟨v,SC v⟩) else none:=(rfl)
theorem q6 (args cs:List AV):tA.initR args cs=⟨O7 args,rowE cs,1,OZ none,Z9⟩:=by
 have:OZ none=fun _ _=>none:=by funext t n; simp [OZ]
 rw [this];rfl
def TY (m:Nat->Nat->Option (List qA)):Nat->Nat->Option (List qA):=fun t n=>if t=0/\n=0 then none else m t n
theorem DW (m:Nat->Nat->Option (List qA)) (t n:Nat):TY m t n=if t=0/\n=0 then none else m t n:=(rfl)
theorem B5 (s:tA):s.drop0=⟨s.env,TY s.mem,s.next,s.obj,s.gh⟩:=(rfl)
def l7 (xs:List qA):Nat->qA:=fun t=>xs.getD t ⟨.undef,.no⟩
theorem j0 (xs:List qA) (t:Nat):l7 xs t=xs.getD t ⟨.undef,.no⟩:=(rfl)
def Q7 (nt:Nat) (e g:Nat->qA):Nat->qA:=fun t=>if t<nt then e t else g (t - nt)
theorem B0 (nt:Nat) (e g:Nat->qA) (t:Nat):Q7 nt e g t=if t<nt then e t else g (t - nt):=(rfl)
def N6 (nt:Nat) (g:Nat->qA):Nat->qA:=fun t=>if t<nt then g t else ⟨.undef,.no⟩
theorem dY (nt:Nat) (g:Nat->qA) (t:Nat):N6 nt g t=if t<nt then g t else ⟨.undef,.no⟩:=(rfl)
def g7 (nt:Nat) (g:Nat->qA):Nat->qA:=fun t=>g (t + nt)
theorem CZ (nt:Nat) (g:Nat->qA) (t:Nat):g7 nt g t=g (t + nt):=(rfl)
theorem M5 (s:tA) (xs:List qA):s.initH xs=⟨l7 xs,s.mem,s.next,s.obj,s.gh⟩:=(rfl)
theorem N5 (s:tA) (nt:Nat):s.enter nt=⟨s.env,s.mem,s.next + 1,s.obj,Q7 nt s.env s.gh⟩:=(rfl)
theorem u6 (s:tA) (nt:Nat):s.leave nt=⟨N6 nt s.gh,s.mem,s.next,s.obj,g7 nt s.gh⟩:=(rfl)
theorem w6 (s:tA):s.killO none=s:=(rfl)
theorem aT {v:AV} (h:v.free0=true) (t n:Nat):v.kill0 t n=v:=by
 cases v <;> first | rfl | (simp [AV.free0] at h; done)
theorem NR {cs:List AV} (h:cs.all AV.free0=true) (t n:Nat):cs.map (AV.kill0 t n)=cs:=by
 have h1:cs.map (AV.kill0 t n)=cs.map id:=yo fun x hx=>aT (y5.1 h x hx) t n
 rwa [List.map_id] at h1
theorem iX {v:AV} (h:v.free=true) (t n:Nat):v.kill t n=v:=by
 cases v with
 | agg cs=>exact congrArg AV.agg (NR h t n)
 | _=>first | rfl | (simp [AV.free,AV.free0] at h; done)
theorem LW {s:tA} {v:AV} (h:v.free0=true):v.frz0 s=v:=by
 cases v <;> first | rfl | (simp [AV.free0] at h; done)
theorem FV {s:tA} {cs:List AV} (h:cs.all AV.free0=true):cs.map (AV.frz0 s)=cs:=by
 have h1:cs.map (AV.frz0 s)=cs.map id:=yo fun x hx=>LW (y5.1 h x hx)
 rwa [List.map_id] at h1
theorem CY {s:tA} {v:AV} (h:v.free=true):v.frz s=v:=by
 cases v with
 | agg cs=>exact congrArg AV.agg (FV h)
 | _=>first | rfl | (simp [AV.free,AV.free0] at h; done)
section
variable {sz:Nat} {l:List (List AV)}
theorem dR (l m:List (List AV)):lA (l++m)=lA l++lA m:=by simp [lA]
theorem mQ (h:UA sz l=true):(lA l).length=l.length * sz:=by
 induction l with
 | nil=>simp [lA]
 | cons c r ih =>
  rw [lB] at h;simp only [y7,decide_eq_true_eq] at h;have:=ih h.2;simp only [lA,yi,List.map_append,y9,yv,yz] at this ⊢;rw [this,h.1,yt];omega
theorem cS (h:UA sz l=true) {k:Nat} (hk:k<=l.length):lA l=lA (l.take k)++lA (l.drop k)/\(lA (l.take k)).length=k * sz:=by
 refine ⟨by rw [<- dR,List.take_append_drop],?_⟩;rw [mQ (XD h k),yc,Nat.min_eq_left hk]
theorem ET (h:UA sz l=true) {k:Nat} (hk:k<=l.length):(lA l).drop (k * sz)=lA (l.drop k):=by
 obtain ⟨h1,h2⟩:=cS h hk;rw [h1,<- h2,List.drop_left]
theorem WT (c:List AV) (r:List (List AV)):lA (c :: r)=c.map (⟨·,.no⟩)++lA r:=by simp [lA]
theorem FW (h:UA sz l=true) {k:Nat} {c:List AV} (hk:l[k]?=some c):c.length=sz:=by
 simp only [UA,y5] at h;simpa using h c (List.mem_of_getElem? hk)
def xH (l:List (List AV)):Bool:=l.all fun c=>c.all AV.free0
theorem nN {α:Type} (f:α->List AV) (l:List α) (h:∀ x,(f x).all AV.free0=true):xH (l.map f)=true:=by
 simp only [xH,List.all_map,y5];exact fun x _=>h x
theorem nQ (h:UA sz l=true) (hf:xH l=true):bA (lA l) sz 0 l.length=some l:=by
 unfold bA;rw [if_pos]
 ·congr 1;refine List.ext_getElem (by simp) fun i h1 h2=>?_
  simp only [List.getElem_map,List.getElem_range,yb];rw [ET h (by omega),yI h2,WT];have hc:=FW h (yn h2);rw [<- hc,List.take_left' (by simp)];simp [Function.comp_def]
 ·refine ⟨by rw [mQ h]; omega,?_⟩;simp only [lA,List.all_map,List.all_flatten,Function.comp_def];exact hf
end
section
variable {call:OA} {lp:LH} {T:Nat->Option PA} {ext:OA}
noncomputable def S6 (call:OA) (lp:LH) (b:C) (k:Ex->tA->Option RV):Ex->tA->Option RV:=fun e s=>match e with
 | .nrm=>b.run call lp s k
 | e=>k e s
def regK (k:Ex->tA->Option RV):tA->Option RV:=fun s=>k .nrm { s with next:=s.next + 1 }
noncomputable def opK (call:OA) (lp:LH) (r:List sA) (k:tA->Option RV):tA->Option RV:=fun s=>AC call lp r s k
def w7 (d:Option Nat) (nt:Nat) (k:tA->Option RV):qA->tA->Option RV:=fun y s'=>k ((s'.leave nt).put d y)
def F4 (id:Nat) (k:Ex->tA->Option RV):Ex->tA->Option RV:=fun e s=>match e with
 | .exit j=>if j=id then k .nrm s else k (.exit j) s
 | e=>k e s
def AR (v:AV) (a b:Option RV):Option RV:=match v with
 | .bool t=>if t then a else b
 | _=>none
def pM (v:AV) (w:Bool) (a b:Option tA):Option tA:=match v with
 | .bool t=>if t=w then a else b
 | .tup []=>b
 | _=>none
def aM (v:AV) (w:Bool) (a b:Option RV):Option RV:=match v with
 | .bool t=>if t=w then a else b
 | .tup []=>b
 | _=>none
def fnC (v:AV) (h:Nat->List AV->Option RV):Option RV:=match v with
 | .fn f cs=>h f cs
 | _=>none
variable (b c:C) (s:tA) (k:Ex->tA->Option RV) (j id:Nat)
theorem NZ:S6 call lp b k .nrm s=b.run call lp s k:=(rfl)
theorem nX:S6 call lp b k (.exit j) s=k (.exit j) s:=(rfl)
theorem MZ:S6 call lp b k .ret s=k .ret s:=(rfl)
theorem R6:regK k s=k .nrm ⟨s.env,s.mem,s.next + 1,s.obj,s.gh⟩:=(rfl)
theorem X8 (r:List sA) (k:tA->Option RV):opK call lp r k s=AC call lp r s k:=(rfl)
theorem xY (d:Option Nat) (nt:Nat) (k:tA->Option RV) (y:qA):w7 d nt k y s=k ((s.leave nt).put d y):=(rfl)
theorem jY:F4 id k .nrm s=k .nrm s:=(rfl)
theorem IW:F4 id k (.exit j) s=if j=id then k .nrm s else k (.exit j) s:=(rfl)
theorem kY:F4 id k .ret s=k .ret s:=(rfl)
theorem NS (x y:Option RV):AR (.bool true) x y=x:=(rfl)
theorem SR (x y:Option RV):AR (.bool false) x y=y:=(rfl)
theorem CR (t w:Bool) (x y:Option tA):pM (.bool t) w x y=if t=w then x else y:=(rfl)
theorem wT (w:Bool) (x y:Option tA):pM (.tup []) w x y=y:=(rfl)
theorem BR (t w:Bool) (x y:Option RV):aM (.bool t) w x y=if t=w then x else y:=(rfl)
theorem rT (w:Bool) (x y:Option RV):aM (.tup []) w x y=y:=(rfl)
theorem i8 (f:Nat) (cs:List AV) (h:Nat->List AV->Option RV):fnC (.fn f cs) h=h f cs:=(rfl)
theorem Q9:C.run call lp .skip s k=k .nrm s:=(rfl)
theorem r_seq:C.run call lp (.seq b c) s k=b.run call lp s (S6 call lp c k):=(rfl)
theorem r_reg (ops:List sA):C.run call lp (.reg ops) s k=AC call lp ops s (regK k):=(rfl)
theorem l9 (x:GA):C.run call lp (.cond x b c) s k=AR (x.get s) (b.run call lp s k) (c.run call lp s k):=(rfl)
theorem E6:C.run call lp (.block id b) s k=b.run call lp s (F4 id k):=(rfl)
theorem n9:C.run call (o7 T ext) (.loop b) s k=cR T ext b s k:=(rfl)
theorem b9:C.run call lp (.exit id) s k=k (.exit id) s:=(rfl)
theorem r_ret:C.run call lp .ret s k=k .ret s:=(rfl)
theorem a_nrm:qK lp b k .nrm s=lp b s k:=(rfl)
theorem U7:qK lp b k (.exit j) s=k (.exit j) s:=(rfl)
theorem a_ret:qK lp b k .ret s=k .ret s:=(rfl)
theorem o_nil (k:tA->Option RV):AC call lp [] s k=k s:=(rfl)
theorem Z8 (o:sA) (r:List sA) (k:tA->Option RV):AC call lp (o :: r) s k=o.stepK call lp s (opK call lp r k):=(rfl)
theorem P6 (d:Option Nat) (op:K):sA.step call ⟨d,op,none⟩ s=(op.run call s).bind (sA.eff ⟨d,op,none⟩ s):=(rfl)
theorem O6 (d:Option Nat) (op:K) (t:Nat) (w:Bool):sA.step call ⟨d,op,some (t,w)⟩ s=pM (s.env t).v w ((op.run call s).bind (sA.eff ⟨d,op,none⟩ s)) (some (s.put d ⟨.tup [],.no⟩)):=by
 simp only [sA.step,pM];generalize (s.env t).v=v;cases v with
 | tup l=>cases l <;> rfl
 | _=>rfl
theorem P5 (d:Option Nat) (nt:Nat) (x:GA) (xs:List GA) (g:Option (Nat × Bool)) (k:tA->Option RV):sA.stepK call lp ⟨d,.callh nt x xs,g⟩ s k=QF s d g (gK lp d nt x xs s k) k:=(rfl)
theorem d5 (d:Option Nat) (a:Option RV) (k:tA->Option RV):QF s d none a k=a:=(rfl)
theorem f5 (d:Option Nat) (t:Nat) (w:Bool) (a:Option RV) (k:tA->Option RV):QF s d (some (t,w)) a k=aM (s.env t).v w a (k (s.put d ⟨.tup [],.no⟩)):=by
 simp only [QF,aM];generalize (s.env t).v=v;cases v with
 | tup l=>cases l <;> rfl
 | _=>rfl
theorem p8 (d:Option Nat) (nt:Nat) (x:GA) (xs:List GA) (k:tA->Option RV):gK (o7 T ext) d nt x xs s k=fnC (x.get s) fun f cs=>i7 T ext f (gE s xs++cs.map (⟨·,.no⟩)) (s.enter nt) (w7 d nt k):=by
 simp only [gK,fnC];generalize x.get s=v;cases v <;> rfl
section
variable (d:Option Nat) (g:Option (Nat × Bool)) (k:tA->Option RV)
section
variable {x0}
include x0
theorem k_mv:sA.stepK call lp ⟨d,.mv x0,g⟩ s k=(sA.step call ⟨d,.mv x0,g⟩ s).bind k:=(rfl)
theorem W8 {x1} {x2}:sA.stepK call lp ⟨d,.pick x0 x1 x2,g⟩ s k=(sA.step call ⟨d,.pick x0 x1 x2,g⟩ s).bind k:=(rfl)
theorem U5:sA.stepK call lp ⟨d,.alloc x0,g⟩ s k=(sA.step call ⟨d,.alloc x0,g⟩ s).bind k:=(rfl)
theorem k_box {x1}:sA.stepK call lp ⟨d,.box x0 x1,g⟩ s k=(sA.step call ⟨d,.box x0 x1,g⟩ s).bind k:=(rfl)
theorem I5 {x1}:sA.stepK call lp ⟨d,.build x0 x1,g⟩ s k=(sA.step call ⟨d,.build x0 x1,g⟩ s).bind k:=(rfl)
theorem k_bsl {x1} {x2}:sA.stepK call lp ⟨d,.bsl x0 x1 x2,g⟩ s k=(sA.step call ⟨d,.bsl x0 x1 x2,g⟩ s).bind k:=(rfl)
theorem g8 {x1} {x2} {x3}:sA.stepK call lp ⟨d,.bslr x0 x1 x2 x3,g⟩ s k=(sA.step call ⟨d,.bslr x0 x1 x2 x3,g⟩ s).bind k:=(rfl)
theorem b8 {x1} {x2} {x3}:sA.stepK call lp ⟨d,.load x0 x1 x2 x3,g⟩ s k=(sA.step call ⟨d,.load x0 x1 x2 x3,g⟩ s).bind k:=(rfl)
theorem Z5 {x1} {x2} {x3} {x4}:sA.stepK call lp ⟨d,.store x0 x1 x2 x3 x4,g⟩ s k=(sA.step call ⟨d,.store x0 x1 x2 x3 x4,g⟩ s).bind k:=(rfl)
theorem k_bin {x1} {x2} {x3}:sA.stepK call lp ⟨d,.bin x0 x1 x2 x3,g⟩ s k=(sA.step call ⟨d,.bin x0 x1 x2 x3,g⟩ s).bind k:=(rfl)
theorem k_mm {x1} {x2}:sA.stepK call lp ⟨d,.mm x0 x1 x2,g⟩ s k=(sA.step call ⟨d,.mm x0 x1 x2,g⟩ s).bind k:=(rfl)
theorem k_eqa {x1} {x2} {x3}:sA.stepK call lp ⟨d,.eqa x0 x1 x2 x3,g⟩ s k=(sA.step call ⟨d,.eqa x0 x1 x2 x3,g⟩ s).bind k:=(rfl)
theorem k_eqn {x1} {x2} {x3}:sA.stepK call lp ⟨d,.eqn x0 x1 x2 x3,g⟩ s k=(sA.step call ⟨d,.eqn x0 x1 x2 x3,g⟩ s).bind k:=(rfl)
theorem k_un {x1}:sA.stepK call lp ⟨d,.un x0 x1,g⟩ s k=(sA.step call ⟨d,.un x0 x1,g⟩ s).bind k:=(rfl)
theorem z8 {x1}:sA.stepK call lp ⟨d,.conv x0 x1,g⟩ s k=(sA.step call ⟨d,.conv x0 x1,g⟩ s).bind k:=(rfl)
theorem E8:sA.stepK call lp ⟨d,.rstr x0,g⟩ s k=(sA.step call ⟨d,.rstr x0,g⟩ s).bind k:=(rfl)
theorem j8 {x1}:sA.stepK call lp ⟨d,.bstr x0 x1,g⟩ s k=(sA.step call ⟨d,.bstr x0 x1,g⟩ s).bind k:=(rfl)
theorem k_clr {x1} {x2}:sA.stepK call lp ⟨d,.clr x0 x1 x2,g⟩ s k=(sA.step call ⟨d,.clr x0 x1 x2,g⟩ s).bind k:=(rfl)
theorem k_mks {x1} {x2} {x3} {x4}:sA.stepK call lp ⟨d,.mks x0 x1 x2 x3 x4,g⟩ s k=(sA.step call ⟨d,.mks x0 x1 x2 x3 x4,g⟩ s).bind k:=(rfl)
theorem k_slc {x1} {x2} {x3} {x4} {x5}:sA.stepK call lp ⟨d,.slc x0 x1 x2 x3 x4 x5,g⟩ s k=(sA.step call ⟨d,.slc x0 x1 x2 x3 x4 x5,g⟩ s).bind k:=(rfl)
theorem f8 {x1} {x2} {x3} {x4} {x5}:sA.stepK call lp ⟨d,.aslc x0 x1 x2 x3 x4 x5,g⟩ s k=(sA.step call ⟨d,.aslc x0 x1 x2 x3 x4 x5,g⟩ s).bind k:=(rfl)
theorem H5 {x1}:sA.stepK call lp ⟨d,.faddr x0 x1,g⟩ s k=(sA.step call ⟨d,.faddr x0 x1,g⟩ s).bind k:=(rfl)
theorem J5 {x1} {x2} {x3}:sA.stepK call lp ⟨d,.field x0 x1 x2 x3,g⟩ s k=(sA.step call ⟨d,.field x0 x1 x2 x3,g⟩ s).bind k:=(rfl)
theorem K5 {x1} {x2}:sA.stepK call lp ⟨d,.iaddr x0 x1 x2,g⟩ s k=(sA.step call ⟨d,.iaddr x0 x1 x2,g⟩ s).bind k:=(rfl)
theorem T5 {x1} {x2} {x3}:sA.stepK call lp ⟨d,.aaddr x0 x1 x2 x3,g⟩ s k=(sA.step call ⟨d,.aaddr x0 x1 x2 x3,g⟩ s).bind k:=(rfl)
theorem L5 {x1}:sA.stepK call lp ⟨d,.index x0 x1,g⟩ s k=(sA.step call ⟨d,.index x0 x1,g⟩ s).bind k:=(rfl)
theorem k_ext {x1}:sA.stepK call lp ⟨d,.ext x0 x1,g⟩ s k=(sA.step call ⟨d,.ext x0 x1,g⟩ s).bind k:=(rfl)
theorem l8 {x1} {x2}:sA.stepK call lp ⟨d,.call x0 x1 x2,g⟩ s k=(sA.step call ⟨d,.call x0 x1 x2,g⟩ s).bind k:=(rfl)
theorem S5 {x1} {x2} {x3}:sA.stepK call lp ⟨d,.callo x0 x1 x2 x3,g⟩ s k=(sA.step call ⟨d,.callo x0 x1 x2 x3,g⟩ s).bind k:=(rfl)
theorem A5 {x1} {x2} {x3} {x4} {x5}:sA.stepK call lp ⟨d,.calln x0 x1 x2 x3 x4 x5,g⟩ s k=(sA.step call ⟨d,.calln x0 x1 x2 x3 x4 x5,g⟩ s).bind k:=(rfl)
theorem D5 {x1} {x2}:sA.stepK call lp ⟨d,.callq x0 x1 x2,g⟩ s k=(sA.step call ⟨d,.callq x0 x1 x2,g⟩ s).bind k:=(rfl)
theorem O5 {x1} {x2} {x3}:sA.stepK call lp ⟨d,.callf x0 x1 x2 x3,g⟩ s k=(sA.step call ⟨d,.callf x0 x1 x2 x3,g⟩ s).bind k:=(rfl)
theorem k_mkf {x1}:sA.stepK call lp ⟨d,.mkf x0 x1,g⟩ s k=(sA.step call ⟨d,.mkf x0 x1,g⟩ s).bind k:=(rfl)
theorem G5 {x1} {x2}:sA.stepK call lp ⟨d,.callv x0 x1 x2,g⟩ s k=(sA.step call ⟨d,.callv x0 x1 x2,g⟩ s).bind k:=(rfl)
theorem F5 {x1} {x2}:sA.stepK call lp ⟨d,.callr x0 x1 x2,g⟩ s k=(sA.step call ⟨d,.callr x0 x1 x2,g⟩ s).bind k:=(rfl)
theorem k_len {x1}:sA.stepK call lp ⟨d,.len x0 x1,g⟩ s k=(sA.step call ⟨d,.len x0 x1,g⟩ s).bind k:=(rfl)
theorem k_app {x1} {x2} {x3} {x4} {x5}:sA.stepK call lp ⟨d,.app x0 x1 x2 x3 x4 x5,g⟩ s k=(sA.step call ⟨d,.app x0 x1 x2 x3 x4 x5,g⟩ s).bind k:=(rfl)
theorem a8 {x1} {x2} {x3} {x4} {x5}:sA.stepK call lp ⟨d,.appf x0 x1 x2 x3 x4 x5,g⟩ s k=(sA.step call ⟨d,.appf x0 x1 x2 x3 x4 x5,g⟩ s).bind k:=(rfl)
theorem s8 {x1} {x2} {x3} {x4} {x5}:sA.stepK call lp ⟨d,.appm x0 x1 x2 x3 x4 x5,g⟩ s k=(sA.step call ⟨d,.appm x0 x1 x2 x3 x4 x5,g⟩ s).bind k:=(rfl)
theorem d8 {x1} {x2} {x3} {x4} {x5}:sA.stepK call lp ⟨d,.appn x0 x1 x2 x3 x4 x5,g⟩ s k=(sA.step call ⟨d,.appn x0 x1 x2 x3 x4 x5,g⟩ s).bind k:=(rfl)
end
theorem k_mkm:sA.stepK call lp ⟨d,.mkm,g⟩ s k=(sA.step call ⟨d,.mkm,g⟩ s).bind k:=(rfl)
theorem k_bad:sA.stepK call lp ⟨d,.bad,g⟩ s k=(sA.step call ⟨d,.bad,g⟩ s).bind k:=(rfl)
theorem k_mkb {T e:TypeId}:sA.stepK call lp ⟨d,.mkb T e,g⟩ s k=(sA.step call ⟨d,.mkb T e,g⟩ s).bind k:=(rfl)
theorem n8 {x0} {x1} {x2} {x3} {x4}:sA.stepK call lp ⟨d,.mget x0 x1 x2 x3 x4,g⟩ s k=(sA.step call ⟨d,.mget x0 x1 x2 x3 x4,g⟩ s).bind k:=(rfl)
theorem Q8 {x0} {x1} {x2} {x3}:sA.stepK call lp ⟨d,.mset x0 x1 x2 x3,g⟩ s k=(sA.step call ⟨d,.mset x0 x1 x2 x3,g⟩ s).bind k:=(rfl)
theorem m8 {x0}:sA.stepK call lp ⟨d,.mlen x0,g⟩ s k=(sA.step call ⟨d,.mlen x0,g⟩ s).bind k:=(rfl)
theorem k_rng {x0}:sA.stepK call lp ⟨d,.rng x0,g⟩ s k=(sA.step call ⟨d,.rng x0,g⟩ s).bind k:=(rfl)
theorem k_slz {x0}:sA.stepK call lp ⟨d,.slz x0,g⟩ s k=(sA.step call ⟨d,.slz x0,g⟩ s).bind k:=(rfl)
theorem k_ent {x0}:sA.stepK call lp ⟨d,.ent x0,g⟩ s k=(sA.step call ⟨d,.ent x0,g⟩ s).bind k:=(rfl)
theorem k_nxt {x0}:sA.stepK call lp ⟨d,.nxt x0,g⟩ s k=QF s d g (BO d x0 s k) k:=(rfl)
theorem zZ {x0}:sA.stepK call lp ⟨d,.nilchk x0,g⟩ s k=(sA.step call ⟨d,.nilchk x0,g⟩ s).bind k:=(rfl)
end
theorem B7 (d:Option Nat) (op:K) (g:Option (Nat × Bool)) (x:qA):sA.eff ⟨d,op,g⟩ s (x,.none)=some (s.put d x):=(rfl)
theorem e_set (d:Option Nat) (op:K) (g:Option (Nat × Bool)) (x:qA) (t n:Nat) (r:List qA):sA.eff ⟨d,op,g⟩ s (x,.set t n r)=some ((s.setRow t n r).put d x):=(rfl)
theorem X7 (d:Nat) (op:K) (g:Option (Nat × Bool)) (t n o:Nat) (a:An) (r:List qA):sA.eff ⟨some d,op,g⟩ s (⟨.ptr t n o,a⟩,.new r)=some ((s.setRow d s.next r).put (some d) ⟨.ptr d s.next 0,.no⟩):=(rfl)
theorem C7 (d:Nat) (op:K) (g:Option (Nat × Bool)) (t n z o l p:Nat) (a:An) (r:List qA):sA.eff ⟨some d,op,g⟩ s (⟨.ref t n z o l p,a⟩,.new r)=some ((s.setRow d s.next r).put (some d) ⟨.ref d s.next z o l p,.no⟩):=(rfl)
theorem e_app (d:Nat) (op:K) (g:Option (Nat × Bool)) (v:AV) (a:An) (kk j:Nat) (e:TypeId):sA.eff ⟨some d,op,g⟩ s (⟨v,.own kk e⟩,.app a j)=some (((s.stripA a).strip d).put (some d) ⟨v,.own d e⟩):=(rfl)
theorem e_obj (d:Option Nat) (op:K) (g:Option (Nat × Bool)) (x:qA) (t n:Nat) (S:AV):sA.eff ⟨d,op,g⟩ s (x,.obj t n S)=some ((s.setObj t n S).put d x):=(rfl)
theorem e_mk (d:Nat) (op:K) (g:Option (Nat × Bool)) (x:qA) (S:AV):sA.eff ⟨some d,op,g⟩ s (x,.mk S)=some ((s.setObj d s.next S).put (some d) ⟨x.v.named d s.next,.no⟩):=(rfl)
theorem e_rn (d:Nat) (op:K) (g:Option (Nat × Bool)) (t n z o l p:Nat) (a:An) (q:Option (Nat × Nat)) (r:List qA):sA.eff ⟨some d,op,g⟩ s (⟨.ref t n z o l p,a⟩,.rn q r)=some (((s.killO q).setRow d s.next r).put (some d) ⟨.ref d s.next z o l p,.no⟩):=(rfl)
theorem e_ob2 (d:Nat) (op:K) (g:Option (Nat × Bool)) (t n z o l p:Nat) (a:An) (t' n':Nat) (S:AV) (r:List qA):sA.eff ⟨some d,op,g⟩ s (⟨.ref t n z o l p,a⟩,.ob2 t' n' S r)=some (((s.setObj t' n' S).setRow d s.next r).put (some d) ⟨.ref d s.next z o l p,.no⟩):=(rfl)
theorem O9 {b:C} {s s':tA} {k:Ex->tA->Option RV} (h:s=s'):C.run call lp b s k=C.run call lp b s' k:=by rw [h]
theorem p9 {l:List sA} {s s':tA} {k:tA->Option RV} (h:s=s'):AC call lp l s k=AC call lp l s' k:=by rw [h]
theorem n0 {o:sA} {s s':tA} {k:tA->Option RV} (h:s=s'):sA.stepK call lp o s k=sA.stepK call lp o s' k:=by rw [h]
theorem S4 {α β:Type} {a a':Option α} {f:α->Option β} (h:a=a'):a.bind f=a'.bind f:=by rw [h]
theorem QY {v v':AV} {a b:Option RV} (h:v=v'):AR v a b=AR v' a b:=by rw [h]
theorem CW {v v':AV} {w:Bool} {a b:Option tA} (h:v=v'):pM v w a b=pM v' w a b:=by rw [h]
theorem BW {v v':AV} {w:Bool} {a b:Option RV} (h:v=v'):aM v w a b=aM v' w a b:=by rw [h]
theorem t8 {v v':AV} {g:Nat->List AV->Option RV} (h:v=v'):fnC v g=fnC v' g:=by rw [h]
theorem q8 {T:Nat->Option PA} {ext:OA} {b:C} {s s':tA} {k:Ex->tA->Option RV} (h:s=s'):cR T ext b s k=cR T ext b s' k:=by rw [h]
theorem M7 {T:Nat->Option PA} {ext:OA} {f:Nat} {xs cn:List qA} {s s':tA} {k:qA->tA->Option RV} (hx:xs=cn) (h:s=s'):i7 T ext f xs s k=i7 T ext f cn s' k:=by rw [h,hx]
end
attribute [congr] O9 p9 n0 S4 QY CW BW t8 q8 M7
attribute [simp] S5 A5 D5 k_clr k_rng k_slz k_ent k_nxt k_bad k_mkb k_mv W8 U5 k_box I5 k_bsl g8 b8 Z5 k_bin k_mm k_eqa k_eqn k_un z8 E8 j8 k_mks k_slc f8 H5 J5 K5 T5 L5 k_ext l8 O5 k_mkf G5 F5 P5 k_len k_app a8 s8 d8 k_mkm n8 Q8 m8 zZ BR rT i8 d5 f5 p8 X8 xY J6 I6 DW j0 B0 dY CZ M5 N5 u6 q6 B5
attribute [simp] uW jO D6 WX EX qA.strip_v qA.strip_a qA.strip_mk U1 K8 s6 KO lL qA.kill_v qA.kill_a qA.kill_mk
attribute [simp] e_ob2 CY FV AV.frz AV.frz0 iX NR AV.kill AV.kill0 I8 w6 e_rn U8 m_put O8 m_row m_obj o6 bZ nZ An.strip B7 e_set X7 C7 e_app e_obj e_mk K.run GA.get LE AV.leaf AV.whole AV.cells fY mmC zH nL bC pC Cl.okPtr Cl.okMem aL uQ qT IZ ID HP AV.free AV.free0 AV.back AV.backN AV.isObj AV.named xS cB eJ NC rJ AV.capOk zL lC CD AV.elems GA.an SC GW lB nD uM XD xF kR
attribute [simp ↓] XS NZ nX MZ R6 jY IW kY NS SR CR wT Q9 r_seq r_reg l9 E6 n9 b9 r_ret a_nrm U7 a_ret o_nil Z8 P6 O6
end
def kC:OA:=fun _ _ _=>none
theorem UW {O:OB} (f:FuncId) (args:List AV) (S:Option AV) (r:RV) (h:kC f args S=some r):EA Tryz.prog O f args S r:=by cases h
def wN:List (List AV)->Option (List (List UInt8))
 | []=>some []
 | [.str x] :: r=>(wN r).map (x.data.toList :: ·)
 | _=>none
def cC (sep:List UInt8):List (List UInt8)->List UInt8
 | []=>[]
 | [x]=>x
 | x :: r=>x++sep++cC sep r
def l5 (z:Nat):List AV->Option RV
 | .undef :: .sl b l :: .int .i64 i :: .sl false [x] :: []=>if 0<=i/\i<=l.length/\l.length<=900/\UA z (x :: l)=true/\(b=true->l=[]) then some (.sl false (l.take i.toNat++x :: l.drop i.toNat),none) else none
 | _=>none
def J4 (z:Nat):List AV->Option RV
 | .undef :: .sl false l :: .int .i64 i :: .int .i64 j :: []=>if 0<=i/\j=i + 1/\j<=l.length/\l.length<=900/\UA z l=true then some (.sl false (l.take i.toNat++l.drop j.toNat),none) else none
 | _=>none
def XV:List AV->Option RV
 | [.int .i64 n]=>if 0<=n/\n<100 then some (.str ⟨(if n<10 then [UInt8.ofNat (48 + n.toNat)] else [UInt8.ofNat (48 + n.toNat / 10),UInt8.ofNat (48 + n.toNat % 10)]).toArray⟩,none) else none
 | _=>none
def jnE:List AV->Option RV
 | [.sl false l,.str s]=>(wN l).bind fun xs=>if l.length<=1000/\(cC s.data.toList xs).length<=140737488355328 then some (.str ⟨(cC s.data.toList xs).toArray⟩,none) else none
 | _=>none
def pA:OA:=fun f args S =>
 if f=68 then (match S with
  | some (.int .i64 13)=>l5 13 args
  | _=>none)
 else if f=72 then (match S with
  | some (.int .i64 2)=>l5 2 args
  | _=>none)
 else if f=69 then (match S with
  | some (.int .i64 13)=>J4 13 args
  | _=>none)
 else if f=73 then (match S with
  | some (.int .i64 2)=>J4 2 args
  | _=>none)
 else if f=50 then (match S with
  | none=>XV args
  | _=>none)
 else if f=54 then (match S with
  | none=>jnE args
  | _=>none)
 else kC f args S
abbrev i6 (n:Int):AV:=.int .i64 n
abbrev f6:AV:=.bool false
abbrev t6:AV:=.bool true
abbrev n6:AV:=.sl true []
abbrev e6:AV:=.str ⟨#[]⟩
abbrev i0:AV:=.int .i64 0
def qY:List ME:=[]
theorem P7:kA RA pA qY:=kA.nil
abbrev va:AV:=(.sl false [[(i6 5),(.str (.mk #[82])),i0,i0,i0,n6,(.sl false [[(i6 1),(.str (.mk #[97])),(i6 1),f6,f6,i0,f6,i0,e6,i0,n6,n6,n6]]),i0,i0,f6],[(i6 2),e6,i0,(i6 9),i0,n6,n6,i0,i0,f6]])
abbrev vc:AV:=(.sl false [[(i6 1),(.str (.mk #[97])),(i6 1),f6,f6,i0,f6,i0,e6,i0,n6,n6,n6],[(i6 2),(.str (.mk #[98])),(i6 1),f6,t6,(i6 2),f6,i0,e6,i0,n6,n6,n6]])
abbrev vd:AV:=(.sl false [[(i6 5),(.str (.mk #[82])),i0,i0,i0,n6,(.sl false [[(i6 1),(.str (.mk #[97])),(i6 1),f6,f6,i0,f6,i0,e6,i0,n6,n6,n6],[(i6 2),(.str (.mk #[98])),(i6 1),f6,f6,i0,f6,i0,e6,i0,n6,n6,n6]]),i0,i0,f6],[(i6 2),e6,i0,(i6 9),i0,n6,n6,i0,i0,f6]])
abbrev ve:AV:=(.sl false [[(i6 5),(.str (.mk #[82])),i0,i0,i0,n6,vc,i0,i0,f6],[(i6 2),e6,i0,(i6 9),i0,n6,n6,i0,i0,f6]])
abbrev vf:AV:=(.sl false [[(i6 5),(.str (.mk #[82])),i0,i0,i0,n6,vc,i0,i0,f6],[(i6 2),e6,i0,(i6 5),i0,n6,n6,i0,i0,f6]])
abbrev vg:AV:=(.tup [(.sl false [[i0,i0],[(i6 1),(i6 1)]]),(.sl false [[(i6 (-1))],[i0]])])
abbrev vh:AV:=(.agg [va])
abbrev vi:AV:=(.agg [va,i0])
abbrev vj:AV:=(.sl false [[(i6 1),i0,i0,e6,(i6 2),(.str (.mk #[98])),(i6 1),f6,t6,(i6 2),f6,i0,e6,i0,n6,n6,n6,i0,e6,i0,i0,i0,f6,i0,i0]])
abbrev vk:AV:=(.sl false [[(i6 1),(i6 1)]])
abbrev vl:AV:=(.agg [ve])
abbrev vm:AV:=(.agg [vf])
abbrev vn:AV:=(.agg [vd])
abbrev vp:AV:=(.tup [(.sl false [[t6],[t6]]),i0])
abbrev vq:AV:=(.tup [n6,i0,(i6 15)])
abbrev vr:AV:=(.sl false [[(i6 2)],[(i6 2)]])
abbrev vt:AV:=(.agg [vf,i0])
abbrev vu:AV:=(.agg [ve,i0])
abbrev vv:AV:=(.agg [vd,i0])
def wY:List ME:=⟨31,[],none,(vh,none)⟩ :: qY
theorem A7:kA RA pA wY:=P7.more 3000 _ (by kernel_rfl)
def eY:List ME:=⟨32,[f6],none,((.agg [(i6 1),i0,i0,e6,(i6 2),(.str (.mk #[98])),(i6 1),f6,f6,i0,f6,i0,e6,i0,n6,n6,n6,i0,e6,i0,i0,i0,f6,i0,i0]),none)⟩ :: wY
theorem S7:kA RA pA eY:=A7.more 3000 _ (by kernel_rfl)
def rY:List ME:=⟨34,[vh],none,(i0,none)⟩ :: eY
theorem D7:kA RA pA rY:=S7.more 3000 _ (by kernel_rfl)
def tY:List ME:=⟨34,[vn],none,(i0,none)⟩ :: rY
theorem F7:kA RA pA tY:=D7.more 3000 _ (by kernel_rfl)
def uY:List ME:=⟨14,[vh,(.sl false [[(i6 1),i0,i0,e6,(i6 2),(.str (.mk #[98])),(i6 1),f6,f6,i0,f6,i0,e6,i0,n6,n6,n6,i0,e6,i0,i0,i0,f6,i0,i0]])],none,((.tup [vn,(i6 1),i0]),none)⟩ :: tY
theorem G7:kA RA pA uY:=F7.more 3000 _ (by kernel_rfl)
def iY:List ME:=⟨32,[t6],none,((.agg [(i6 1),i0,i0,e6,(i6 2),(.str (.mk #[98])),(i6 1),f6,t6,(i6 2),f6,i0,e6,i0,n6,n6,n6,i0,e6,i0,i0,i0,f6,i0,i0]),none)⟩ :: uY
theorem H7:kA RA pA iY:=G7.more 3000 _ (by kernel_rfl)
def pY:List ME:=⟨34,[vl],none,(i0,none)⟩ :: iY
theorem J7:kA RA pA pY:=H7.more 3000 _ (by kernel_rfl)
def aY:List ME:=⟨14,[vh,vj],none,((.tup [vl,(i6 1),i0]),none)⟩ :: pY
theorem K7:kA RA pA aY:=J7.more 3000 _ (by kernel_rfl)
def sY:List ME:=⟨156,[vh],none,((.tup [i0,i0,i0]),none)⟩ :: aY
theorem L7:kA RA pA sY:=K7.more 3000 _ (by kernel_rfl)
def CT:List ME:=⟨121,[vh],none,(i0,none)⟩ :: sY
theorem O1:kA RA pA CT:=L7.more 3000 _ (by kernel_rfl)
def BT:List ME:=⟨122,[vh],none,(vr,none)⟩ :: CT
theorem P1:kA RA pA BT:=O1.more 3000 _ (by kernel_rfl)
def NT:List ME:=⟨84,[vh],none,(vp,none)⟩ :: BT
theorem D1:kA RA pA NT:=P1.more 3000 _ (by kernel_rfl)
def MT:List ME:=⟨46,[vh],none,(i0,none)⟩ :: NT
theorem F1:kA RA pA MT:=D1.more 3000 _ (by kernel_rfl)
def qU:List ME:=⟨156,[vn],none,((.tup [i0,i0,i0]),none)⟩ :: MT
theorem G1:kA RA pA qU:=F1.more 3000 _ (by kernel_rfl)
def wU:List ME:=⟨121,[vn],none,(i0,none)⟩ :: qU
theorem J1:kA RA pA wU:=G1.more 3000 _ (by kernel_rfl)
def eU:List ME:=⟨122,[vn],none,(vr,none)⟩ :: wU
theorem K1:kA RA pA eU:=J1.more 3000 _ (by kernel_rfl)
def rU:List ME:=⟨84,[vn],none,(vp,none)⟩ :: eU
theorem Z1:kA RA pA rU:=K1.more 3000 _ (by kernel_rfl)
def tU:List ME:=⟨46,[vn],none,(i0,none)⟩ :: rU
theorem X1:kA RA pA tU:=Z1.more 3000 _ (by kernel_rfl)
def uU:List ME:=⟨159,[vn,i0,vh,i0],none,(vk,none)⟩ :: tU
theorem C1:kA RA pA uU:=X1.more 3000 _ (by kernel_rfl)
def iU:List ME:=⟨159,[vn,(i6 1),vh,(i6 1)],none,(n6,none)⟩ :: uU
theorem B1:kA RA pA iU:=C1.more 3000 _ (by kernel_rfl)
def pU:List ME:=⟨124,[vv,vi],none,(vg,none)⟩ :: iU
theorem N1:kA RA pA pU:=B1.more 3000 _ (by kernel_rfl)
def aU:List ME:=⟨125,[vn,i0,vh,i0],none,(i0,none)⟩ :: pU
theorem M1:kA RA pA aU:=N1.more 3000 _ (by kernel_rfl)
def sU:List ME:=⟨125,[vn,(i6 1),vh,(i6 1)],none,(i0,none)⟩ :: aU
theorem o2:kA RA pA sU:=M1.more 3000 _ (by kernel_rfl)
def dU:List ME:=⟨85,[vv,vi],none,(vq,none)⟩ :: sU
theorem Q2:kA RA pA dU:=o2.more 3000 _ (by kernel_rfl)
def fU:List ME:=⟨47,[vv,vi],none,((.tup [t6,i0]),none)⟩ :: dU
theorem E2:kA RA pA fU:=Q2.more 3000 _ (by kernel_rfl)
def gU:List ME:=⟨159,[vh,i0,vn,i0],none,(vk,none)⟩ :: fU
theorem T2:kA RA pA gU:=E2.more 3000 _ (by kernel_rfl)
def hU:List ME:=⟨159,[vh,(i6 1),vn,(i6 1)],none,(n6,none)⟩ :: gU
theorem U2:kA RA pA hU:=T2.more 3000 _ (by kernel_rfl)
def jU:List ME:=⟨124,[vi,vv],none,(vg,none)⟩ :: hU
theorem I2:kA RA pA jU:=U2.more 3000 _ (by kernel_rfl)
def kU:List ME:=⟨125,[vh,i0,vn,i0],none,((i6 7),none)⟩ :: jU
theorem O2:kA RA pA kU:=I2.more 3000 _ (by kernel_rfl)
def lU:List ME:=⟨85,[vi,vv],none,((.tup [(.sl false [[i0,i0]]),(i6 7),i0]),none)⟩ :: kU
theorem P2:kA RA pA lU:=O2.more 3000 _ (by kernel_rfl)
def zU:List ME:=⟨47,[vi,vv],none,((.tup [f6,i0]),none)⟩ :: lU
theorem D2:kA RA pA zU:=P2.more 3000 _ (by kernel_rfl)
def xU:List ME:=⟨21,[vh,vn,i0],none,((.tup [t6,f6,i0]),none)⟩ :: zU
theorem F2:kA RA pA xU:=D2.more 3000 _ (by kernel_rfl)
def cU:List ME:=⟨156,[vl],none,((.tup [i0,i0,i0]),none)⟩ :: xU
theorem G2:kA RA pA cU:=F2.more 3000 _ (by kernel_rfl)
def bU:List ME:=⟨121,[vl],none,(i0,none)⟩ :: cU
theorem J2:kA RA pA bU:=G2.more 3000 _ (by kernel_rfl)
def nU:List ME:=⟨122,[vl],none,(vr,none)⟩ :: bU
theorem K2:kA RA pA nU:=J2.more 3000 _ (by kernel_rfl)
def mU:List ME:=⟨84,[vl],none,(vp,none)⟩ :: nU
theorem Z2:kA RA pA mU:=K2.more 3000 _ (by kernel_rfl)
def QU:List ME:=⟨46,[vl],none,(i0,none)⟩ :: mU
theorem X2:kA RA pA QU:=Z2.more 3000 _ (by kernel_rfl)
def WU:List ME:=⟨159,[vl,i0,vh,i0],none,(vk,none)⟩ :: QU
theorem C2:kA RA pA WU:=X2.more 3000 _ (by kernel_rfl)
def EU:List ME:=⟨159,[vl,(i6 1),vh,(i6 1)],none,(n6,none)⟩ :: WU
theorem B2:kA RA pA EU:=C2.more 3000 _ (by kernel_rfl)
def RU:List ME:=⟨124,[vu,vi],none,(vg,none)⟩ :: EU
theorem N2:kA RA pA RU:=B2.more 3000 _ (by kernel_rfl)
def TU:List ME:=⟨125,[vl,i0,vh,i0],none,(i0,none)⟩ :: RU
theorem M2:kA RA pA TU:=N2.more 3000 _ (by kernel_rfl)
def UU:List ME:=⟨125,[vl,(i6 1),vh,(i6 1)],none,(i0,none)⟩ :: TU
theorem w3:kA RA pA UU:=M2.more 3000 _ (by kernel_rfl)
def IU:List ME:=⟨85,[vu,vi],none,(vq,none)⟩ :: UU
theorem o3:kA RA pA IU:=w3.more 3000 _ (by kernel_rfl)
def OU:List ME:=⟨47,[vu,vi],none,((.tup [t6,i0]),none)⟩ :: IU
theorem d3:kA RA pA OU:=o3.more 3000 _ (by kernel_rfl)
def PU:List ME:=⟨159,[vh,i0,vl,i0],none,(vk,none)⟩ :: OU
theorem j3:kA RA pA PU:=d3.more 3000 _ (by kernel_rfl)
def AU:List ME:=⟨159,[vh,(i6 1),vl,(i6 1)],none,(n6,none)⟩ :: PU
theorem b3:kA RA pA AU:=j3.more 3000 _ (by kernel_rfl)
def SU:List ME:=⟨124,[vi,vu],none,(vg,none)⟩ :: AU
theorem Q3:kA RA pA SU:=b3.more 3000 _ (by kernel_rfl)
def DU:List ME:=⟨125,[vh,i0,vl,i0],none,(i0,none)⟩ :: SU
theorem W3:kA RA pA DU:=Q3.more 3000 _ (by kernel_rfl)
def FU:List ME:=⟨125,[vh,(i6 1),vl,(i6 1)],none,(i0,none)⟩ :: DU
theorem E3:kA RA pA FU:=W3.more 3000 _ (by kernel_rfl)
def GU:List ME:=⟨85,[vi,vu],none,(vq,none)⟩ :: FU
theorem T3:kA RA pA GU:=E3.more 3000 _ (by kernel_rfl)
def HU:List ME:=⟨47,[vi,vu],none,((.tup [t6,i0]),none)⟩ :: GU
theorem U3:kA RA pA HU:=T3.more 3000 _ (by kernel_rfl)
def JU:List ME:=⟨21,[vh,vl,i0],none,((.tup [t6,t6,i0]),none)⟩ :: HU
theorem I3:kA RA pA JU:=U3.more 3000 _ (by kernel_rfl)
def KU:List ME:=⟨159,[vh,i0,vh,i0],none,(vk,none)⟩ :: JU
theorem O3:kA RA pA KU:=I3.more 3000 _ (by kernel_rfl)
def LU:List ME:=⟨159,[vh,(i6 1),vh,(i6 1)],none,(n6,none)⟩ :: KU
theorem P3:kA RA pA LU:=O3.more 3000 _ (by kernel_rfl)
def ZU:List ME:=⟨124,[vi,vi],none,(vg,none)⟩ :: LU
theorem A3:kA RA pA ZU:=P3.more 3000 _ (by kernel_rfl)
def XU:List ME:=⟨125,[vh,i0,vh,i0],none,(i0,none)⟩ :: ZU
theorem S3:kA RA pA XU:=A3.more 3000 _ (by kernel_rfl)
def CU:List ME:=⟨125,[vh,(i6 1),vh,(i6 1)],none,(i0,none)⟩ :: XU
theorem D3:kA RA pA CU:=S3.more 3000 _ (by kernel_rfl)
def BU:List ME:=⟨85,[vi,vi],none,(vq,none)⟩ :: CU
theorem F3:kA RA pA BU:=D3.more 3000 _ (by kernel_rfl)
def NU:List ME:=⟨47,[vi,vi],none,((.tup [t6,i0]),none)⟩ :: BU
theorem G3:kA RA pA NU:=F3.more 3000 _ (by kernel_rfl)
def MU:List ME:=⟨21,[vh,vh,i0],none,((.tup [t6,t6,i0]),none)⟩ :: NU
theorem H3:kA RA pA MU:=G3.more 3000 _ (by kernel_rfl)
def qV:List ME:=⟨34,[vm],none,(i0,none)⟩ :: MU
theorem J3:kA RA pA qV:=H3.more 3000 _ (by kernel_rfl)
def wV:List ME:=⟨156,[vm],none,((.tup [i0,i0,i0]),none)⟩ :: qV
theorem K3:kA RA pA wV:=J3.more 3000 _ (by kernel_rfl)
def eV:List ME:=⟨121,[vm],none,(i0,none)⟩ :: wV
theorem L3:kA RA pA eV:=K3.more 3000 _ (by kernel_rfl)
def rV:List ME:=⟨122,[vm],none,(vr,none)⟩ :: eV
theorem Z3:kA RA pA rV:=L3.more 3000 _ (by kernel_rfl)
def tV:List ME:=⟨84,[vm],none,(vp,none)⟩ :: rV
theorem X3:kA RA pA tV:=Z3.more 3000 _ (by kernel_rfl)
def uV:List ME:=⟨46,[vm],none,(i0,none)⟩ :: tV
theorem C3:kA RA pA uV:=X3.more 3000 _ (by kernel_rfl)
def iV:List ME:=⟨159,[vm,i0,vh,i0],none,(vk,none)⟩ :: uV
theorem B3:kA RA pA iV:=C3.more 3000 _ (by kernel_rfl)
def pV:List ME:=⟨159,[vm,(i6 1),vh,(i6 1)],none,(n6,none)⟩ :: iV
theorem N3:kA RA pA pV:=B3.more 3000 _ (by kernel_rfl)
def aV:List ME:=⟨124,[vt,vi],none,(vg,none)⟩ :: pV
theorem M3:kA RA pA aV:=N3.more 3000 _ (by kernel_rfl)
def sV:List ME:=⟨125,[vm,i0,vh,i0],none,(i0,none)⟩ :: aV
theorem w4:kA RA pA sV:=M3.more 3000 _ (by kernel_rfl)
def dV:List ME:=⟨125,[vm,(i6 1),vh,(i6 1)],none,(i0,none)⟩ :: sV
theorem o4:kA RA pA dV:=w4.more 3000 _ (by kernel_rfl)
def fV:List ME:=⟨85,[vt,vi],none,(vq,none)⟩ :: dV
theorem s4:kA RA pA fV:=o4.more 3000 _ (by kernel_rfl)
def gV:List ME:=⟨47,[vt,vi],none,((.tup [t6,i0]),none)⟩ :: fV
theorem j4:kA RA pA gV:=s4.more 3000 _ (by kernel_rfl)
def jV:List ME:=⟨159,[vh,i0,vm,i0],none,(vk,none)⟩ :: gV
theorem b4:kA RA pA jV:=j4.more 3000 _ (by kernel_rfl)
def kV:List ME:=⟨159,[vh,(i6 1),vm,(i6 1)],none,(n6,none)⟩ :: jV
theorem n4:kA RA pA kV:=b4.more 3000 _ (by kernel_rfl)
def lV:List ME:=⟨124,[vi,vt],none,(vg,none)⟩ :: kV
theorem m4:kA RA pA lV:=n4.more 3000 _ (by kernel_rfl)
def zV:List ME:=⟨125,[vh,i0,vm,i0],none,(i0,none)⟩ :: lV
theorem Q4:kA RA pA zV:=m4.more 3000 _ (by kernel_rfl)
def xV:List ME:=⟨125,[vh,(i6 1),vm,(i6 1)],none,((i6 2),none)⟩ :: zV
theorem W4:kA RA pA xV:=Q4.more 3000 _ (by kernel_rfl)
def cV:List ME:=⟨85,[vi,vt],none,((.tup [(.sl false [[i0,i0],[(i6 1),(i6 1)]]),(i6 2),i0]),none)⟩ :: xV
theorem E4:kA RA pA cV:=W4.more 3000 _ (by kernel_rfl)
def bV:List ME:=⟨47,[vi,vt],none,((.tup [f6,i0]),none)⟩ :: cV
theorem R4:kA RA pA bV:=E4.more 3000 _ (by kernel_rfl)
def nV:List ME:=⟨21,[vh,vm,i0],none,((.tup [t6,f6,i0]),none)⟩ :: bV
theorem T4:kA RA pA nV:=R4.more 3000 _ (by kernel_rfl)
def mV:List ME:=⟨23,[vh,i0,(.sl false [[(i6 1),i0,i0,e6,(i6 2),(.str (.mk #[98])),(i6 1),f6,t6,(i6 2),f6,i0,e6,i0,n6,n6,n6,i0,e6,i0,i0,i0,f6,i0,i0],[(i6 7),(i6 1),i0,e6,i0,e6,i0,f6,f6,i0,f6,i0,e6,i0,n6,n6,n6,i0,e6,i0,(i6 5),i0,f6,i0,i0]])],none,((.tup [(i6 1),i0]),none)⟩ :: nV
theorem U4:kA RA pA mV:=T4.more 3000 _ (by kernel_rfl)
def QV:List ME:=⟨17,[vh,vl],none,((.tup [vj,i0]),none)⟩ :: mV
theorem I4:kA RA pA QV:=U4.more 3000 _ (by kernel_rfl)
def WV:List ME:=⟨19,[vj,vj],none,(t6,none)⟩ :: QV
theorem O4:kA RA pA WV:=I4.more 3000 _ (by kernel_rfl)
def EV:List ME:=⟨25,[(.agg [(i6 1),i0,i0,e6,(i6 2),(.str (.mk #[98])),(i6 1),f6,t6,(i6 2),f6,i0,e6,i0,n6,n6,n6,i0,e6,i0,i0,i0,f6,i0,i0])],none,((.str (.mk #[97,100,100,32,48,32,50,32,98,32,49,32,100,101,102,97,117,108,116])),none)⟩ :: WV
theorem P4:kA RA pA EV:=O4.more 3000 _ (by kernel_rfl)
theorem TW:kA RA pA EV:=P4
abbrev evE (f:FuncId) (args:List AV) (r:AV):Prop:=cP RA pA f args none=some (r,none)
theorem LS:evE 11 [] (.bool true):=TW.run 3000 (by kernel_rfl)
section
open Go Go.RowKit Go.ChangeShapes Go.WideShapes Go.Deep
def II (P:Program) (r:TypeId->List AV->Prop):List Field->List AV->Prop
 | [],zb=>zb=[]
 | f :: fs,zb=>∃ a b,zb=a++b/\a.length=P.cellsOf f.type/\r f.type a/\II P r fs b
def W7 (P:Program) (r:TypeId->List AV->Prop) (e:TypeId):Nat->List AV->Prop
 | 0,zb=>zb=[]
 | n + 1,zb=>∃ a b,zb=a++b/\a.length=P.cellsOf e/\r e a/\W7 P r e n b
def SE (P:Program):Nat->TypeId->List AV->Prop
 | 0,_,_=>False
 | n + 1,t,zb=>match P.underlying t with
  | some .bool=>∃ b,zb=[.bool b]
  | some (.int k)=>∃ i,zb=[.int k i]/\(Lit.int k i).wf=true
  | some .string=>∃ s,zb=[.str s]/\s.size<=maxLen/\s.size<=reachBytes
  | some (.slice e)=>∃ nl els,zb=[.sl nl els]/\els.length<=maxLen/\els.length * P.bytesOf e<=reachBytes/\(nl=true->els=[])/\∀ x∈els,x.length=P.cellsOf e/\SE P n e x
  | some (.struct fs)=>II P (SE P n) fs.toList zb
  | some (.array k e)=>W7 P (SE P n) e k zb
  | _=>False
def UO (P:Program) (ts:List TypeId):Nat->Nat->List Field->Bool
 | off,total,[]=>decide (off=total)
 | off,total,f :: fs=>decide (f.offset=off)&&ts.contains f.type&&UO P ts (off + P.cellsOf f.type) total fs
def MI (P:Program) (ts:List TypeId) (t:TypeId):Bool:=match P.underlying t with
 | some .bool | some (.int _) | some .string=>decide (P.cellsOf t=1)
 | some (.slice e)=>ts.contains e&&decide (0<P.cellsOf e)&&decide (P.cellsOf t=1)
 | some (.struct fs)=>UO P ts 0 (P.cellsOf t) fs.toList
 | some (.array k e)=>ts.contains e&&decide (0<P.cellsOf e)&&decide (k * P.cellsOf e=P.cellsOf t)
 | _=>false
section
variable {H:Type} {enc:TypeId × Value->H} {P:Program} {w:World} {base:Nat} {spare:Nat->Bool} {held:Bool}
theorem lS {t e:TypeId} {fuel:Nat} {cs:List Value} {x:DataW H × List MemPlace} (ht:P.underlying t=some (.slice e)) (h:DataW.trod enc P w base spare held fuel t cs=some x) :
  (∃ n,fuel=n + 1)/\((cs=[.slice none 0 0]) ∨
  ∃ (a:Addr) (len cap n:Nat) (y:Nat->DataW H × List MemPlace) (D sp:List (DataW H)),cs=[.slice (some a) len cap]/\fuel=n + 1/\len<=cap/\cap<=maxLen/\x.1=.slice D sp/\D.length=len/\(∀ i,i<len->(y i).1∈D) ∧
   ∀ i,i<len->∃ xl,w.cells? base (a.add (i * P.cellsOf e)) (P.cellsOf e)=some xl/\DataW.trod enc P w base spare held n e xl=some (y i)):=by
 refine ⟨?_,?_⟩
 ·cases fuel with
  | zero=>simp [DataW.trod] at h
  | succ n=>exact ⟨n,rfl⟩
 rcases DataW.trod_slice ht h with h0 | ⟨a,len,cap,elems,rest,n,hfu,rfl,rfl,hb,hl,hm,da,ib,hsp,px⟩
 ·exact Or.inl h0.1
 right;refine ⟨a,len,cap,n,fun i=>elems.getD i (.nil,[]),elems.map (·.1),rest.map (·.1),rfl,hfu,hl,hm,rfl,by simpa using da,fun i hi=>?_,fun i hi=>?_⟩
 ·have e:elems.getD i (.nil,[])=elems[i]'(by omega):=by simp [List.getD,yn (show i<elems.length by omega)]
  show (elems.getD i (.nil,[])).1∈_;rw [e];exact List.mem_map_of_mem (List.getElem_mem _)
 have key:=ib i hi;rw [yn (by omega)] at key;obtain ⟨xl,h1,h2⟩:=y0.1 key;refine ⟨xl,h1,?_⟩;rw [h2];simp [List.getD,yn (show i<elems.length by omega)]
theorem cJ {e:TypeId}:∀ {D:List (DataW H)} {d:DataW H},d∈D->∀ m∈d.weights P e,m∈DataW.weightsAll P e D
 | d0 :: r,d,h,m,hm=>by
  simp only [DataW.weightsAll,List.mem_append];rcases List.mem_cons.1 h with rfl | h
  ·exact .inl hm
  ·exact .inr (cJ h m hm)
def WF (P:Program) (t:TypeId) (d:DataW H):Prop:=∀ m∈d.weights P t,m<=reachBytes
section
variable {t e:TypeId} {D sp:List (DataW H)} (ht:P.underlying t=some (.slice e)) (h:WF P t (.slice D sp))
include t e D sp ht h
theorem gT {d:DataW H} (hd:d∈D):WF P e d:=fun m hm=>h m (by
 simp only [DataW.weights,ht,List.mem_cons,List.mem_append];exact .inr (.inl (cJ hd m hm)))
theorem dX:D.length * P.bytesOf e<=reachBytes:=by
 have:=h ((D.length + sp.length) * P.bytesOf e) (by simp [DataW.weights,ht]);exact yp (Nat.mul_le_mul_right _ (by omega)) this
end
theorem sX {t e:TypeId} {k:Nat} {D:List (DataW H)} (ht:P.underlying t=some (.array k e)) (h:WF P t (.agg D)) {d:DataW H} (hd:d∈D):WF P e d:=fun m hm=>h m (by
 simp only [DataW.weights,ht];exact cJ hd m hm)
theorem uS {t:TypeId} {fs:Array Field} {D:List (DataW H)} (ht:P.underlying t=some (.struct fs)) (h:WF P t (.agg D)) {i:Nat} {f:Field} {d:DataW H} (hf:fs.toList[i]?=some f) (hd:D[i]?=some d):WF P f.type d:=fun m hm=>h m (by
 simp only [DataW.weights,ht];exact DataW.weights_mem_each (j:=i) (by rw [yl,hf]; rfl) hd m hm)
theorem LR {ts:List TypeId} {n:Nat} {cs:List Value}
  (ih:∀ (t:TypeId) (cs:List Value) (x:DataW H × List MemPlace),ts.contains t=true->WF P t x.1->DataW.trod enc P w base spare held n t cs=some x->∃ zb,IA bW w zb cs/\SE P n t zb/\zb.length=P.cellsOf t) :
  ∀ (fs:List Field) (off:Nat),UO P ts off cs.length fs=true->(∀ f∈fs,∃ x,WF P f.type x.1/\DataW.trod enc P w base spare held n f.type ((cs.drop f.offset).take (P.cellsOf f.type))=some x)->∃ zb,IA bW w zb (cs.drop off)/\II P (SE P n) fs zb
 | [],off,h,_=>by
  simp only [UO,decide_eq_true_eq] at h;refine ⟨[],?_,rfl⟩;rw [yD (by omega)];rfl
 | f :: fs,off,h,hx=>by
  simp only [UO,y7,decide_eq_true_eq] at h;obtain ⟨⟨ho,ht⟩,h⟩:=h;obtain ⟨x,eb,gu⟩:=hx f yh;obtain ⟨zb,h1,h2,je⟩:=ih _ _ _ ht eb gu;obtain ⟨bs,h3,h4⟩:=LR ih fs (off + P.cellsOf f.type) h fun g hg=>hx g (yr _ hg)
  refine ⟨zb++bs,?_,zb,bs,rfl,je,h2,h4⟩;have:cs.drop off=(cs.drop off).take (P.cellsOf f.type)++cs.drop (off + P.cellsOf f.type):=by rw [<- List.drop_drop,List.take_append_drop]
  rw [this];rw [ho] at h1;exact EB h1 h3
theorem LT {e:TypeId} {n:Nat} {cs:List Value} (f:∀ i:Nat,i * P.cellsOf e<cs.length->∃ zb,IA bW w zb ((cs.drop (i * P.cellsOf e)).take (P.cellsOf e))/\SE P n e zb/\zb.length=P.cellsOf e) (hp:0<P.cellsOf e) :
  ∀ (m i:Nat),(i + m) * P.cellsOf e=cs.length->∃ zb,IA bW w zb (cs.drop (i * P.cellsOf e))/\W7 P (SE P n) e m zb
 | 0,i,h=>by
  refine ⟨[],?_,rfl⟩;rw [yD (by simp at h; omega)];rfl
 | m + 1,i,h=>by
  have h1:(i + 1 + m) * P.cellsOf e=cs.length:=by rw [<- h]; congr 1; omega
  have hs:(i + 1) * P.cellsOf e=i * P.cellsOf e + P.cellsOf e:=yt i _;have eb:i * P.cellsOf e<cs.length:=by
   have:(i + 1) * P.cellsOf e<=(i + (m + 1)) * P.cellsOf e:=Nat.mul_le_mul_right _ (by omega);omega
  obtain ⟨zb,g1,g2,g2'⟩:=f i eb;obtain ⟨dz,g3,g4⟩:=LT f hp m (i + 1) h1;refine ⟨zb++dz,?_,zb,dz,rfl,g2',g2,g4⟩;have:cs.drop (i * P.cellsOf e)=(cs.drop (i * P.cellsOf e)).take (P.cellsOf e)++cs.drop ((i + 1) * P.cellsOf e):=by rw [hs,<- List.drop_drop,List.take_append_drop]
  rw [this];exact EB g1 g3
theorem CB {av:Av}:∀ {l:List AV} {us:List Value},IA av w l us->l.length=us.length
 | [],us,h=>by simp only [IA] at h; subst h; rfl
 | a :: r,us,h=>by
  simp only [IA] at h;obtain ⟨u,na,rfl,_,_,h⟩:=h;simp [CB h]
theorem lR {ts:List TypeId} (hg:ts.all (MI P ts)=true):∀ (n:Nat) (t:TypeId) (cs:List Value) (x:DataW H × List MemPlace),ts.contains t=true->WF P t x.1->DataW.trod enc P w base spare held n t cs=some x->∃ zb,IA bW w zb cs/\SE P n t zb/\zb.length=P.cellsOf t
 | 0,t,cs,x,_,_,hx=>by simp [DataW.trod] at hx
 | n + 1,t,cs,x,ee,eo,hx=>by
  have h:MI P ts t=true:=y5.1 hg t (by simpa using ee);unfold MI at h;split at h
  ·rename_i ht;simp only [decide_eq_true_eq] at h;obtain ⟨b,rfl,_⟩:=DataW.trod_bool ht hx;exact ⟨[.bool b],⟨_,_,rfl,rfl,rfl,rfl⟩,by simp only [SE,ht]; exact ⟨b,rfl⟩,by simp [h]⟩
  ·rename_i kk ht;simp only [decide_eq_true_eq] at h;obtain ⟨b,rfl,_,hw⟩:=DataW.trod_int ht hx;exact ⟨[.int kk b],⟨_,_,rfl,rfl,rfl,rfl⟩,by simp only [SE,ht]; exact ⟨b,rfl,hw⟩,by simp [h]⟩
  ·rename_i ht;simp only [decide_eq_true_eq] at h;obtain ⟨b,rfl,hd,hw⟩:=DataW.trod_string ht hx;exact ⟨[.str b],⟨_,_,rfl,rfl,rfl,rfl⟩,by simp only [SE,ht]; exact ⟨b,rfl,hw,eo _ (by rw [hd]; exact List.mem_singleton.2 Array.length_toList.symm)⟩,by simp [h]⟩
  ·rename_i e ht;simp only [y7,decide_eq_true_eq] at h;obtain ⟨⟨he,kb⟩,nj⟩:=h;rcases (lS ht hx).2 with rfl | ⟨a,len,cap,n',y,D,sp,rfl,hn,jb,ml,hxe,hDl,hyD,hi⟩
   ·exact ⟨[.sl true []],⟨_,_,rfl,⟨none,0,rfl,y6 _,(fun _ h=>by cases h),fun _=>⟨rfl,rfl,rfl⟩,fun h=>by cases h⟩,rfl,rfl⟩,by simp only [SE,ht]; exact ⟨true,[],rfl,Nat.zero_le _,by simp,fun _=>rfl,(fun _ h=>by cases h)⟩,by simp [nj]⟩
   ·have fh:n'=n:=by omega
    subst fh;rw [hxe] at eo;have im:=dX ht eo;rw [hDl] at im;have ja:∀ i:Nat,∃ zb:List AV,i<len->((zb.length=P.cellsOf e/\SE P n' e zb)/\∃ us,IA bW w zb us/\us.length=P.cellsOf e/\∀ j,j<P.cellsOf e->w.cell? ((a.add (i * P.cellsOf e)).add j)=us[j]?):=fun i=>by
     by_cases eb:i<len
     ·obtain ⟨us,nj,aw⟩:=hi i (by omega);obtain ⟨zb,h1,h2,je⟩:=lR hg n' e us _ he (gT ht eo (hyD i eb)) aw;obtain ⟨_,g1,g2⟩:=World.cells?_some nj;exact ⟨zb,fun _=>⟨⟨je,h2⟩,us,h1,g1,g2⟩⟩
     ·exact ⟨[],fun h=>absurd h eb⟩
    have jh:=Classical.axiomOfChoice ja;obtain ⟨f,hf⟩:=jh;have fi:∀ zb∈(List.range len).map f,zb.length=P.cellsOf e/\SE P n' e zb:=fun zb ha=>by
     obtain ⟨i,bc,rfl⟩:=List.mem_map.1 ha;exact (hf i (List.mem_range.1 bc)).1
    refine ⟨[.sl false ((List.range len).map f)],⟨_,_,rfl,⟨some a,cap,by simp,by simpa using jb,fun x hx y hy=>((fi x hx).1).trans ((fi y hy).1).symm,(fun h=>by cases h),fun _=>⟨fun h=>(by cases h),fun h0=>?_⟩⟩,rfl,rfl⟩,by simp only [SE,ht]; exact ⟨false,_,rfl,by simp; omega,by simpa using im,(fun h=>by cases h),fi⟩,by simp [nj]⟩;have oi:0<len:=by simpa using h0
    have et:∃ b off,a=⟨b,off,none⟩:=by
     obtain ⟨_,us,_,g1,g2⟩:=hf 0 oi;have g3:=g2 0 kb;simp only [Nat.zero_mul,Addr.add,if_true] at g3;rw [yn (by omega)] at g3;obtain ⟨b,off,sp⟩:=a;cases sp with
     | none=>exact ⟨b,off,rfl⟩
     | some q =>
      simp only [World.cell?] at g3;split at g3
      ·simp at g3
      ·cases g3
    obtain ⟨b,off,rfl⟩:=et;refine ⟨b,off,rfl,JT (fun x hx=>(fi x hx).1) fun i zb pm=>?_⟩;rw [yl] at pm;obtain ⟨i',bc,rfl⟩:=y8.1 pm;rw [yk] at bc;obtain ⟨eb,ui⟩:=bc;simp at eb ui;subst ui;obtain ⟨_,us,g0,g1,g2⟩:=hf i eb;refine sE g0 fun j u hu=>⟨?_,fun h=>h⟩
    have hj:j<P.cellsOf e:=by rw [<- g1]; exact (yk.1 hu).1
    have:=g2 j hj;rw [Addr.add_lit,Addr.add_lit,hu] at this;exact this
  ·rename_i fs ht;obtain ⟨xs,n',hn,rfl,da,eu,hf⟩:=DataW.trod_struct ht hx;have fh:n'=n:=by omega
   subst fh;rw [<- da] at h;obtain ⟨zb,h1,h2⟩:=LR (cs:=cs) (n:=n') (fun t cs x=>lR hg n' t cs x) fs.toList 0 h fun g hg=>by
    obtain ⟨i,hi,he⟩:=List.getElem_of_mem hg;have bc:i<fs.size:=by simpa using hi
    have h1:=hf i g (by rw [<- he]; simp [bc]);refine ⟨xs[i]'(by omega),uS ht eo (i:=i) (f:=g) (by rw [<- he]; simp [bc]) ?_,by rw [h1]; exact yn (by omega)⟩;rw [yl,yn (by omega)];rfl
   rw [yC] at h1;exact ⟨zb,h1,by simp only [SE,ht]; exact h2,(CB h1).trans da⟩
  ·rename_i k e ht;simp only [y7,decide_eq_true_eq] at h;obtain ⟨⟨he,kb⟩,nj⟩:=h;obtain ⟨xs,m,hm,rfl,da,eu,hf⟩:=DataW.trod_array ht hx;have pc:m=n:=by omega
   subst pc;obtain ⟨zb,h1,h2⟩:=LT (cs:=cs) (n:=m) (e:=e) (fun i hi=>by
    have hik:i<k:=by
     rw [da,<- nj] at hi;exact Nat.lt_of_mul_lt_mul_right hi
    have h1:=hf i hik;rw [yn (by omega)] at h1;exact lR hg m e _ _ he (sX ht eo (List.mem_map_of_mem (List.getElem_mem _))) h1) kb k 0 (by rw [yb,da,nj])
   rw [Nat.zero_mul,yC] at h1;exact ⟨zb,h1,by simp only [SE,ht]; exact h2,(CB h1).trans da⟩
  ·cases h
def E1 (P:Program) (t:TypeId) (a:AV):Prop:=∃ n,(nG P t=true/\∃ cs,a=.agg cs/\SE P n t cs)\/(nG P t=false/\SE P n t [a])
def FX (P:Program):List TypeId->List AV->Prop
 | [],xs=>xs=[]
 | t :: ts,xs=>∃ a r,xs=a :: r/\E1 P t a/\FX P ts r
theorem par_T {ts:List TypeId} (hg:ts.all (MI P ts)=true) {t:TypeId} {r:Reach} {b0:Nat} {v:Value} {d:DataW H} {p:List MemPlace} (hs:ts.contains t=true) (hv:Value.okWide P w r b0 t v) (eo:WF P t d) (h:DataW.Trod enc P w base spare held t v d p) :
  ∃ a,nA Ix.none bW bW w a v/\E1 P t a:=by
 obtain ⟨fuel,hf⟩:=h;obtain ⟨xs,h1,h2,_⟩:=lR hg fuel t _ _ hs eo hf;have one:∀ (u:Value),v=u->v.cells.toList=[u]->nG P t=false->(∀ a,SE P fuel t [a]->a.leaf=true)->∃ a,nA Ix.none bW bW w a v/\E1 P t a:=fun u hu hc hw gk=>by
  rw [hc] at h1;have hl:=CB h1
  match xs,hl with
  | [a],_ =>
   simp only [IA] at h1;obtain ⟨u',_,e,h0,_,_⟩:=h1;injection e with e;subst e;exact ⟨a,by rw [hu]; exact aN h0 (gk a h2),fuel,.inr ⟨hw,h2⟩⟩
 cases fuel with
 | zero=>exact h2.elim
 | succ k =>
  have pw:MI P ts t=true:=y5.1 hg t (by simpa using hs);unfold MI at pw;split at pw
  ·rename_i ht;obtain ⟨b,rfl⟩:=okWide_bool ht hv;refine one _ rfl rfl (by simp [nG,ht]) fun a ha=>?_
   simp only [SE,ht] at ha;obtain ⟨b',e⟩:=ha;injection e with e;subst e;rfl
  ·rename_i kk ht;obtain ⟨b,rfl⟩:=okWide_int ht hv;refine one _ rfl rfl (by simp [nG,ht]) fun a ha=>?_
   simp only [SE,ht] at ha;obtain ⟨b',e,_⟩:=ha;injection e with e;subst e;rfl
  ·rename_i ht;obtain ⟨b,rfl⟩:=okWide_string ht hv;refine one _ rfl rfl (by simp [nG,ht]) fun a ha=>?_
   simp only [SE,ht] at ha;obtain ⟨b',e,_⟩:=ha;injection e with e;subst e;rfl
  ·rename_i e' ht;obtain ⟨A,n,c,rfl⟩:=okWide_slice ht hv;refine one _ rfl rfl (by simp [nG,ht]) fun a ha=>?_
   simp only [SE,ht] at ha;obtain ⟨nl,els,e,_⟩:=ha;injection e with e;subst e;rfl
  ·rename_i fs ht;have:∃ cs,v=.agg cs:=by
    simp only [Value.okWide,ht] at hv;obtain ⟨cs,hv,_⟩:=hv;exact ⟨cs,hv⟩
   obtain ⟨cs,rfl⟩:=this;exact ⟨.agg xs,⟨cs,rfl,aB h1⟩,k + 1,.inl ⟨by simp [nG,ht],xs,rfl,h2⟩⟩
  ·rename_i n' e' ht;have:∃ cs,v=.agg cs:=by
    simp only [Value.okWide,ht] at hv;obtain ⟨cs,hv,_⟩:=hv;exact ⟨cs,hv⟩
   obtain ⟨cs,rfl⟩:=this;exact ⟨.agg xs,⟨cs,rfl,aB h1⟩,k + 1,.inl ⟨by simp [nG,ht],xs,rfl,h2⟩⟩
  ·cases pw
theorem CX {T:List TypeId} (hg:T.all (MI P T)=true) {r:Reach} {b0:Nat}:∀ {ts:List TypeId} {vs:List Value} {ds:List (DataW H)} {p:List MemPlace},DataW.TrodAll enc P w base spare held ts vs ds p->(∀ (j:Nat) t v,ts[j]?=some t->vs[j]?=some v->Value.okWide P w r b0 t v)->(∀ m∈DataW.weightsEach P ts ds,m<=reachBytes)->ts.all (fun t=>T.contains t)=true →
  ∃ xs,jC Ix.none bW bW w xs vs/\FX P ts xs
 | [],vs,ds,p,h,_,_,_=>by
  cases vs with
  | nil=>exact ⟨[],rfl,rfl⟩
  | cons=>cases ds <;> exact h.elim
 | t :: ts,vs,ds,p,h,hv,hw,hs=>by
  obtain ⟨v,wl,d,ds',p',q',rfl,rfl,rfl,h0,h⟩:=trodAll_cons h;simp only [DataW.weightsEach,List.mem_append] at hw;simp only [List.all_cons,y7] at hs;obtain ⟨a,h1,h2⟩:=par_T hg hs.1 (hv 0 t v rfl rfl) (fun m hm=>hw m (.inl hm)) h0;obtain ⟨xs,h3,h4⟩:=CX hg h (fun j t' v' e e'=>hv (j + 1) t' v' (by simpa using e) (by simpa using e')) (fun m hm=>hw m (.inr hm)) hs.2;exact ⟨a :: xs,⟨v,wl,rfl,h1,h3⟩,a,xs,rfl,h2,h4⟩
end
end
section
open Go.ChangeShapes Go.WideShapes Go.ChangeAt Go.RowKit
theorem own:ownKnob Tryz.prog.godebug=none:=by kernel_rfl
theorem X5:laidOutB Tryz.prog=true:=by kernel_rfl
theorem GP {H:Type} {enc:TypeId × Value->H} {P:Program} {f:Func} {s:ChangeSpec} {apart fresh bm:Bool} {W W':World} {args:Array Value} {v:Value} {ds gs:List (DataW H)} {before pa pv:List MemPlace}
  (hW:DataW.Whole enc P f.params.toList s.vars apart W args.toList ds gs before)
  (df:∀ (b:Nat) (sp:Nat->Bool) (hd:Bool),DataW.TrodAll enc P W' b sp hd f.resultTypes.toList (v.resultList f.resultTypes.size) (s.fn H (ds++gs)).results [])
  (ka:DataW.TrodAll enc P W' 0 (fun b=>decide (b<W.heap.size)) true f.params.toList args.toList (s.fn H (ds++gs)).args pa)
  (zt:DataW.TrodVars enc P W' (fun b=>decide (b<W.heap.size)) s.vars (s.fn H (ds++gs)).vars pv)
  (hb:Below W.heap.size W W'):s.post enc P f apart fresh bm false W args v W' :=
 ⟨ds,gs,before,[],pa,pv,hW,df _ _ _,ka,zt,hb.frame _,fun h=>by cases h⟩
end
abbrev aZ (P:Program) (f:FuncId) (fn:Func) (s:ChangeSpec) (c:OpenClaim):Bool:=(c.wf (OpenSpec.ofChange s)&&laidOutB P&&mapsRowed P&&fn.params.all (P.readableRec ·)&&namedTie P c.named s.vars&&(c.stops == [])&&(P.stops == [])&&(c.knobs == [])&&(P.stopKnobs == []))
abbrev sZ (P:Program) (f:FuncId) (fn:Func) (s:ChangeSpec) (c:OpenClaim):Bool:=((c.inPlace == P.inPlace f)&&(c.unfollowed == P.unfollowed f))
abbrev dZ (P:Program) (f:FuncId) (fn:Func) (s:ChangeSpec) (c:OpenClaim):Bool:=((c.recurses == P.recurses f)&&(c.named == P.varsNamed f))
abbrev fZ (P:Program) (f:FuncId) (fn:Func) (s:ChangeSpec) (c:OpenClaim):Bool:=((c.maps == (fn.params.toList++s.plain.varTypes P).any (P.mapsRec ·))&&(c.ifaces == (fn.params.toList++s.plain.varTypes P).any (P.ifacesRec ·))&&(c.mapsOut == P.mapsAmong fn.resultTypes.toList)&&(c.loops == (fn.params.toList++s.plain.varTypes P).any (P.loopsFrom ·))&&(c.wideKeys == (fn.params.toList++s.plain.varTypes P++fn.resultTypes.toList).any (P.wideKeysFrom ·))&&s.vars.all (P.varReadable ·)&&fn.resultTypes.all (fun t=>P.readableRec t&&decide (t<P.types.size))&&(c.ifacesOut == fn.resultTypes.toList.any (P.ifacesRec ·))&&(c.loopsOut == fn.resultTypes.toList.any (P.loopsFrom ·))&&(c.plainKeys == P.plainKeys)&&c.shortTexts.isNone&&P.stopsHeard)
abbrev gZ (P:Program) (f:FuncId) (fn:Func) (s:ChangeSpec) (c:OpenClaim):Bool:=P.mayEnter
abbrev jZ (P:Program) (f:FuncId) (fn:Func) (s:ChangeSpec) (c:OpenClaim):Bool:=(c.lifted == P.liftsFinal)
abbrev kZ (P:Program) (f:FuncId) (fn:Func) (s:ChangeSpec) (c:OpenClaim):Bool:=((P.make == some c.make)&&(c.kinds == (if c.domain.isEmpty then [] else fn.params.toList.map fun t=>match P.underlying t with | some (.int k)=>some k | _=>none))&&(c.pinned == c.pinnedBy)&&(c.veiled == (fn.params.toList++s.plain.varTypes P++fn.resultTypes.toList).any (P.veiledRec ·))&&c.veiledFits P fn.params.toList (fn.params.toList++s.plain.varTypes P++fn.resultTypes.toList))
theorem tX {P:Program} {f:FuncId} {fn:Func} {s:ChangeSpec} {c:OpenClaim} (h1:aZ P f fn s c=true) (h2:sZ P f fn s c=true) (je:dZ P f fn s c=true) (h3:fZ P f fn s c=true) (h4:gZ P f fn s c=true) (h5:jZ P f fn s c=true) (h6:kZ P f fn s c=true):joinedFacts P f fn s c=true:=by
 have e:joinedFacts P f fn s c=((c.wf (OpenSpec.ofChange s)&&laidOutB P&&mapsRowed P&&fn.params.all (P.readableRec ·)&&namedTie P c.named s.vars&&(c.stops == [])&&(P.stops == [])&&(c.knobs == [])&&(P.stopKnobs == []))&&(((c.inPlace == P.inPlace f)&&(c.unfollowed == P.unfollowed f))&&(((c.recurses == P.recurses f)&&(c.named == P.varsNamed f))&&(((c.maps == (fn.params.toList++s.plain.varTypes P).any (P.mapsRec ·))&&(c.ifaces == (fn.params.toList++s.plain.varTypes P).any (P.ifacesRec ·))&&(c.mapsOut == P.mapsAmong fn.resultTypes.toList)&&(c.loops == (fn.params.toList++s.plain.varTypes P).any (P.loopsFrom ·))&&(c.wideKeys == (fn.params.toList++s.plain.varTypes P++fn.resultTypes.toList).any (P.wideKeysFrom ·))&&s.vars.all (P.varReadable ·)&&fn.resultTypes.all (fun t=>P.readableRec t&&decide (t<P.types.size))&&(c.ifacesOut == fn.resultTypes.toList.any (P.ifacesRec ·))&&(c.loopsOut == fn.resultTypes.toList.any (P.loopsFrom ·))&&(c.plainKeys == P.plainKeys)&&c.shortTexts.isNone&&P.stopsHeard)&&(P.mayEnter&&((c.lifted == P.liftsFinal)&&((P.make == some c.make)&&(c.kinds == (if c.domain.isEmpty then [] else fn.params.toList.map fun t=>match P.underlying t with | some (.int k)=>some k | _=>none))&&(c.pinned == c.pinnedBy)&&(c.veiled == (fn.params.toList++s.plain.varTypes P++fn.resultTypes.toList).any (P.veiledRec ·))&&c.veiledFits P fn.params.toList (fn.params.toList++s.plain.varTypes P++fn.resultTypes.toList)))))))):=by
  simp only [joinedFacts,Bool.and_assoc];rfl
 dsimp only [aZ,sZ,dZ,fZ,gZ,jZ,kZ] at h1 h2 je h3 h4 h5 h6;rw [e,h1,h2,je,h3,h4,h5,h6];rfl
end Go.Proofs.YtbhbeakhognieaaGreatDoor
