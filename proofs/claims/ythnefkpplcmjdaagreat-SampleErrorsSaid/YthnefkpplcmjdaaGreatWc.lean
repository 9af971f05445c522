/- A part of the proof. -/
import Derived.Test.YthnefkpplcmjdaaGreatWb
import Derived.LoopN
import Derived.Deep.Slices
import Derived.Deep.Fields
import Derived.ChangeSame
import Derived.OpenShut
import Derived.Carry
import Derived.ChangeOld
import Derived.Test.YthnefkpplcmjdaaGreatChecked
import Derived.Lib.Builder
import Derived.Lib.UnsafeStr
import Derived.Shelf.RegionOpenPlain
import Derived.SizedLaws
import Derived.ProofKit
import Derived.JoinedCond
set_option linter.all false
set_option maxRecDepth 100000
set_option maxHeartbeats 8000000
open Option renaming bind_some → J, bind_eq_some_iff → y5, map_eq_some_iff → ye, map_some → yp
open List renaming map_map → y3, all_eq_true → y6, getElem?_eq_getElem → y7, getElem_mem → y8, getElem?_map → yb, drop_eq_getElem_cons → yc, drop_eq_nil_of_le → yf, mem_cons → yh, map_cons → yk, mem_cons_self → yl, mem_cons_of_mem → ym, getElem?_eq_some_iff → yn, length_map → yo, map_nil → yq, map_congr_left → yw, mem_map → yz, flatten_cons → yA, take_of_length_le → yB, length_append → yC, mem_append → yD, length_cons → yE, getElem?_take → yI, getElem?_drop → yL, length_take → yM, getElem?_append_right → yN, getElem_of_mem → yO, mem_of_getElem? → yQ, take_append_drop → yR, getElem?_eq_none → yV
open Bool renaming and_eq_true → y9, false_eq_true → yr
open Nat renaming le_refl → yg, le_trans → yt, succ_mul → yu, zero_add → yy, mul_le_mul_right → yS
open Array renaming getD_eq_getD_getElem? → yP
namespace Go.Proofs.YthnefkpplcmjdaaGreat
open Go
section
open Go Go.RowKit
section
variable {P:Program} {O:XI} {nt B:Nat} {F0:FQ} {da:Av} {w0:World} {s s':OC} {a:Act} {w w':World} {call:DD} {lp:LH}
def exOf:Ex->Exit
 |.nrm=>.normal
 |.exit id=>.exit id
 |.ret=>.ret
def Pa (P:Program)(O:XI)(N:Nat)(lp:Oz):Prop :=
 ∀(boxes:List Nat)(nt B:Nat)(F0:FQ)(da:Av)(w0:World)(code:Code)(b:C)(s:OC)(k:Ex->OC->Option RV)(r:RV)(a:Act)(w:World)(Q:Exit->Act->World->Prop),comp P boxes nt code=some b->lp b s k=some r->JF P O nt B F0 da w0 (fun _=>False) s a w →
  (∀e s' a' w',JF P O nt B F0 da w0 (fun _=>False) s' a' w'->k e s'=some r->Q (exOf e) a' w')->Code.rounds P code Q N a w
theorem XG (hm:P.follows .mixedOrders=true)(ma:∀f args S r,call f args S=some r->gE P O f args S r){N:Nat}(gp:Pa P O N lp.l)(dg:T1 P O lp.h){boxes:List Nat}:
  ∀(code:Code)(c:C)(s:OC)(k:Ex->OC->Option RV)(r:RV)(a:Act)(w:World)(Q:Exit->Act->World->Prop),comp P boxes nt code=some c->c.run call lp s k=some r->JF P O nt B F0 da w0 (fun _=>False) s a w →
   (∀e s' a' w',JF P O nt B F0 da w0 (fun _=>False) s' a' w'->k e s'=some r->Q (exOf e) a' w')->code.wp P Q a w
 |.skip,c,s,k,r,a,w,Q,hc,hr,R,hk=>by
  injection hc with hc;subst hc;exact wp_skip (hk .nrm s a w R hr)
 |.seq x y,c,s,k,r,a,w,Q,hc,hr,R,hk=>by
  unfold comp at hc;split at hc
  ·rename_i cx cy hx hy;injection hc with hc;subst hc;refine wp_seq (XG hm ma gp dg x cx s _ r a w _ hx hr R fun e s' a' w' R' he=>?_);cases e with
   |nrm=>exact XG hm ma gp dg y cy s' k r a' w' Q hy he R' hk
   |exit id=>exact hk _ _ _ _ R' he
   |ret=>exact hk _ _ _ _ R' he
  ·cases hc
 |.region id ops draw,c,s,k,r,a,w,Q,hc,hr,R,hk=>by
  unfold comp at hc;split at hc
  ·rename_i cs uh;split at hc
   ·rename_i la;injection hc with hc;subst hc;simp only[y9,Bool.or_eq_true]at la;simp only[C.run]at hr;exact p6 hm ma dg uh la.1 (fun h=>by rcases la.2 with h'|h';rw[h]at h';cases h';exact h') R hr fun s' a' w' R' jc=>hk .nrm _ _ _ R' jc
   ·cases hc
  ·cases hc
 |.cond x t e,c,s,k,r,a,w,Q,hc,hr,R,hk=>by
  unfold comp at hc;split at hc
  ·rename_i cx ct ce hx ht he;injection hc with hc;subst hc;simp only [C.run] at hr;split at hr
   ·rename_i b hb;have hv:a.eval x=.bool b:=by
     obtain⟨ι,Θ,R⟩:=R;have:=(R.uA hx).1
     rwa [hb,ZD]at this
    cases b with
    |true=>exact wp_cond_true hv (XG hm ma gp dg t ct s k r a w Q ht (by simpa using hr) R hk)
    |false=>exact wp_cond_false hv (XG hm ma gp dg e ce s k r a w Q he (by simpa using hr) R hk)
   ·cases hr
  ·cases hc
 |.block id b,c,s,k,r,a,w,Q,hc,hr,R,hk=>by
  unfold comp at hc;obtain⟨cb,hb,rfl⟩:=ye.1 hc;refine wp_block (XG hm ma gp dg b cb s _ r a w _ hb hr R fun e s' a' w' R' he=>?_);cases e with
  |nrm=>exact hk _ _ _ _ R' he
  |ret=>exact hk _ _ _ _ R' he
  |exit j =>
   simp only at he;show Exit.inBlock id Q (.exit j) a' w';unfold Exit.inBlock;split at he
   ·rename_i e;simp only[e,if_true];exact hk _ _ _ _ R' he
   ·rename_i e;simp only[e,if_false];exact hk _ _ _ _ R' he
 |.loop b,c,s,k,r,a,w,Q,hc,hr,R,hk=>by
  unfold comp at hc;obtain⟨cb,hb,rfl⟩:=ye.1 hc;exact wp_loop_rounds N (gp boxes nt B F0 da w0 b cb s k r a w Q hb hr R hk)
 |.exit id,c,s,k,r,a,w,Q,hc,hr,R,hk=>by
  injection hc with hc;subst hc;exact wp_exit (hk (.exit id) s a w R hr)
 |.ret,c,s,k,r,a,w,Q,hc,hr,R,hk=>by
  injection hc with hc;subst hc;exact wp_ret (hk .ret s a w R hr)
 |.scope b,c,s,k,r,a,w,Q,hc,hr,R,hk=>by
  unfold comp at hc;refine wp_scope_straight (XG hm ma gp dg b c s k r a w _ hc hr R fun e s' a' w' R' he=>?_);have:=hk _ _ _ _ R' he;cases e<;>exact this
 |.rangeFunc ..,_,_,_,_,_,_,_,hc,_,_,_=>by cases hc
 |.label _,_,_,_,_,_,_,_,hc,_,_,_=>by cases hc
 |.goto _,_,_,_,_,_,_,_,hc,_,_,_=>by cases hc
 |.refuse _,_,_,_,_,_,_,_,hc,_,_,_=>by cases hc
theorem Qk {ι:Ix}{av:Av}{x:AV}{v:Value}(h:sD ι av (fun _ _=>False) w x v)(hx:x.free=true):gG av w x v:=by
  cases x<;>first
    |exact h
    |(simp[AV.free,AV.iA]at hx;done)
    | (obtain ⟨us,hv,hc⟩:=h
       exact⟨us,hv,cJ hc fun y hy=>y6.1 hx y hy⟩)
theorem BW {av:Av}:∀{xs:List AV}{us:List Value},WO av w xs us->us.length=xs.length
 | [],_,h=>by simp only[WO]at h;subst h;rfl
 |x::r,_,h=>by
  simp only[WO]at h;obtain⟨u,oa,rfl,_,h⟩:=h;simp[BW h]
theorem XT {p:Nat}{av:Av}:∀{xs:List AV}{us:List Value},LN p av w xs us->us.length=xs.length
 | [],_,h=>by simp only[LN]at h;subst h;rfl
 |x::r,_,h=>by
  simp only[LN]at h;obtain⟨u,oa,rfl,_,h⟩:=h;simp[XT h]
def xP (ι:Ix)(av avb:Av)(w:World):List AV->List Value->Prop
 | [],us=>us=[]
 |x::r,us=>∃u oa,us=u::oa/\sD ι av avb w x u/\xP ι av avb w r oa
theorem sD.toRep {ι:Ix}{av za avb:Av}{x:AV}{v:Value}(h:sD ι av avb w x v)(hx:x.free=true)(gd:∀b o,za b o->av b o):gG za w x v :=
 gG.held (aD.less gd) _ _ (Qk (DY (ι':=ι) h hx) hx)
theorem xP.toT {ι:Ix}{av za avb:Av}(gd:∀b o,za b o->av b o):∀{xs:List AV}{us:List Value},xP ι av avb w xs us->(∀v∈xs,v.free=true)->WO za w xs us
 | [],_,h,_=>h
 |x::r,_,h,hf=>by
  simp only[xP]at h;obtain⟨u,oa,rfl,h0,h⟩:=h;exact⟨u,oa,rfl,h0.toRep (hf x yl) gd,h.toT gd fun v hv=>hf v (ym _ hv)⟩
theorem Uw {t n:Nat}{x:AV}(h:(IL t n x).SA=true):x=.ptr t n 0:=by
 cases x with
 |ptr t' n' o =>
  simp only[IL]at h;split at h
  ·rename_i e;obtain⟨rfl,rfl,rfl⟩:=e;rfl
  ·cases h
 |_=>cases h
theorem g9 {t n:Nat}{x:AV}(h:(IL t n x).free=true):IL t n x=x:=by
 cases x with
 |ptr t' n' o =>
  simp only[IL]at h;split at h<;>cases h
 |_=>rfl
theorem xP.toO {ι:Ix}{av za avb:Av}{t n p:Nat}(hp:ι t n=some p)(gd:∀b o,za b o->av b o):∀{xs:List AV}{us:List Value},xP ι av avb w xs us->(∀v∈xs,((IL t n v).free||(IL t n v).SA)=true)->LN p za w (xs.map (IL t n)) us
 | [],_,h,_=>h
 |x::r,_,h,hf=>by
  simp only[xP]at h;obtain⟨u,oa,rfl,h0,h⟩:=h;refine⟨u,oa,rfl,?_,h.toO hp gd fun v hv=>hf v (ym _ hv)⟩;have h1:=hf x yl;unfold EV;split
  ·rename_i ho;have:=Uw ho;subst this;obtain⟨b,hb,hv⟩:=h0;rw[hp]at hb;injection hb with hb;rw[hv,hb]
  ·rename_i ho;have gq:(IL t n x).free=true:=by
    rcases Bool.or_eq_true_iff.1 h1 with h|h
    ·exact h
    ·exact absurd h ho
   have ff:=g9 gq;rw[ff]at gq ⊢;exact h0.toRep gq gd
theorem xP.uB {D:Nat->Prop}{ι:Ix}{Θ:jM}(R:LD P O nt B F0 da w0 D s a w ι Θ):∀{xs:List AV}{us:List Value},xP ι (uE da ι Θ) (zE ι Θ) w xs us->xP ι (Kw s (uE da ι Θ) ι) (zE ι Θ) w (xs.map (AV.uB s)) us
 | [],_,h=>h
 |x::r,_,h=>by
  simp only[xP]at h;obtain⟨u,oa,rfl,h0,h⟩:=h;exact⟨u,oa,rfl,h0.uB R,h.uB R⟩
def rP (us:List Value):Value:=if h:us.toArray.size=1 then us.toArray[0]else .tuple us.toArray
theorem u0 {av:Av}:∀{xs:List AV}{us:List Value},WO av w xs us->gG av w (T8 xs) (rP us)
 | [],us,h=>by simp only[WO]at h;subst h;exact⟨#[],rfl,rfl⟩
 | [x],us,h=>by
  simp only[WO]at h;obtain⟨u,oa,rfl,h0,rfl⟩:=h;exact h0
 |x::y::r,us,h=>by
  have hl:=BW h;have:¬us.toArray.size=1:=by simp;simp at hl;omega
  unfold rP;rw[dif_neg this];exact⟨_,rfl,h⟩
theorem Ro {p:Nat}{av:Av}:∀{xs:List AV}{us:List Value},LN p av w xs us->(∀v∈xs,(v.free||v.SA)=true)->E9 p av w (T8 xs) (rP us)
 | [],us,h,_=>by simp only[LN]at h;subst h;exact⟨#[],rfl,rfl⟩
 | [x],us,h,hf=>by
  simp only[LN]at h;obtain⟨u,oa,rfl,h0,rfl⟩:=h;have:=hf x yl;cases x with
  |sA vs=>cases this
  |_=>exact h0
 |x::y::r,us,h,_=>by
  have hl:=XT h;have:¬us.toArray.size=1:=by simp;simp at hl;omega
  unfold rP;rw[dif_neg this];exact⟨_,rfl,h⟩
def fP (tmps:Array Value):ResultVar->Sem Value
 |.tmp t=>pure (tmps.getD t undef)
 |.cell b t=>do loadVar t (<- asAddr (tmps.getD b undef))
theorem aY {D:Nat->Prop}{ι:Ix}{Θ:jM}(R:LD P O nt B F0 da w0 D s a w ι Θ):∀{rs:List ResultVar}{cs:List Hy}{vs:List AV},RN P rs=some cs->G2 s cs=some vs →
  ∃us,(rs.mapM (fP a.tmps)).run P w=Result.ok us w/\xP ι (uE da ι Θ) (zE ι Θ) w vs us
 | [],cs,vs,h,hr=>by
  injection h with h;subst h;injection hr with hr;subst hr;exact⟨[],by simp,rfl⟩
 |.tmp t::rs,cs,vs,h,hr=>by
  unfold RN at h;obtain⟨l,hl,rfl⟩:=ye.1 h;simp only[G2]at hr;obtain⟨wt,hv,rfl⟩:=ye.1 hr;obtain⟨us,hu,hT⟩:=aY R hl hv;refine⟨a.tmps.getD t undef::us,by rw[List.mapM_cons];simp only[fP,Sem.run_bind,Sem.run_pure,Result.andThen_ok,hu],_,us,rfl,R.env t,hT⟩
 |.cell b t::rs,cs,vs,h,hr=>by
  unfold RN at h;split at h
  ·rename_i ag z l hA hz hl;injection h with h;subst h;simp only [G2] at hr;split at hr
   ·rename_i t' n off hb;cases hm:s.mem t' n with
    |none=>rw[hm]at hr;cases hr
    |some row =>
     rw[hm,J]at hr;obtain⟨x,hx,hr⟩:=y5.1 hr;obtain⟨wt,hv,rfl⟩:=ye.1 hr;obtain⟨us,hu,hT⟩:=aY R hl hv;have hv:=R.env b;rw[hb,lH]at hv;obtain⟨bb,hbb,hv⟩:=hv;obtain⟨sf,b',cur,ty,na,ia,ka,_⟩:=R.rows t' n row hm;rw[hbb]at na;injection na with na;subst na;have nb:∀(j:Nat)(u:Value),((cur.toList.take row.length).drop off)[j]?=some u->w.cell? ⟨bb,off+j,none⟩=some u:=fun j u hu=>by
      rw[cell_of_row w bb (off+j) cur ty (0,0) ia];rw[yL,yI]at hu;split at hu
      ·simpa using hu
      ·cases hu
     have pb:=xH off ka.rep;have hi:bI ag z ((row.map (·.v)).drop off)=some x.v:=by
      cases ag with
      |true =>
       simp only[kD,if_true]at hx;split at hx
       ·rename_i ib;injection hx with hx;subst hx;simp only[bI,if_true,List.length_drop,yo];rw[if_pos (by omega)];simp[List.map_take,List.map_drop]
       ·cases hx
      |false =>
       simp only[kD,yr,if_false]at hx;simp[bI,yL,hx]
     obtain⟨u,ca,hS,_⟩:=AR (P:=P) (avb:=zE ι Θ) hA hz pb nb hi;refine⟨u::us,by rw[List.mapM_cons];simp only[fP,Sem.run_bind,hv,asAddr,Sem.run_pure,Result.andThen_ok,ca,hu],_,us,rfl,hS,hT⟩
   ·cases hr
  ·cases h
structure SC (P:Program)(f:FuncId)(c:jD):Prop where
 enter:∀xs w,(callFunc f xs).run P w=.ok (.enter f xs) w
 fn:∃fn,P.funcs[f]?=some fn/\wT P c.mu fn=some c
theorem XW {ι:Ix}{av avl:Av}:∀{xs:List AV}{us:List Value},KK ι av avl w xs us->us.length=xs.length
 | [],_,h=>by simp only[KK]at h;subst h;rfl
 |x::r,_,h=>by
  simp only[KK]at h;obtain⟨u,oa,rfl,_,h⟩:=h;simp[XW h]
theorem Z6 {ι:Ix}{av avl:Av}:∀{xs:List AV}{us:List Value}(_:KK ι av avl w xs us)(t:Nat),sD ι av avl w (xs.getD t .undef) (us.getD t undef)
 | [],_,_,_=>by simp[sD]
 |x::r,_,h,t=>by
  simp only[KK]at h;obtain⟨u,oa,rfl,h0,h⟩:=h;cases t with
  |zero=>simpa using h0
  |succ t=>simpa using Z6 h t
section
variable {vs:List Value} {args:List AV}
include vs args
theorem JV {ι:Ix}{av avl:Av}{np:Nat}(h:KK ι av avl w args vs)(hl:args.length=np)(hn:np<=nt):(vs.toArray++Array.replicate (nt-vs.toArray.size) undef).size=nt:=by
 have:=XW h;simp;omega
theorem CY {ι ι':Ix}{av za avb avl:Av}{S0:Option AV}(h:KK ι av avl w args vs)(hι:Ix.Le ι ι')(hA:aD av za w w)(hB:aD avl avb w w)(t:Nat):
  sD ι' za avb w ((OC.init args S0).env t).v ((vs.toArray++Array.replicate (nt-vs.toArray.size) undef).getD t undef):=by
 have h1:=sD.held hι hA hB _ _ (Z6 h t);have h2:(vs.toArray++Array.replicate (nt-vs.toArray.size) undef).getD t undef=vs.getD t undef:=by
  simp only[yP,List.getD_eq_getElem?_getD,Array.getElem?_append,List.size_toArray,List.getElem?_toArray];split
  ·rfl
  ·rename_i fh;rw[yV (by omega)];simp only[Array.getElem?_replicate];split<;>rfl
 rw[h2];exact h1
theorem HV {av:Av}{np:Nat}(h:KK Ix.none av (fun _ _=>False) w args vs)(gd:O.low (fun _=>False) av w)(hl:args.length=np)(hn:np<=nt):
  JF P O nt w.heap.size ⟨fun _=>False,none,fun _=>False,0,fun _=>undef⟩ av w (fun _=>False) (OC.init args none) { tmps:=vs.toArray++Array.replicate (nt-vs.toArray.size) undef,defers:=[] } w:=by
 have ft:∀b o,zE Ix.none (fun _=>none) b o->False:=fun b o h=>by rcases h with(⟨t,n,h⟩|⟨t,n,H,h,_⟩)|⟨k,ow,h,_⟩<;>cases h
 have hA:aD av (uE av Ix.none (fun _=>none)) w w:=aD.less fun b o h=>h.resolve_right (ft b o)
 have hB:aD (fun _ _=>False) (zE Ix.none (fun _=>none)) w w:=aD.less fun b o h=>ft b o h
 exact⟨Ix.none,fun _=>none,rfl,JV h hl hn,fun t=>CY h (Ix.Le.refl _) hA hB t,fun t=>trivial,fun t n r h=>(by cases h),fun t n b h=>(by cases h),fun _ _ _ _ _ h=>(by cases h),fun _ _ h=>(by cases h),fun _ _ _ _ h=>(by cases h),fun _ _ _ _ h=>(by cases h),gd.2,fun _ h=>(by cases h),cE.refl _ _,⟨rfl,gd.1⟩,fun t n S h=>(by simp[OC.init]at h),fun t n H h=>(by cases h),fun _=>trivial,fun _=>trivial⟩
theorem Ri {av:Av}{np p:Nat}{H:Nat->Prop}{S:AV}(h:KK (Ix.one p) av (fun b _=>H b) w args vs)(gd:O.low H av w)(hH:∀b o,H b->av b o)(bc:O.at_ S H p w)(jz:H5 S=true)(hl:args.length=np)(hn:np<=nt):
  JF P O nt w.heap.size ⟨H,some p,fun _=>False,0,fun _=>undef⟩ av w (fun _=>False) (OC.init args (some S)) { tmps:=vs.toArray++Array.replicate (nt-vs.toArray.size) undef,defers:=[] } w:=by
 obtain⟨ι,hι⟩:∃ι:Ix,ι=⟨fun t n=>if t=0/\n=0 then some p else none,fun t n=>if t=0/\n=0 then some H else none,fun _=>0⟩:=⟨_,rfl⟩;have hf:∀t n b,ι t n=some b->t=0/\n=0/\b=p:=fun t n b h=>by
  subst hι;have h':(if t=0/\n=0 then some p else none)=some b:=h;split at h'
  ·rename_i e;injection h' with h';exact⟨e.1,e.2,h'.symm⟩
  ·cases h'
 have ho:∀t n H1,ι.ob t n=some H1->t=0/\n=0/\H1=H:=fun t n b h=>by
  subst hι;simp only at h;split at h
  ·rename_i e;injection h with h';exact⟨e.1,e.2,h'.symm⟩
  ·cases h
 have h0:ι 0 0=some p:=by subst hι;rfl
 have h1:ι.ob 0 0=some H:=by subst hι;rfl
 have nc:∀t n b,Ix.one p t n=some b->ι t n=some b:=fun t n b h=>by subst hι;exact h
 have ib:Ix.Le (Ix.one p) ι:=⟨nc,fun _ _ _ _=>by subst hι;rfl⟩;clear hι;have hpH:=O.main bc;have ft:∀b o,zE ι (fun _=>none) b o->H b:=fun b o h=>by
  rcases h with(⟨t,n,h⟩|⟨t,n,H1,h,hb⟩)|⟨k,ow,h,_⟩
  ·rw[(hf _ _ _ h).2.2];exact hpH
  ·rw[(ho _ _ _ h).2.2]at hb;exact hb
  ·cases h
 have hA:aD av (uE av ι (fun _=>none)) w w:=aD.less fun b o h=>h.elim id fun h=>hH b o (ft b o h)
 refine⟨ι,fun _=>none,rfl,JV h hl hn,fun t=>?_,fun t=>trivial,fun t n r h=>(by cases h),fun t n b h=>?_,fun t n t' n' b h h'=>?_,fun _ _ h=>(by cases h),fun _ _ _ _ h=>(by cases h),fun _ _ _ _ h=>(by cases h),gd.2,fun q h=>?_,cE.refl _ _,⟨rfl,gd.1⟩,fun t n S1 h=>?_,fun t n H1 h=>?_,fun _=>trivial,fun _=>trivial⟩
 ·exact CY h ib hA (aD.less fun b o h=>ft b o h) t
 ·obtain⟨rfl,rfl,rfl⟩:=hf _ _ _ h;exact⟨.inr hpH,O.lt bc hpH,.inl (by simp[OC.init])⟩
 ·obtain⟨rfl,rfl,_⟩:=hf _ _ _ h;obtain⟨rfl,rfl,_⟩:=hf _ _ _ h';exact⟨rfl,rfl⟩
 ·injection h with h;subst h;exact⟨h0,.inr ⟨H,h1⟩⟩
 ·simp only [OC.init] at h;split at h
  ·rename_i e;injection h with h;subst h;exact⟨p,H,by rw[e.1,e.2];exact h0,by rw[e.1,e.2];exact h1,bc,S6.no jz⟩
  ·cases h
 ·obtain ⟨rfl,rfl,rfl⟩:=ho _ _ _ h;refine ⟨fun b hb=>⟨.inr hb,O.lt bc hb,fun t' n' h=>?_,fun _ _ h=>(by cases h),fun t' n' H' h _=>?_⟩,.inl (by simp [OC.init])⟩
  ·obtain⟨rfl,rfl,_⟩:=hf _ _ _ h;exact⟨rfl,rfl⟩
  ·obtain⟨rfl,rfl,_⟩:=ho _ _ _ h;exact⟨rfl,rfl⟩
end
theorem Ng {vs:List Value}{args cs:List AV}{av:Av}{np p:Nat}{cur:Array Value}{ty:TypeId}(h:KK (Ix.row p cur.size) av (fun b _=>b=p) w args vs)(gd:O.low (fun b=>b=p) av w)(we:∀o,av p o)(ia:w.heap[p]?=some (.cells cur ty (0,0)))(uh:cs.length<=cur.size)(pb:JE av w cs (cur.toList.take cs.length))(hl:args.length=np)(hn:np<=nt):
  JF P O nt w.heap.size ⟨fun b=>b=p,some p,fun b=>b=p,cur.size,fun _=>undef⟩ av w (fun _=>False) (OC.TB args cs) { tmps:=vs.toArray++Array.replicate (nt-vs.toArray.size) undef,defers:=[] } w:=by
 have hf:∀t n b,(Ix.row p cur.size) t n=some b->t=0/\n=0/\b=p:=fun t n b h=>by
  have h':(if t=0/\n=0 then some p else none)=some b:=h;split at h'
  ·rename_i e;injection h' with h';exact⟨e.1,e.2,h'.symm⟩
  ·cases h'
 have ft:∀b o,zE (Ix.row p cur.size) (fun _=>none) b o->b=p:=fun b o h=>by
  rcases h with(⟨t,n,h⟩|⟨t,n,H1,h,hb⟩)|⟨k,ow,h,_⟩
  ·exact(hf _ _ _ h).2.2
  ·cases h
  ·cases h
 have hA:aD av (uE av (Ix.row p cur.size) (fun _=>none)) w w:=aD.less fun b o h=>h.elim id fun h=>ft b o h▸we o
 refine⟨Ix.row p cur.size,fun _=>none,rfl,JV h hl hn,fun t=>?_,fun t=>trivial,fun t n r h=>?_,fun t n b h=>?_,fun t n t' n' b h h'=>?_,fun _ _ h=>(by cases h),fun _ _ _ _ h=>(by cases h),fun _ _ _ _ h=>(by cases h),gd.2,fun q h=>?_,cE.refl _ _,⟨rfl,gd.1⟩,fun t n S1 h=>(by cases h),fun t n H1 h=>(by cases h),fun _=>trivial,fun _=>trivial⟩
 ·exact CY (S0:=none) h (Ix.Le.refl _) hA (aD.less fun b o h=>ft b o h) t
 ·simp only [OC.TB] at h;split at h
  ·rename_i e;injection h with h;subst h;refine⟨rfl,p,cur,ty,by rw[e.1,e.2];rfl,ia,Ht (JE.held hA _ _ pb) fun j u hu=>?_,.inr rfl,rfl⟩;have hj:j<cs.length:=by
    have:=(yn.1 hu).1;rw[yM]at this;omega
   rw[List.getElem?_take_of_lt hj]at hu;simpa using hu
  ·cases h
 ·obtain⟨rfl,rfl,rfl⟩:=hf _ _ _ h;exact⟨.inr rfl,DC ia,.inl (by simp[OC.TB])⟩
 ·obtain⟨rfl,rfl,_⟩:=hf _ _ _ h;obtain⟨rfl,rfl,_⟩:=hf _ _ _ h';exact⟨rfl,rfl⟩
 ·injection h with h;subst h;exact⟨rfl,.inl ⟨rfl,rfl⟩⟩
theorem LD.ZA {D:Nat->Prop}{ι:Ix}{Θ:jM}(R:LD P O nt B F0 da w0 D s a w ι Θ):LD P O nt B F0 da w0 D s.ZA a w ι Θ :=
 ⟨R.defers,R.size,R.env,R.ZB,fun t n r h=>by
  simp only[OC.ZA]at h;split at h
  ·cases h
  ·exact R.rows t n r h,R.mine,R.inj,R.tok,R.OA,R.apart,R.out,R.pin,R.kept,R.base,R.WA,R.obs,R.gen,R.CA⟩
theorem dV {D:Nat->Prop}{ι:Ix}{Θ:jM}(R:LD P O nt B F0 da w0 D s a w ι Θ):∀{rs:List ResultVar}{cs:List Hy}{vs:List WC},RN P rs=some cs->lO s cs=some vs →
  ∃us,(rs.mapM (fP a.tmps)).run P w=Result.ok us w/\gI ι Θ (uE da ι Θ) (zE ι Θ) w vs us
 | [],cs,vs,h,hr=>by
  injection h with h;subst h;injection hr with hr;subst hr;exact⟨[],by simp,rfl⟩
 |.tmp t::rs,cs,vs,h,hr=>by
  unfold RN at h;obtain⟨l,hl,rfl⟩:=ye.1 h;simp only[lO]at hr;obtain⟨wt,hv,rfl⟩:=ye.1 hr;obtain⟨us,hu,hT⟩:=dV R hl hv;refine⟨a.tmps.getD t undef::us,by rw[List.mapM_cons];simp only[fP,Sem.run_bind,Sem.run_pure,Result.andThen_ok,hu],_,us,rfl,R.env t,R.ZB t,hT⟩
 |.cell b t::rs,cs,vs,h,hr=>by
  unfold RN at h;split at h
  ·rename_i ag z l hA hz hl;injection h with h;subst h;simp only [lO] at hr;split at hr
   ·rename_i t' n off hb;cases hm:s.mem t' n with
    |none=>rw[hm]at hr;cases hr
    |some row =>
     rw[hm,J]at hr;obtain⟨x,hx,hr⟩:=y5.1 hr;obtain⟨wt,hv,rfl⟩:=ye.1 hr;obtain⟨us,hu,hT⟩:=dV R hl hv;have hv:=R.env b;rw[hb,lH]at hv;obtain⟨bb,hbb,hv⟩:=hv;obtain⟨sf,b',cur,ty,na,ia,ka,_⟩:=R.rows t' n row hm;rw[hbb]at na;injection na with na;subst na;have nb:∀(j:Nat)(u:Value),((cur.toList.take row.length).drop off)[j]?=some u->w.cell? ⟨bb,off+j,none⟩=some u:=fun j u hu=>by
      rw[cell_of_row w bb (off+j) cur ty (0,0) ia];rw[yL,yI]at hu;split at hu
      ·simpa using hu
      ·cases hu
     have pb:=xH off ka.rep;have hi:bI ag z ((row.map (·.v)).drop off)=some x.v:=by
      cases ag with
      |true =>
       simp only[kD,if_true]at hx;split at hx
       ·rename_i ib;injection hx with hx;subst hx;simp only[bI,if_true,List.length_drop,yo];rw[if_pos (by omega)];simp[List.map_take,List.map_drop]
       ·cases hx
      |false =>
       simp only[kD,yr,if_false]at hx;simp[bI,yL,hx]
     obtain⟨u,ca,hS,_⟩:=AR (P:=P) (avb:=zE ι Θ) hA hz pb nb hi;refine⟨u::us,by rw[List.mapM_cons];simp only[fP,Sem.run_bind,hv,asAddr,Sem.run_pure,Result.andThen_ok,ca,hu],u,us,rfl,hS,trivial,hT⟩
   ·cases hr
  ·cases h
theorem Wo (hm:P.follows .mixedOrders=true){call:DD}{lp:LH}{N:Nat}(ma:∀f args S r,call f args S=some r->gE P O f args S r)(gp:Pa P O N lp.l)(dg:T1 P O lp.h){f:FuncId}{fn:Func}{c:jD}(fc:∀xs w,(callFunc f xs).run P w=.ok (.enter f xs) w)(rl:P.funcs[f]?=some fn)(wc:wT P c.mu fn=some c){args:List AV}{r:RV}(ja:args.length=c.np)
  (h:c.code.run call lp (OC.init args none) (W5 c)=some r):UO P O f args none r:=by
 unfold wT at wc;split at wc
 ·cases wc
 ·rename_i code kh;split at wc
  ·rename_i cc rr jf wy;split at wc
   ·rename_i aa;injection wc with wc;obtain⟨mu,rj⟩:∃mu,mu=c.mu:=⟨_,rfl⟩;rw[<- rj]at wc jf;clear rj;subst wc;have bv:fn.params.size+fn.nfree<=fn.ntmps:=aa;have key:∀(av:Av)(w:World)(vs:List Value),O.low (fun _=>False) av w->KK Ix.none av (fun _ _=>False) w args vs->∀E:Ending->World->Prop,
      (∀s' a' w' ι Θ us xs,LD P O fn.ntmps w.heap.size ⟨fun _=>False,none,fun _=>False,0,fun _=>undef⟩ av w (fun _=>False) s' a' w' ι Θ->gI ι Θ (uE av ι Θ) (zE ι Θ) w' xs us->lO s' rr=some xs->W5 ⟨cc,rr,fn.params.size+fn.nfree,mu⟩ .ret s'=some r->E (.returned (rP us)) w')->Calls P f vs.toArray w E:=fun av w vs gd gb E hE=>by
     refine calls_of_wp rl kh ?_;refine XG hm ma gp dg code cc _ _ _ _ w _ jf h (HV gb gd ja bv) fun e s' a' w' R' he=>?_
     have ud:e=.nrm\/e=.ret:=by
      cases e with
      |nrm=>exact .inl rfl
      |ret=>exact .inr rfl
      |exit id=>cases he
     have fg:W5 ⟨cc,rr,fn.params.size+fn.nfree,mu⟩ .ret s'=some r:=by rcases ud with rfl|rfl<;>exact he
     obtain⟨xs,kc⟩:∃xs,lO s' rr=some xs:=by
      cases hx:lO s' rr with
      |none=>simp only[W5,hx]at fg;cases fg
      |some xs=>exact⟨xs,rfl⟩
     obtain⟨ι,Θ,R'⟩:=R';obtain⟨us,tc,du⟩:=dV R' wy kc;have pe:(results fn a'.tmps).run P w'=.ok (rP us) w':=by
      have he:results fn a'.tmps=(do let vs <- fn.results.mapM (fP a'.tmps);pure (if h:vs.size=1 then vs[0]else .tuple vs)):=rfl;rw[he,Array.mapM_eq_mapM_toList];simp only[Sem.run_bind,Sem.run_map,tc,Result.andThen_ok,Sem.run_pure];rfl
     have post:a'.defers=[]/\∃v,(results fn a'.tmps).run P w'=.ok v w'/\E (.returned v) w':=⟨R'.defers,_,pe,hE s' a' w' ι Θ us xs R' du kc fg⟩;rcases ud with rfl|rfl<;>exact post
    have one:∀{x:WC}{us:List Value}{ι:Ix}{Θ:jM}{av avb:Av}{w:World},gI ι Θ av avb w [x] us->∃u,rP us=u/\sD ι av avb w x.v u/\TM Θ x.a u:=fun{x us ι Θ av avb w} h=>by
     simp only[gI]at h;obtain⟨u,oa,rfl,h0,h1,rfl⟩:=h;exact⟨u,rfl,h0,h1⟩
    refine⟨fc,?_⟩;obtain⟨r1,r2⟩:=r;have main:∀(nl:Bool)(l:List (List AV)),(r1,r2)=(.sl nl l,none)->∀(av:Av)(w:World)(vs:List Value),O.low (fun _=>False) av w->KK Ix.none av (fun _ _=>False) w args vs →
      Calls P f vs.toArray w fun e w'=>∃v,e=.returned v/\(if l=[]then gG av w' (.sl nl []) v/\∃A,v=.slice A 0 0 else ∀z,PD z l=true->OwnL w (fun _=>False) z av w' l v)/\Below w.heap.size w w':=fun nl l hr av w vs gd gb=>by
     refine key av w vs gd gb _ fun s' a' w' ι Θ us xs R' hT kc hf=>?_
     rw[hr]at hf;simp only[W5,kc]at hf;split at hf
     ·rename_i b a0 he;injection he with he;split at hf
      case isFalse=>cases hf
      rename_i nh;injection hf with hf;injection hf with hf _;injection hf with h1 h2;subst h1;subst h2;subst he;obtain⟨u,hu,h0,h9⟩:=one hT;refine⟨_,rfl,?_,R'.kept.below⟩;rw[if_pos rfl,hu];refine⟨gG.held (aD.less fun b o h=>.inl h) _ _ h0,?_⟩;obtain⟨A,c,rfl,_,_,h3,_⟩:=h0;cases b with
      |true =>
       obtain⟨rfl,_,rfl⟩:=h3 rfl;exact⟨_,rfl⟩
      |false =>
       unfold exB OE at nh;cases a0 with
       |ex =>
        obtain⟨A',n',h⟩:=h9;injection h with h1 h2 h3;exact⟨A,by rw[h3,<- h2];rfl⟩
       |no=>cases nh
       |own k e=>cases nh
     ·rename_i t n sz len cap a0 he;injection he with he;subst he;obtain ⟨l1,zm,hf⟩:=ye.1 hf;injection hf with hf _;injection hf with h1 h2;subst h1; subst h2;obtain ⟨row,gc,sb⟩:=y5.1 zm;obtain ⟨u,hu,h0,_⟩:=one hT;obtain ⟨b,hb,ib,cc2,hcc2,jj,hv⟩:=h0;obtain ⟨zc,b',cur,ty,na,ia,ka,bh,mh⟩:=R'.rows t n row gc;rw [hb] at na;injection na with na;subst na;obtain ⟨q1,q2,us2,q3,q4⟩:=kJ ka ia sb;have ua:l1≠[]:=fun e=>by rw [e] at q1; simp at q1
      have tc:us2=cur.toList.take l1.flatten.length:=Nt q3 fun j u hj=>by
       have:=q4 j u hj;simpa [World.cell?,ia]using this
      rw[tc]at q3;refine⟨_,rfl,?_,R'.kept.below⟩;rw[if_neg ua,hu];intro z hz;have ra:z=sz:=by
       cases l1 with
       |nil=>exact absurd rfl ua
       |cons c r =>
        rw[pQ]at hz;simp only[y9,decide_eq_true_eq]at hz;rw[<- hz.1,q2 c yl]
      subst ra;refine⟨b,cc2,cur,ty,by rw[q1];exact hv,.inl (bh.elim id False.elim),ia,by rw[q1];exact yt ib hcc2,by rw[mh];simpa using jj,JE.held (aD.less fun b' o h=>?_) _ _ q3⟩;rcases h with h|rfl
      ·exact .inl h
      ·exact .inr (.inl (.inl ⟨t,n,hb⟩))
     ·cases hf
    split
    all_goals first
     |exact True.intro
     |exact main _ _ (by assumption)
     |(rename_i e;cases e;done)
     |(rename_i e _;cases e;done)
   ·cases wc
  ·cases wc
theorem Ho (hm:P.follows .mixedOrders=true){call:DD}{lp:LH}{N:Nat}(ma:∀f args S r,call f args S=some r->gE P O f args S r)(gp:Pa P O N lp.l)(dg:T1 P O lp.h){f:FuncId}{fn:Func}{c:jD}(fc:∀xs w,(callFunc f xs).run P w=.ok (.enter f xs) w)(rl:P.funcs[f]?=some fn)(wc:wT P c.mu fn=some c){rest cs:List AV}{r:RV}(ja:rest.length=c.np)
  (h:c.code.run call lp (OC.TB rest cs) (tM c cs.length)=some r):Z4 P O f rest (some (.agg cs)) r:=by
 unfold wT at wc;split at wc
 ·cases wc
 ·rename_i code kh;split at wc
  ·rename_i cc rr jf wy;split at wc
   ·rename_i aa;injection wc with wc;obtain ⟨mu,rj⟩:∃ mu,mu=c.mu:=⟨_,rfl⟩;rw [<- rj] at wc jf;clear rj;subst wc;have bv:fn.params.size + fn.nfree<=fn.ntmps:=aa;refine ⟨fc,?_⟩;obtain ⟨r1,r2⟩:=r
    match r2,h with
    |some (.agg xt),h =>
     intro av w vs p cur ty gd we ia ib pb gb;refine calls_of_wp rl kh ?_;refine XG hm ma gp dg code cc _ _ _ _ w _ jf h (Ng gb gd we ia ib pb ja bv) fun e s' a' w' R' he=>?_
     have ud:e=.nrm\/e=.ret:=by
      cases e with
      |nrm=>exact .inl rfl
      |ret=>exact .inr rfl
      |exit id=>cases he
     have fg:∃xs,G2 s' rr=some xs/\pJ cs.length s' (xs.map (AV.uB s'.ZA))=some (r1,some (.agg xt)):=by
      rcases ud with rfl|rfl<;>exact y5.1 he
     obtain⟨xs,kc,dd⟩:=fg;obtain⟨ι,Θ,R'⟩:=R';obtain⟨us,tc,du⟩:=aY R' wy kc;have pe:(results fn a'.tmps).run P w'=.ok (rP us) w':=by
      have he:results fn a'.tmps=(do let vs <- fn.results.mapM (fP a'.tmps);pure (if h:vs.size=1 then vs[0]else .tuple vs)):=rfl;rw[he,Array.mapM_eq_mapM_toList];simp only[Sem.run_bind,Sem.run_map,tc,Result.andThen_ok,Sem.run_pure];rfl
     have hs:=du.uB R'.ZA;unfold pJ at dd;split at dd
     ·rename_i mb;obtain ⟨row,pk,dd⟩:=y5.1 dd;split at dd
      ·rename_i aa;injection dd with dd;injection dd with hfv1 hfv2;injection hfv2 with hfv2;injection hfv2 with hfv2;subst hfv1;subst hfv2;obtain⟨zc,b,db,gl,hb,tl,ka,_,hz⟩:=R'.rows 0 0 row pk;obtain⟨hpp,hpz⟩:=R'.pin p rfl;rw[hpp]at hb;injection hb with hb;subst hb;have hz':ι.z p=cur.size:=by
        rcases hpz with⟨_,h⟩|⟨H,h⟩
        ·exact h
        ·rw[h]at zc;cases zc
       have nc:∀b o,av b o->Kw s'.ZA (uE av ι Θ) ι b o:=fun b o h=>⟨.inl h,fun⟨t,n,r,hm,hb⟩=>by
        simp only[OC.ZA]at hm;split at hm
        ·cases hm
        ·rename_i hn;obtain ⟨_,b',_,_,na,_,_,bh,_⟩:=R'.rows t n r hm;rw [hb] at na;injection na with na;subst na;rcases bh with bh | bh
         ·have:=gd.2 _ _ h;omega
         ·have:b=p:=bh;subst this;exact hn (R'.inj _ _ _ _ _ hb hpp)⟩
       have post:a'.defers=[]/\∃v,(results fn a'.tmps).run P w'=.ok v w'/\∃v' cur'' ty'',Ending.returned v=.returned v'/\gG av w' (T8 (xs.map (AV.uB s'.ZA))) v'/\w'.heap[p]?=some (.cells cur'' ty'' (0,0))/\cur''.size=cur.size/\JE av w' (row.map fun x=>AV.DA s'.ZA x.v) (cur''.toList.take (row.map fun x=>AV.DA s'.ZA x.v).length)/\cE (fun b=>b=p) w w':=by
        refine⟨R'.defers,_,pe,_,db,gl,rfl,u0 (hs.toT nc fun v hv=>y6.1 mb v hv),tl,hz.trans hz',?_,R'.kept⟩;have h1:=ka.rep.uB R'.ZA;rw[y3]at h1;have h2:=cJ h1 fun x hx=>y6.1 aa.1 x hx
        rw[yo];exact JE.held (aD.less nc) _ _ h2
       rcases ud with rfl|rfl<;>exact post
      ·cases dd
     ·cases dd
    |none,h=>trivial
    |some (.int ..),h=>trivial
    |some (.bool _),h=>trivial
    |some (.str _),h=>trivial
    |some .QA,h=>trivial
    |some (.ptr ..),h=>trivial
    |some (.ip _),h=>trivial
    |some (.bp _),h=>trivial
    |some (.sl ..),h=>trivial
    |some (.bl _),h=>trivial
    |some (.ref ..),h=>trivial
    |some (.mp ..),h=>trivial
    |some (.fn ..),h=>trivial
    |some (.sA _),h=>trivial
    |some .undef,h=>trivial
   ·cases wc
  ·cases wc
theorem MP {ι:Ix}{Θ:jM}{av avb:Av}:∀{xs:List WC}{us:List Value},gI ι Θ av avb w xs us->us.length=xs.length
 | [],_,h=>by simp only[gI]at h;subst h;rfl
 |x::r,_,h=>by
  simp only[gI]at h;obtain⟨u,oa,rfl,_,_,h⟩:=h;simp[MP h]
theorem TV {ι:Ix}{Θ:jM}{av avb:Av}:∀{xs:List WC}{us:List Value}(_:gI ι Θ av avb w xs us)(t:Nat),sD ι av avb w (xs.getD t ⟨.undef,.no⟩).v (us.getD t undef)/\TM Θ (xs.getD t ⟨.undef,.no⟩).a (us.getD t undef)
 | [],_,_,_=>by simp[sD,TM]
 |x::r,_,h,t=>by
  simp only[gI]at h;obtain⟨u,oa,rfl,h0,h1,h⟩:=h;cases t with
  |zero=>simpa using⟨h0,h1⟩
  |succ t=>simpa using TV h t
theorem Fa {ι:Ix}{av avb:Av}{x:AV}{v:Value}(h:sD ι av avb w x v)(hx:x.lC=true):jR ι av w x v:=by
 cases x<;>first
  |exact h
  |(cases hx;done)
theorem lY {ι:Ix}{Θ:jM}{av avb:Av}:∀{xs:List WC}{us:List Value},gI ι Θ av avb w xs us->xs.all (fun x=>x.v.lC)=true->DI ι av w (xs.map (·.v)) us
 | [],_,h,_=>h
 |x::r,_,h,hf=>by
  simp only[gI]at h;obtain⟨u,oa,rfl,h0,_,h⟩:=h;simp only[List.all_cons,y9]at hf;exact⟨u,oa,rfl,Fa h0 hf.1,lY h hf.2⟩
theorem Eo {ι:Ix}{Θ:jM}{av avb:Av}:∀{xs:List WC}{us:List Value}{y:WC},gI ι Θ av avb w xs us->jN xs=some y->sD ι av avb w y.v (rP us)/\TM Θ y.a (rP us)
 | [],us,y,h,hp=>by
  simp only[gI]at h;subst h;injection hp with hp;subst hp;exact⟨⟨#[],rfl,rfl⟩,trivial⟩
 | [x],us,y,h,hp=>by
  simp only[gI]at h;obtain⟨u,oa,rfl,h0,h1,rfl⟩:=h;injection hp with hp;subst hp;exact⟨h0,h1⟩
 |x::z::r,us,y,h,hp=>by
  have hl:=MP h;have:¬us.toArray.size=1:=by simp;simp at hl;omega
  unfold rP;rw[dif_neg this];unfold jN at hp;split at hp
  ·rename_i e;cases e
  ·split at hp
   ·rename_i mb;injection hp with hp;subst hp;exact⟨⟨_,rfl,lY h mb⟩,trivial⟩
   ·cases hp
theorem Ei {B:Nat}{F0:FQ}{da:Av}{w0 w:World}{ι:Ix}{Θ:jM}{xs:List WC}{us:List Value}(R:L6 P O B F0 da w0 s w ι Θ)(h:gI ι Θ (uE da ι Θ) (zE ι Θ) w xs us){np:Nat}(hl:xs.length=np)(hn:np<=nt):
  LD P O nt B F0 da w0 (fun _=>False) (s.UB xs) { tmps:=us.toArray++Array.replicate (nt-us.toArray.size) undef,defers:=[] } w ι Θ:=by
 have hg:∀t,(us.toArray++Array.replicate (nt-us.toArray.size) undef).getD t undef=us.getD t undef:=fun t=>by
  simp only[yP,List.getD_eq_getElem?_getD,Array.getElem?_append,List.size_toArray,List.getElem?_toArray];split
  ·rfl
  ·rename_i fh;rw[yV (by omega)];simp only[Array.getElem?_replicate];split<;>rfl
 have ra:(us.toArray++Array.replicate (nt-us.toArray.size) undef).size=nt:=by
  have:=MP h;simp;omega
 exact⟨rfl,ra,fun t=>by simp only[OC.UB];rw[hg];exact(TV h t).1,fun t=>by simp only[OC.UB];rw[hg];exact(TV h t).2,R.rows,R.mine,R.inj,R.tok,R.OA,R.apart,R.out,R.pin,R.kept,R.base,R.WA,R.obs,R.gen,R.CA⟩
theorem LD.bare {D:Nat->Prop}{ι:Ix}{Θ:jM}(R:LD P O nt B F0 da w0 (fun _=>False) s a w ι Θ):L6 P O B F0 da w0 s w ι Θ :=
 ⟨rfl,rfl,fun _=>trivial,fun _=>trivial,R.rows,R.mine,R.inj,R.tok,R.OA,R.apart,R.out,R.pin,R.kept,R.base,R.WA,R.obs,R.gen,R.CA⟩
theorem C9 (hm:P.follows .mixedOrders=true){call:DD}{lp:LH}{N:Nat}(ma:∀f args S r,call f args S=some r->gE P O f args S r)(gp:Pa P O N lp.l)(dg:T1 P O lp.h){f:FuncId}{fn:Func}{c:jD}(fc:∀xs w,(callFunc f xs).run P w=.ok (.enter f xs) w)(rl:P.funcs[f]?=some fn)(wc:wT P c.mu fn=some c){xs:List WC}{k:WC->OC->Option RV}{r:RV}(ja:xs.length=c.np)
  (h:c.code.run call lp (s.UB xs) (pO c k)=some r):(∀vs w,(callFunc f vs).run P w=.ok (.enter f vs) w) ∧
 ∀(B:Nat)(F0:FQ)(da:Av)(w0 w:World)(ι:Ix)(Θ:jM)(us:List Value)(E:Ending->World->Prop),L6 P O B F0 da w0 s w ι Θ->gI ι Θ (uE da ι Θ) (zE ι Θ) w xs us →
  (∀y s' w' ι' Θ' v,L6 P O B F0 da w0 s' w' ι' Θ'->sD ι' (uE da ι' Θ') (zE ι' Θ') w' y.v v->TM Θ' y.a v->k y s'=some r->E (.returned v) w')->Calls P f us.toArray w E:=by
 unfold wT at wc;split at wc
 ·cases wc
 ·rename_i code kh;split at wc
  ·rename_i cc rr jf wy;split at wc
   ·rename_i aa;injection wc with wc;obtain ⟨mu,rj⟩:∃ mu,mu=c.mu:=⟨_,rfl⟩;rw [<- rj] at wc jf;clear rj;subst wc;have bv:fn.params.size + fn.nfree<=fn.ntmps:=aa;refine ⟨fc,fun B F0 da w0 w ι Θ us E R kc hE=>?_⟩;refine calls_of_wp rl kh ?_;refine XG hm ma gp dg code cc _ _ _ _ w _ jf h ⟨ι,Θ,Ei R kc ja bv⟩ fun e s' a' w' R' he=>?_
    have ud:e=.nrm\/e=.ret:=by
     cases e with
     |nrm=>exact .inl rfl
     |ret=>exact .inr rfl
     |exit id=>cases he
    have fg:∃y,(lO s' rr).bind jN=some y/\k y s'=some r:=by
     rcases ud with rfl|rfl<;>exact y5.1 he
    obtain⟨y,hy,hk⟩:=fg;obtain⟨l,hl,hp⟩:=y5.1 hy;obtain⟨ι',Θ',R'⟩:=R';obtain⟨vs,hvs,du⟩:=dV R' wy hl;have pe:(results fn a'.tmps).run P w'=.ok (rP vs) w':=by
     have he:results fn a'.tmps=(do let vs <- fn.results.mapM (fP a'.tmps);pure (if h:vs.size=1 then vs[0]else .tuple vs)):=rfl;rw[he,Array.mapM_eq_mapM_toList];simp only[Sem.run_bind,Sem.run_map,hvs,Result.andThen_ok,Sem.run_pure];rfl
    obtain⟨sh,mi⟩:=Eo du hp;have post:a'.defers=[]/\∃v,(results fn a'.tmps).run P w'=.ok v w'/\E (.returned v) w':=⟨R'.defers,_,pe,hE y s' w' ι' Θ' _ (LD.bare (D:=fun _=>False) R') sh mi hk⟩;rcases ud with rfl|rfl<;>exact post
   ·cases wc
  ·cases wc
theorem Oq {args rest:List AV}(h:oT args=some rest):args=.undef :: .undef::rest:=by
 unfold oT at h;split at h
 ·injection h with h;subst h;rfl
 ·cases h
theorem QY (hm:P.follows .mixedOrders=true){T:Nat->Option jD}{ext:DD}(hT:∀f c,T f=some c->SC P f c)(oq:∀f args S r,ext f args S=some r->gE P O f args S r):
  ∀N,(∀f args S r,RG T ext N f args S=some r->gE P O f args S r)/\Pa P O N (QO T ext N)/\T1 P O (lP T ext N)
 |0=>by
  refine⟨fun f args S r h=>?_,fun _ _ _ _ _ _ _ _ _ _ _ _ _ _ _ h _ _=>(by cases h),fun _ _ _ _ _ h=>(by cases h)⟩;unfold RG at h;split at h
  ·exact oq f args S r h
  ·cases h
 |N+1=>by
  obtain⟨uk,wi,wk⟩:=QY hm hT oq N;refine⟨fun f args S0 r h=>?_,fun boxes nt B F0 da w0 code b s k r a w Q hc h R hk=>?_,fun f xs s k r h=>?_⟩
  ·unfold RG at h;split at h
   ·exact oq f args S0 r h
   ·rename_i c hTc;obtain ⟨fc,fn,rl,wc⟩:=hT f c hTc;cases hmk:oT args with
    |some rest =>
     rw[hmk]at h
     match S0,h with
     |some (.agg cs),h =>
      simp only at h;split at h
      ·rename_i hl;rw[Oq hmk];exact Ho (lp:=⟨QO T ext N,lP T ext N⟩) hm uk wi wk fc rl wc hl.1 h
      ·cases h
     |none,h=>cases h
     |some (.int ..),h=>cases h
     |some (.bool _),h=>cases h
     |some (.str _),h=>cases h
     |some .QA,h=>cases h
     |some (.ptr ..),h=>cases h
     |some (.ip _),h=>cases h
     |some (.bp _),h=>cases h
     |some (.sl ..),h=>cases h
     |some (.bl _),h=>cases h
     |some (.ref ..),h=>cases h
     |some (.mp ..),h=>cases h
     |some (.fn ..),h=>cases h
     |some (.sA _),h=>cases h
     |some .undef,h=>cases h
    |none =>
    rw[hmk]at h;simp only at h;split at h
    case isFalse =>
     split at h
     ·rename_i hlm;obtain ⟨ja,gn,dn,hS⟩:=hlm;cases args with
      |nil=>cases gn
      |cons x rest =>
       cases x with
       |undef =>
        simp only[List.tail_cons]at dn h;cases S0 with
        |some S=>cases hS
        |none =>
         have h2:=Wo (O:=O) (lp:=⟨QO T ext N,lP T ext N⟩) hm uk wi wk fc rl wc (by simpa using ja) h;cases rest with
         |nil=>exact h2
         |cons y r=>cases y<;>first|exact h2|(simp[PI]at dn;done)
       |_=>cases gn
     ·cases h
    ·rename_i hlm;obtain ⟨ja,gn,hnoit⟩:=hlm;unfold wT at wc;split at wc
     ·cases wc
     ·rename_i code kh;split at wc
      ·rename_i cc rr jf wy;split at wc
       ·rename_i aa;injection wc with wc;obtain⟨mu,rj⟩:∃mu,mu=c.mu:=⟨_,rfl⟩;rw[<- rj]at wc jf;clear rj;subst wc;have bv:fn.params.size+fn.nfree<=fn.ntmps:=aa;have ending:∀{F0:FQ}{av:Av}{w:World}{vs:List Value}{E:Ending->World->Prop},
          JF P O fn.ntmps w.heap.size F0 av w (fun _=>False) (OC.init args S0) { tmps:=vs.toArray++Array.replicate (fn.ntmps-vs.toArray.size) undef,defers:=[] } w →
          (∀(s':OC)(a':Act)(w':World)(ι:Ix)(Θ:jM)(us:List Value)(xs:List AV),LD P O fn.ntmps w.heap.size F0 av w (fun _=>False) s' a' w' ι Θ->xP ι (Kw s' (uE av ι Θ) ι) (zE ι Θ) w' xs us->J9 S0 s' xs=some r->E (.returned (rP us)) w')->Calls P f vs.toArray w E:=fun{F0 av w vs E} R hE=>by
         refine calls_of_wp rl kh ?_;refine XG (lp:=⟨QO T ext N,lP T ext N⟩) hm uk wi wk code cc _ _ r _ w _ jf h R fun e s' a' w' R' he=>?_
         have ud:e=.nrm\/e=.ret:=by
          cases e with
          |nrm=>exact .inl rfl
          |ret=>exact .inr rfl
          |exit id=>cases he
         have fg:∃xs,G2 s' rr=some xs/\J9 S0 s' (xs.map (AV.uB s'))=some r:=by
          rcases ud with rfl|rfl<;>exact y5.1 he
         obtain⟨xs,kc,dd⟩:=fg;obtain⟨ι,Θ,R'⟩:=R';obtain⟨us,tc,du⟩:=aY R' wy kc;have pe:(results fn a'.tmps).run P w'=.ok (rP us) w':=by
          have he:results fn a'.tmps=(do let vs <- fn.results.mapM (fP a'.tmps);pure (if h:vs.size=1 then vs[0]else .tuple vs)):=rfl;rw[he,Array.mapM_eq_mapM_toList];simp only[Sem.run_bind,Sem.run_map,tc,Result.andThen_ok,Sem.run_pure];rfl
         have post:a'.defers=[]/\∃v,(results fn a'.tmps).run P w'=.ok v w'/\E (.returned v) w':=⟨R'.defers,_,pe,hE s' a' w' ι Θ us _ R' (du.uB R') dd⟩;rcases ud with rfl|rfl<;>exact post
        refine(gE.of gn).2 ⟨fc,?_⟩;obtain⟨r1,r2⟩:=r;cases S0 with
        |none =>
         cases r2 with
         |none =>
          intro av w vs gd gb;refine ending (HV gb gd ja bv) fun s' a' w' ι Θ us xs R' hs dd=>?_
          refine⟨_,rfl,?_,R'.kept.below⟩;simp only[J9]at dd;split at dd
          ·rename_i mb;injection dd with dd;injection dd with dd;subst dd;exact u0 (hs.toT (fun b o h=>⟨.inl h,fun⟨t,n,r,hm,hb⟩=>by
            obtain⟨_,b',cur,ty,na,_,_,bh,_⟩:=R'.rows t n r hm;rw[hb]at na;injection na with na;subst na;have:=gd.2 _ _ h;have:=bh.elim id False.elim;omega⟩) fun v hv=>y6.1 mb v hv)
          ·split at dd
           ·split at dd
            ·split at dd<;>cases dd
            ·cases dd
           ·cases dd
         |some S' =>
          intro av w vs gd gb;refine ending (HV gb gd ja bv) fun s' a' w' ι Θ us xs R' hs dd=>?_
          simp only[J9]at dd;split at dd
          ·cases dd
          ·split at dd
           ·rename_i t n _;split at dd
            ·rename_i S hS;split at dd
             ·rename_i mb;injection dd with dd;injection dd with hfv1 hfv2;injection hfv2 with hfv2;subst hfv1;subst hfv2;obtain ⟨p,H,hp,eb,bc,_⟩:=R'.WA t n S hS;refine ⟨_,p,H,rfl,?_,bc,fun b hb=>(((R'.obs t n H eb).1 b hb).1).elim id False.elim,R'.kept.below⟩;have zb:∀ v∈xs,((IL t n v).free||(IL t n v).SA)=true:=fun v hv=>y6.1 mb _ (List.mem_map_of_mem hv)
              refine Ro (hs.toO hp (fun b o h=>?_) zb) fun v hv=>y6.1 mb v hv
              refine⟨?_,fun⟨t',n',r,hm,hb⟩=>?_⟩
              ·rcases h with h | h
               ·exact .inl h
               ·exact .inr (.inl (.inr ⟨t,n,H,eb,h⟩))
              ·obtain ⟨zc,b',cur,ty,na,_,_,bh,_⟩:=R'.rows t' n' r hm;rw [hb] at na;injection na with na;subst na;rcases h with h | h
               ·have:=gd.2 _ _ h;have:=bh.elim id False.elim;omega
               ·have e:=((R'.obs t n H eb).1 b h).2.2.1 t' n' hb;rw[e.1,e.2,eb]at zc;cases zc
             ·cases dd
            ·cases dd
           ·cases dd
        |some S =>
         cases r2 with
         |none =>
          trivial
         |some S' =>
          intro av w vs p H gd hH bc gb;have jz:H5 S=true:=hnoit;refine ending (Ri gb gd hH bc jz ja bv) fun s' a' w' ι Θ us xs R' hs dd=>?_
          simp only[J9]at dd;split at dd
          ·rename_i mb;obtain ⟨S1,hS1,dd⟩:=ye.1 dd;injection dd with hfv1 hfv2;injection hfv2 with hfv2;subst hfv1;subst hfv2;obtain ⟨p',H',hp,eb,ai,_⟩:=R'.WA 0 0 S1 hS1;have hpp:=(R'.pin p rfl).1;rw [hpp] at hp;injection hp with hp;subst hp;refine ⟨_,H',rfl,u0 (hs.toT (fun b o h=>?_) fun v hv=>y6.1 mb v hv),ai,fun b hb=>(((R'.obs 0 0 H' eb).1 b hb).1).symm,R'.kept⟩;refine ⟨?_,fun ⟨t',n',r,hm,hb⟩=>?_⟩
           ·rcases h with h | h
            ·exact .inl h
            ·exact .inr (.inl (.inr ⟨0,0,H',eb,h⟩))
           ·obtain ⟨zc,b',cur,ty,na,_,_,bh,_⟩:=R'.rows t' n' r hm;rw [hb] at na;injection na with na;subst na;rcases h with h | h
            ·have:=gd.2 _ _ h;have:=bh.elim id False.elim;omega
            ·have e:=((R'.obs 0 0 H' eb).1 b h).2.2.1 t' n' hb;rw[e.1,e.2,eb]at zc;cases zc
          ·cases dd
       ·cases wc
      ·cases wc
  ·unfold QO at h;rw [rounds_succ];refine XG (lp:=⟨QO T ext N,lP T ext N⟩) hm uk wi wk code b s _ r a w _ hc h R fun e s' a' w' R' he=>?_
   cases e with
   |nrm=>exact wi boxes nt B F0 da w0 code b s' k r a' w' Q hc he R' hk
   |exit id=>exact hk _ _ _ _ R' he
   |ret=>exact hk _ _ _ _ R' he
  ·unfold lP at h;split at h
   ·cases h
   ·rename_i c hTc;obtain ⟨fc,fn,rl,wc⟩:=hT f c hTc;split at h
    ·rename_i ja;exact C9 (lp:=⟨QO T ext N,lP T ext N⟩) hm uk wi wk fc rl wc ja h
    ·cases h
end
end
section
section
variable {α:Type}
def BD (p:Nat->Prop):Prop:=∃n,∀m,n<=m->p m
theorem BD.and {p q:Nat->Prop}(h:BD p)(h':BD q):BD fun m=>p m/\q m:=by
 obtain⟨n,h⟩:=h;obtain⟨n',h'⟩:=h';exact⟨max n n',fun m hm=>⟨h m (by omega),h' m (by omega)⟩⟩
theorem BD.imp {p q:Nat->Prop}(h:BD p)(hi:∀m,p m->q m):BD q:=by
 obtain⟨n,h⟩:=h;exact⟨n,fun m hm=>hi m (h m hm)⟩
theorem BD.now {p:Prop}(h:p):BD fun _=>p:=⟨0,fun _ _=>h⟩
theorem BD.succ {p:Nat->Prop}(h:BD p):BD fun m=>p (m+1):=by
 obtain⟨n,h⟩:=h;exact⟨n,fun m hm=>h (m+1) (by omega)⟩
theorem BD.pred {p:Nat->Prop}(h:BD fun m=>p (m+1)):BD p:=by
 obtain⟨n,h⟩:=h;exact⟨n+1,fun m hm=>by have:=h (m-1) (by omega);simp only at this;rwa [show m-1+1=m from by omega]at this⟩
theorem BD.some {p:Nat->Prop}(h:BD p):∃m,p m:=by
 obtain⟨n,h⟩:=h;exact⟨n,h n (yg _)⟩
theorem C8 {s:OC}{callA:DD}{callB:Nat->DD}(hc:∀f args S r,callA f args S=some r->BD fun m=>callB m f args S=some r)(k:K){xe:WC×rF}(h:k.run callA s=some xe):BD fun m=>k.run (callB m) s=some xe:=by
 cases k with
 |call cl f xs =>
  simp only[K.run]at h ⊢;cases hl:pG s cl xs with
  |none=>rw[hl]at h;cases h
  |some vs =>
   rw[hl]at h;simp only[J]at h ⊢;split at h
   ·obtain⟨r,hr,h⟩:=y5.1 h;exact(hc f vs _ r hr).imp fun m hm=>by rw[hm];exact h
   ·obtain⟨r,hr,h⟩:=y5.1 h;exact(hc f vs _ r hr).imp fun m hm=>by rw[hm];exact h
   ·cases h
 |LA cl f z xs =>
  simp only[K.run]at h ⊢;cases hl:pG s cl xs with
  |none=>rw[hl]at h;cases h
  |some vs =>
   rw[hl]at h;simp only[J]at h ⊢;split at h
   ·obtain⟨r,hr,h⟩:=y5.1 h;exact(hc f (.undef::vs) _ r hr).imp fun m hm=>by rw[hm];exact h
   ·cases h
 |iB cl f z xs =>
  simp only[K.run]at h ⊢;split at h
  ·rename_i vs hl ho
   try simp only[hl,ho]
   obtain⟨r,hr,h⟩:=y5.1 h;exact(hc f (.undef::vs) _ r hr).imp fun m hm=>by rw[hm];exact h
  ·cases h
 |PA cl f z L x xs =>
  simp only[K.run]at h ⊢;split at h
  ·rename_i vs hl ho
   try simp only[hl,ho]
   split at h
   ·rename_i hf
    try simp only[hf,if_true]
    split at h
    ·rename_i t n z' off ln cap hx;split at h
     ·rename_i l he
      try simp only[he]
      split at h
      ·rename_i lu
       try simp only[lu,and_self,if_true]
       obtain⟨r,hr,h⟩:=y5.1 h;exact(hc f (.undef :: .sl false l::vs) _ r hr).imp fun m hm=>by simp_all
      ·cases h
     ·cases h
    ·rename_i b hx
     try simp only[hx]
     split at h
     ·rename_i nh
      try simp only[nh,if_true]
      obtain⟨r,hr,h⟩:=y5.1 h;exact(hc f (.undef :: .sl b []::vs) _ r hr).imp fun m hm=>by simp_all
     ·cases h
    ·cases h
   ·cases h
  ·cases h
 |jB cl f xs =>
  simp only[K.run]at h ⊢;split at h
  ·rename_i lu;obtain⟨r,hr,h⟩:=y5.1 h;exact(hc f _ _ r hr).imp fun m hm=>by rw[if_pos lu,hm];exact h
  ·cases h
 |RA cl x xs =>
  simp only[K.run]at h ⊢;split at h
  ·rename_i f cs hx
   try simp only[hx]
   split at h
   ·rename_i vs ws hl hw ho
    try simp only[hl,hw,ho]
    obtain⟨r,hr,h⟩:=y5.1 h;exact(hc f (vs++ws) _ r hr).imp fun m hm=>by rw[hm];exact h
   ·cases h
  ·cases h
 |dA cl f xs =>
  simp only[K.run]at h ⊢;split at h
  ·rename_i t n hp
   try simp only[hp]
   split at h
   ·rename_i la;simp only [if_pos la];split at h
    ·rename_i r vs hr hv
     try simp only[hr,hv]
     split at h
     ·rename_i mb;simp only[if_pos mb];obtain⟨q,hq,h⟩:=y5.1 h;exact(hc f _ _ q hq).imp fun m hm=>by rw[hm];exact h
     ·cases h
    ·cases h
   ·cases h
  ·cases h
 |_=>exact BD.now h
theorem Gp {s s1:OC}{callA:DD}{callB:Nat->DD}(hc:∀f args S r,callA f args S=some r->BD fun m=>callB m f args S=some r)(o:JC)(h1:o.step callA s=some s1):BD fun m=>o.step (callB m) s=some s1:=by
 unfold JC.step at h1 ⊢;cases hg:o.guard with
 |none =>
  rw[hg]at h1;simp only at h1 ⊢;obtain⟨xe,hx,he⟩:=y5.1 h1;exact(C8 hc o.op hx).imp fun m hm=>by rw[hm];exact he
 |some p =>
  obtain⟨t,want⟩:=p;rw[hg]at h1;simp only at h1 ⊢;cases hv:(s.env t).v with
  |bool b =>
   rw[hv]at h1;simp only at h1 ⊢;by_cases hb:b=want
   ·rw[if_pos hb]at h1;simp only[if_pos hb];obtain⟨xe,hx,he⟩:=y5.1 h1;exact(C8 hc o.op hx).imp fun m hm=>by rw[hm];exact he
   ·rw[if_neg hb]at h1;simp only[if_neg hb];exact BD.now h1
  |sA l=>rw[hv]at h1;cases l with
   |nil=>exact BD.now h1
   |cons=>cases h1
  |_=>rw[hv]at h1;cases h1
def LW (hA:HpT)(hB:Nat->HpT):Prop:=∀f xs s k r (km:Nat->WC->OC->Option RV),(∀y s' r',k y s'=some r'->BD fun m=>km m y s'=some r')->hA f xs s k=some r->BD fun m=>hB m f xs s (km m)=some r
theorem XY {s:OC}{lhA:LH}{lhB:Nat->LH}(hh:LW lhA.h fun m=>(lhB m).h)(d:Option Nat)(nt:Nat)(x:KD)(xs:List KD){k:OC->Option RV}{r:RV}{km:Nat->OC->Option RV}(hk:∀s' r',k s'=some r'->BD fun m=>km m s'=some r')(h:rT lhA d nt x xs s k=some r):BD fun m=>rT (lhB m) d nt x xs s (km m)=some r:=by
 unfold rT at h ⊢;split at h
 ·rename_i f cs hx
  try simp only[hx]
  exact hh _ _ _ _ _ (fun m y s'=>km m ((s'.leave nt).put d y)) (fun y s' r' h'=>hk _ _ h') h
 ·cases h
theorem BD.all {l:List Nat}{Q:Nat->Nat->Prop}(h:∀i∈l,BD fun m=>Q i m):BD fun m=>∀i∈l,Q i m:=by
 induction l with
 |nil=>exact⟨0,fun m _ i hi=>by cases hi⟩
 |cons a r ih =>
  refine((h a yl).and (ih fun i hi=>h i (ym _ hi))).imp fun m hm i hi=>?_
  rcases yh.1 hi with rfl|hi
  ·exact hm.1
  ·exact hm.2 i hi
theorem bZ {s:OC}(d:Option Nat)(x:KD){k:OC->Option RV}{r:RV}{km:Nat->OC->Option RV}(hk:∀s' r',k s'=some r'->BD fun m=>km m s'=some r')(h:cZ d x s k=some r):BD fun m=>cZ d x s (km m)=some r:=by
 unfold cZ at h ⊢;split at h
 ·rename_i t n hx
  try simp only[hx]
  split at h
  ·rename_i tm nm N seen hi
   try simp only[hi]
   split at h
   ·rename_i L hL
    try simp only[hL]
    split at h
    ·rename_i hN
     try simp only[hN,if_true]
     obtain⟨h1,h2⟩:=iV _ h;have di:=BD.all (Q:=fun i m=>(match L[i]? with|some [y,v]=>if y.flat&&v.flat then km m ((s.setObj t n (U5 tm nm N (seen++[i]))).put d ⟨.sA [.bool true,y,v],.no⟩)else none|_=>none)=some r) fun i sc=>by
      have:=h2 i sc;split at this
      ·rename_i y v hy;split at this
       ·rename_i hf;simp only[hy,hf,if_true];exact hk _ _ this
       ·cases this
      ·cases this
     by_cases he:(List.range N).filter (fun i=>!seen.contains i)=[]
     ·refine (hk _ _ (h1 he)).imp fun m hm=>Q0 _ (fun _=>hm) fun i sc=>?_
      rw[he]at sc;cases sc
     ·exact di.imp fun m hm=>Q0 _ (fun e=>absurd e he) hm
    ·cases h
   ·cases h
  ·cases h
 ·cases h
theorem Ew {s:OC}{callA:DD}{callB:Nat->DD}{lhA:LH}{lhB:Nat->LH}(hc:∀f args S r,callA f args S=some r->BD fun m=>callB m f args S=some r)(hh:LW lhA.h fun m=>(lhB m).h)(o:JC){k:OC->Option RV}{r:RV}{km:Nat->OC->Option RV}(hk:∀s' r',k s'=some r'->BD fun m=>km m s'=some r')(h:o.rA callA lhA s k=some r):BD fun m=>o.rA (callB m) (lhB m) s (km m)=some r:=by
 obtain⟨d,op,g⟩:=o;by_cases fb:Ti op=true
 ·cases op with
  |lA nt x xs =>
   simp only[JC.rA,sO]at h ⊢;cases g with
   |none=>exact XY hh d nt x xs hk h
   |some p =>
    obtain⟨t,want⟩:=p;simp only at h ⊢;cases hv:(s.env t).v with
    |bool b =>
     rw[hv]at h;simp only at h ⊢;by_cases hb:b=want
     ·rw[if_pos hb]at h;simp only[if_pos hb];exact XY hh d nt x xs hk h
     ·rw[if_neg hb]at h;simp only[if_neg hb];exact hk _ _ h
    |sA l=>rw[hv]at h;cases l with
     |nil=>exact hk _ _ h
     |cons=>cases h
    |_=>rw[hv]at h;cases h
  |dB x =>
   simp only[JC.rA,sO]at h ⊢;cases g with
   |none=>exact bZ d x hk h
   |some p =>
    obtain⟨t,want⟩:=p;simp only at h ⊢;cases hv:(s.env t).v with
    |bool b =>
     rw[hv]at h;simp only at h ⊢;by_cases hb:b=want
     ·rw[if_pos hb]at h;simp only[if_pos hb];exact bZ d x hk h
     ·rw[if_neg hb]at h;simp only[if_neg hb];exact hk _ _ h
    |sA l=>rw[hv]at h;cases l with
     |nil=>exact hk _ _ h
     |cons=>cases h
    |_=>rw[hv]at h;cases h
  |_=>cases fb
 ·have fb:Ti op=false:=by simpa using fb
  rw[GK fb]at h;obtain⟨s1,h1,h2⟩:=y5.1 h;exact((Gp hc ⟨d,op,g⟩ h1).and (hk _ _ h2)).imp fun m hm=>by rw[GK fb,hm.1];exact hm.2
theorem E8 {callA:DD}{callB:Nat->DD}{lhA:LH}{lhB:Nat->LH}(hc:∀f args S r,callA f args S=some r->BD fun m=>callB m f args S=some r)(hh:LW lhA.h fun m=>(lhB m).h):∀(ops:List JC){s:OC}{k:OC->Option RV}{r:RV}{km:Nat->OC->Option RV},(∀s' r',k s'=some r'->BD fun m=>km m s'=some r')->lJ callA lhA ops s k=some r->BD fun m=>lJ (callB m) (lhB m) ops s (km m)=some r
 | [],s,k,r,km,hk,h=>hk _ _ h
 |o::l,s,k,r,km,hk,h=>Ew hc hh o (km:=fun m s=>lJ (callB m) (lhB m) l s (km m)) (fun s' r' h'=>E8 hc hh l hk h') h
theorem FF {callA:DD}{lpA:LH}{callB:Nat->DD}{lpB:Nat->LH}(hc:∀f args S r,callA f args S=some r->BD fun m=>callB m f args S=some r)(hh:LW lpA.h fun m=>(lpB m).h)
  (hl:∀b s k r (km:Nat->Ex->OC->Option RV),(∀e s' r',k e s'=some r'->BD fun m=>km m e s'=some r')->lpA b s k=some r->BD fun m=>lpB m b s (km m)=some r) :
  ∀(c:C)(s:OC)(k:Ex->OC->Option RV)(r:RV)(km:Nat->Ex->OC->Option RV),(∀e s' r',k e s'=some r'->BD fun m=>km m e s'=some r')->c.run callA lpA s k=some r->BD fun m=>c.run (callB m) (lpB m) s (km m)=some r
 |.skip,s,k,r,km,hk,h=>hk _ _ _ h
 |.exit id,s,k,r,km,hk,h=>hk _ _ _ h
 |.ret,s,k,r,km,hk,h=>hk _ _ _ h
 |.seq a b,s,k,r,km,hk,h=>by
  refine FF hc hh hl a s _ r (fun m e s'=>match e with|.nrm=>b.run (callB m) (lpB m) s' (km m)|e=>km m e s') (fun e s' r' h'=>?_) h;cases e with
  |nrm=>exact FF hc hh hl b s' k r' km hk h'
  |exit id=>exact hk _ _ _ h'
  |ret=>exact hk _ _ _ h'
 |.reg ops,s,k,r,km,hk,h=>by
  simp only[C.run]at h ⊢;exact E8 hc hh ops (km:=fun m s=>km m .nrm { s with next:=s.next+1 }) (fun s' r' h'=>hk _ _ _ h') h
 |.cond x t e,s,k,r,km,hk,h=>by
  simp only[C.run]at h ⊢;cases hv:x.get s with
  |bool b =>
   rw[hv]at h;cases b with
   |true=>exact FF hc hh hl t s k r km hk (by simpa using h)
   |false=>exact FF hc hh hl e s k r km hk (by simpa using h)
  |_=>rw[hv]at h;cases h
 |.block id b,s,k,r,km,hk,h=>by
  refine FF hc hh hl b s _ r (fun m e s'=>match e with|.exit j=>if j=id then km m .nrm s' else km m (.exit j) s'|e=>km m e s') (fun e s' r' h'=>?_) h;cases e with
  |nrm=>exact hk _ _ _ h'
  |ret=>exact hk _ _ _ h'
  |exit j =>
   simp only at h' ⊢;by_cases e:j=id
   ·rw[if_pos e]at h';simp only[if_pos e];exact hk _ _ _ h'
   ·rw[if_neg e]at h';simp only[if_neg e];exact hk _ _ _ h'
 |.loop b,s,k,r,km,hk,h=>hl b s k r km hk h
variable {T:Nat->Option jD} {ext:DD}
theorem Sa {ext':DD}(hx:∀f args S r,ext f args S=some r->ext' f args S=some r):∀N,(∀f args S r,RG T ext N f args S=some r->BD fun m=>RG T ext' m f args S=some r) ∧
  (∀b s k r (km:Nat->Ex->OC->Option RV),(∀e s' r',k e s'=some r'->BD fun m=>km m e s'=some r')->QO T ext N b s k=some r->BD fun m=>QO T ext' m b s (km m)=some r) ∧
  LW (lP T ext N) (lP T ext')
 |0=>by
  refine⟨fun f args S r h=>⟨0,fun m _=>?_⟩,fun b s k r km _ h=>(by cases h),fun f xs s k r km _ h=>(by cases h)⟩;unfold RG at h;cases hT:T f with
  |none=>rw[hT]at h;cases m<;>(unfold RG;rw[hT];exact hx _ _ _ _ h)
  |some c=>rw[hT]at h;cases h
 |N+1=>by
  obtain⟨uk,wi,wk⟩:=Sa hx N;refine⟨?_,?_,?_⟩
  ·intro f args S0 r h;unfold RG at h;cases hT:T f with
   |none=>rw[hT]at h;exact⟨0,fun m _=>by cases m<;>(unfold RG;rw[hT];exact hx _ _ _ _ h)⟩
   |some c =>
    rw[hT]at h;cases hm:oT args with
    |some rest =>
     cases S0 with
     |none=>rw[hm]at h;cases h
     |some S =>
      cases S with
      |agg cs =>
       rw[hm]at h;simp only at h;split at h
       ·rename_i hl;refine BD.pred ((FF (lpA:=⟨QO T ext N,lP T ext N⟩) (lpB:=fun m=>⟨QO T ext' m,lP T ext' m⟩) uk wk wi c.code _ _ r (fun _=>tM c cs.length) (fun e s' r' h'=>BD.now h') h).imp fun m jb=>?_);unfold RG;rw[hT];simp only[hm];rw[if_pos hl];exact jb
       ·cases h
      |_=>rw[hm]at h;cases h
    |none =>
     rw[hm]at h;simp only at h;split at h
     ·rename_i hl;refine BD.pred ((FF (lpA:=⟨QO T ext N,lP T ext N⟩) (lpB:=fun m=>⟨QO T ext' m,lP T ext' m⟩) uk wk wi c.code _ _ r (fun _=>fin c S0) (fun e s' r' h'=>BD.now h') h).imp fun m jb=>?_);unfold RG;rw[hT];simp only[hm];rw[if_pos hl];exact jb
     ·rename_i hl;split at h
      ·rename_i oj;refine BD.pred ((FF (lpA:=⟨QO T ext N,lP T ext N⟩) (lpB:=fun m=>⟨QO T ext' m,lP T ext' m⟩) uk wk wi c.code _ _ r (fun _=>W5 c) (fun e s' r' h'=>BD.now h') h).imp fun m jb=>?_);unfold RG;rw[hT];simp only[hm];rw[if_neg hl,if_pos oj];exact jb
      ·cases h
  ·intro b s k r km hk h;unfold QO at h;refine BD.pred ((FF (lpA:=⟨QO T ext N,lP T ext N⟩) (lpB:=fun m=>⟨QO T ext' m,lP T ext' m⟩) uk wk wi b s _ r (fun m=>XN (QO T ext' m) b (km (m + 1))) (fun e s' r' h'=>?_) h).imp fun m hm=>?_)
   ·cases e with
    |nrm=>exact wi b s' k r' (fun m=>km (m+1)) (fun e s'' r'' h''=>(hk e s'' r'' h'').succ) h'
    |exit id=>exact(hk _ _ _ h').succ
    |ret=>exact(hk _ _ _ h').succ
   ·unfold QO;exact hm
  ·intro f xs s k r km hk h;unfold lP at h;cases hT:T f with
   |none=>rw[hT]at h;cases h
   |some c =>
    rw[hT]at h;simp only at h;split at h
    ·rename_i hl;refine BD.pred ((FF (lpA:=⟨QO T ext N,lP T ext N⟩) (lpB:=fun m=>⟨QO T ext' m,lP T ext' m⟩) uk wk wi c.code _ _ r (fun m=>pO c (km (m + 1))) (fun e s' r' h'=>?_) h).imp fun m hm=>?_)
     ·cases e with
      |exit id=>cases h'
      |nrm =>
       simp only[pO]at h' ⊢;obtain⟨y,hy,h'⟩:=y5.1 h';simp only[hy,J];exact(hk _ _ _ h').succ
      |ret =>
       simp only[pO]at h' ⊢;obtain⟨y,hy,h'⟩:=y5.1 h';simp only[hy,J];exact(hk _ _ _ h').succ
     ·unfold lP;rw[hT];simp only;rw[if_pos hl];exact hm
    ·cases h
theorem BP:∀N,(∀f args S r,RG T ext N f args S=some r->BD fun m=>RG T ext m f args S=some r) ∧
  (∀b s k r (km:Nat->Ex->OC->Option RV),(∀e s' r',k e s'=some r'->BD fun m=>km m e s'=some r')->QO T ext N b s k=some r->BD fun m=>QO T ext m b s (km m)=some r)/\LW (lP T ext N) (lP T ext):=Sa fun _ _ _ _ h=>h
open Classical in
noncomputable def jU (T:Nat->Option jD)(ext:DD)(f:Nat)(args:List AV)(S0:Option AV):Option RV:=if h:∃r n,RG T ext n f args S0=some r then some h.choose else none
open Classical in
noncomputable def OL (T:Nat->Option jD)(ext:DD):Oz:=fun b s k=>if h:∃r n,QO T ext n b s k=some r then some h.choose else none
open Classical in
noncomputable def Gu (T:Nat->Option jD)(ext:DD):HpT:=fun f xs s k=>if h:∃r n,lP T ext n f xs s k=some r then some h.choose else none
noncomputable def Hu (T:Nat->Option jD)(ext:DD):LH:=⟨OL T ext,Gu T ext⟩
theorem RP {f:Nat}{args:List AV}{S0:Option AV}{r:RV}:jU T ext f args S0=some r ↔ ∃n,RG T ext n f args S0=some r:=by
 unfold jU;constructor
 ·intro h;split at h
  ·rename_i hh;injection h with h;exact h▸hh.choose_spec
  ·cases h
 ·rintro⟨n,hn⟩;have hh:∃r n,RG T ext n f args S0=some r:=⟨r,n,hn⟩;rw[dif_pos hh];obtain⟨n',wg⟩:=hh.choose_spec;obtain⟨m,h1,h2⟩:=(((BP n).1 f args S0 r hn).and ((BP n').1 f args S0 _ wg)).some;rw[h1]at h2;exact h2.symm
theorem W7 {b:C}{s:OC}{k:Ex->OC->Option RV}{r:RV}:OL T ext b s k=some r ↔ ∃n,QO T ext n b s k=some r:=by
 unfold OL;constructor
 ·intro h;split at h
  ·rename_i hh;injection h with h;exact h▸hh.choose_spec
  ·cases h
 ·rintro⟨n,hn⟩;have hh:∃r n,QO T ext n b s k=some r:=⟨r,n,hn⟩;rw[dif_pos hh];obtain⟨n',wg⟩:=hh.choose_spec;obtain⟨m,h1,h2⟩:=(((BP n).2.1 b s k r (fun _=>k) (fun e s' r' h=>BD.now h) hn).and ((BP n').2.1 b s k _ (fun _=>k) (fun e s' r' h=>BD.now h) wg)).some;rw[h1]at h2;exact h2.symm
theorem Q7 {f:Nat}{xs:List WC}{s:OC}{k:WC->OC->Option RV}{r:RV}:Gu T ext f xs s k=some r ↔ ∃n,lP T ext n f xs s k=some r:=by
 unfold Gu;constructor
 ·intro h;split at h
  ·rename_i hh;injection h with h;exact h▸hh.choose_spec
  ·cases h
 ·rintro⟨n,hn⟩;have hh:∃r n,lP T ext n f xs s k=some r:=⟨r,n,hn⟩;rw[dif_pos hh];obtain⟨n',wg⟩:=hh.choose_spec;obtain⟨m,h1,h2⟩:=(((BP n).2.2 f xs s k r (fun _=>k) (fun e s' r' h=>BD.now h) hn).and ((BP n').2.2 f xs s k _ (fun _=>k) (fun e s' r' h=>BD.now h) wg)).some;rw[h1]at h2;exact h2.symm
theorem E7 (f:Nat)(args:List AV)(S0:Option AV)(r:RV)(h:jU T ext f args S0=some r):BD fun m=>RG T ext m f args S0=some r:=by
 obtain⟨n,hn⟩:=RP.1 h;exact(BP n).1 f args S0 r hn
theorem R7 (b:C)(s:OC)(k:Ex->OC->Option RV)(r:RV)(km:Nat->Ex->OC->Option RV)(hk:∀e s' r',k e s'=some r'->BD fun m=>km m e s'=some r')(h:OL T ext b s k=some r):BD fun m=>QO T ext m b s (km m)=some r:=by
 obtain⟨n,hn⟩:=W7.1 h;exact(BP n).2.1 b s k r km hk hn
theorem Df:LW (Gu T ext) (lP T ext):=fun f xs s k r km hk h=>by
 obtain⟨n,hn⟩:=Q7.1 h;exact(BP n).2.2 f xs s k r km hk hn
theorem uY (c:C)(s:OC)(k:Ex->OC->Option RV)(r:RV)(km:Nat->Ex->OC->Option RV)(hk:∀e s' r',k e s'=some r'->BD fun m=>km m e s'=some r')(h:c.run (jU T ext) (Hu T ext) s k=some r):BD fun m=>c.run (RG T ext m) ⟨QO T ext m,lP T ext m⟩ s (km m)=some r :=
 FF (lpA:=Hu T ext) (lpB:=fun m=>⟨QO T ext m,lP T ext m⟩) E7 Df R7 c s k r km hk h
theorem Fu {f:Nat}{args:List AV}{S0:Option AV}{r:RV}(c:jD)(hT:T f=some c)(hl:args.length=c.np)(h:c.code.run (jU T ext) (Hu T ext) (OC.init args S0) (fin c S0)=some r)(hm:PI args=false:=by rfl)(hS:Qj S0=true:=by rfl):jU T ext f args S0=some r:=by
 obtain⟨m,jb⟩:=(uY c.code _ _ r (fun _=>fin c S0) (fun e s' r' h'=>BD.now h') h).some;refine RP.2 ⟨m+1,?_⟩;have hR:oT args=none:=by
  unfold oT;split
  ·cases hm
  ·rfl
 unfold RG;rw[hT];simp only[hR];rw[if_pos ⟨hl,hm,hS⟩];exact jb
theorem cG {f:Nat}{args cs:List AV}{r:RV}(c:jD)(hT:T f=some c)(hl:args.length=c.np)(h:c.code.run (jU T ext) (Hu T ext) (OC.TB args cs) (tM c cs.length)=some r)(hm:PI args=false:=by rfl):jU T ext f (.undef :: .undef::args) (some (.agg cs))=some r:=by
 obtain⟨m,jb⟩:=(uY c.code _ _ r (fun _=>tM c cs.length) (fun e s' r' h'=>BD.now h') h).some;refine RP.2 ⟨m+1,?_⟩;unfold RG;rw[hT];simp only[oT];rw[if_pos ⟨hl,hm⟩];exact jb
theorem rM {f:Nat}{xs:List WC}{s:OC}{k:WC->OC->Option RV}{r:RV}(c:jD)(hT:T f=some c)(hl:xs.length=c.np)(h:c.code.run (jU T ext) (Hu T ext) (s.UB xs) (pO c k)=some r):Gu T ext f xs s k=some r:=by
 obtain⟨m,jb⟩:=(uY c.code _ _ r (fun _=>pO c k) (fun e s' r' h'=>BD.now h') h).some;refine Q7.2 ⟨m+1,?_⟩;unfold lP;rw[hT];simp only;rw[if_pos hl];exact jb
theorem Rr {f:Nat}{args:List AV}{S0:Option AV}{r:RV}(hT:T f=none)(h:ext f args S0=some r):jU T ext f args S0=some r:=by
 refine RP.2 ⟨0,?_⟩;unfold RG;rw[hT];exact h
theorem EC {b:C}{s:OC}{k:Ex->OC->Option RV}{r:RV}(h:b.run (jU T ext) (Hu T ext) s (XN (OL T ext) b k)=some r):OL T ext b s k=some r:=by
 have:=uY b s _ r (fun m=>XN (QO T ext m) b k) (fun e s' r' h'=>by
  cases e with
  |nrm=>exact R7 b s' k r' (fun _=>k) (fun e s'' r'' h''=>BD.now h'') h'
  |exit id=>exact BD.now h'
  |ret=>exact BD.now h') h
 obtain⟨m,hm⟩:=this.some;refine W7.2 ⟨m+1,?_⟩;unfold QO;exact hm
theorem Ff {P:Program}{O:XI}(hm:P.follows .mixedOrders=true)(hT:∀f c,T f=some c->SC P f c)(oq:∀f args S r,ext f args S=some r->gE P O f args S r){f:Nat}{args:List AV}{S0:Option AV}{r:RV}(h:jU T ext f args S0=some r):gE P O f args S0 r:=by
 obtain⟨n,hn⟩:=RP.1 h;exact(QY hm hT oq n).1 f args S0 r hn
end
end
section
open Go Go.RowKit Go.ChangeShapes Go.WideShapes Go.Deep
section
variable {H:Type} {enc:TypeId × Value->H} {P:Program} {w:World} {base:Nat} {spare:Nat->Bool} {held:Bool}
theorem Sw {av:Av}{b sz:Nat}:∀{els:List (List AV)}{off:Nat},(∀ac∈els,ac.length=sz)->(∀(i:Nat)(ac:List AV),els[i]?=some ac->IG av w ac b (off+i*sz))->Rows av w els b off
 | [],_,_,_=>by simp[Rows]
 |ac::r,off,hl,h=>by
  simp only[Rows];have h0:=h 0 ac rfl;rw[Nat.zero_mul,Nat.add_zero]at h0;refine⟨h0,Sw (fun x hx=>hl x (ym _ hx)) fun i x hx=>?_⟩;have:=h (i+1) x (by simpa using hx);rw[hl ac yl,show off+sz+i*sz=off+(i+1)*sz from by rw[yu];omega];exact this
abbrev Dy:Av:=fun _ _=>False
end
end
section
open Go Go.RowKit Go.ChangeShapes Go.WideShapes Go.Deep
def mO (P:Program)(t:TypeId):Bool:=match P.underlying t with
 |some (.struct _)|some (.array ..)=>true
 |_=>false
section
variable {H:Type} {enc:TypeId × Value->H} {P:Program} {w:World} {base:Nat} {spare:Nat->Bool} {held:Bool}
theorem d3 (hl:laidOutB P=true){W W':World}(hb:Below W.heap.size W W'):∀{ts:List TypeId}{vs:List Value}{ds:List (DataW H)}{p:List MemPlace},DataW.TrodAll enc P W 0 (fun _=>true) true ts vs ds p->ts.all (fun t=>P.readableRec t&&decide (t<P.types.size))=true →
  DataW.TrodAll enc P W' 0 (fun b=>decide (b<W.heap.size)) true ts vs ds p
 | [],vs,ds,p,h,_=>by
  cases vs with
  |nil=>cases ds with
   |nil=>exact h
   |cons=>exact h.elim
  |cons=>cases ds<;>exact h.elim
 |t::ts,vs,ds,p,h,hs=>by
  have fa:=DataW.TrodAll.lt h;obtain⟨v,wt,d,ds',p',q',rfl,rfl,rfl,h0,h⟩:=trodAll_cons h;simp only[List.all_cons,y9,decide_eq_true_eq]at hs;exact trodAll_cons_mk (Below.trod hl hs.1.1 hs.1.2 h0 hb fun x hx=>fa x (List.mem_append_left _ hx)) (d3 hl hb h hs.2)
end
end
section
open Go Go.RowKit
theorem uBp:Tryz.prog.underlying 166=some (.pointer 168):=by kernel_rfl
theorem uBs:Tryz.prog.underlying 50=some (.slice 5):=by kernel_rfl
theorem uBu:Tryz.prog.underlying 231=some (.pointer 5):=by kernel_rfl
theorem d9:Tryz.prog.underlying 9=some .string:=by kernel_rfl
theorem Qy:Tryz.prog.underlying 3=some (.int .i64):=by kernel_rfl
theorem XP:Tryz.prog.underlying 256=some .unsafePointer:=by kernel_rfl
theorem iB8:(Tryz.prog.info? 5).map (fun i=>(i.zero,i.size,i.bytes))=some (some (.int .u8 0),1,1):=by kernel_rfl
theorem iBb:(Tryz.prog.info? 168).map (fun i=>i.size)=some 2:=by kernel_rfl
theorem liesB:liesAt Tryz.prog Tryz.prog.depth 168 (2 / Tryz.prog.cellsOf 168) 0 168 1=true:=by kernel_rfl
theorem cB8:Tryz.prog.cellsOf 5=1:=by kernel_rfl
section
variable {P:Program}
theorem I1 (w:World)(t u ty e:TypeId)(i:TypeInfo)(ht:P.underlying t=some (.slice e))(hu:P.underlying u=some .string)(hi:P.info? e=some i)(hz:i.zero=some (.int .u8 0))(pg:i.size=1)(oo:i.bytes=1)
  (v:Value) (n:Nat) (xs:List Value) (jk:w.ownsRowF 0 e 1 v n xs) (s:ByteArray) (zz:n+s.size<=maxLen) (md:n+s.size<=140737488355328) :
  ∃v' w',(Builtin.append_ #[t,u] ty #[v,.string s]).run P w=.ok v' w'/\w'.ownsRowF 0 e 1 v' (n+s.size) (xs++Go.Lib.strCells s)/\w.grownBy w' v.ownBlock/\∀k,v'.ownBlock=some k->v.ownBlock=some k\/w.heap.size<=k:=by
 rcases jk.2 with⟨rfl,hn⟩|⟨g,cap,cur,fz,rfl,ax,hg,hfz,hnc,zp,uh,lw⟩
 ·obtain ⟨v',w',h1,h2,h3,_⟩:=Go.Lib.run_append_own_stringF (P:=P) w w.heap.size t u ty e i ht hu hi hz pg oo _ n xs ⟨jk.1,.inl ⟨rfl,hn⟩⟩ s zz md (yg _);refine ⟨v',w',h1,⟨h2.1,?_⟩,h3,fun k hk=>.inr ?_⟩
  ·rcases h2.2 with hn | ⟨g,cap,cur,fz,hv,hb,rest⟩
   ·exact .inl hn
   ·exact .inr ⟨g,cap,cur,fz,hv,Nat.zero_le _,rest⟩
  ·rcases h2.2 with ⟨hv,_⟩ | ⟨g,cap,cur,fz,hv,hb,rest⟩
   ·rw[hv]at hk;cases hk
   ·rw[hv]at hk;injection hk with hk;have hk:g=k:=hk;omega
 ·obtain ⟨v',w',h1,h2,h3,_⟩:=Go.Lib.run_append_own_stringF (P:=P) w 0 t u ty e i ht hu hi hz pg oo _ n xs jk s zz md (Nat.zero_le _);refine ⟨v',w',h1,h2,h3,fun k hk=>?_⟩;have hxl:xs.length=n:=by simpa using jk.1
  by_cases ta:n+s.size<=cap
  ·have hcs':cur.size=cap:=by simpa using uh
   have hr:=Go.Lib.run_append_room_stringF (P:=P) w t u ty e i ht hu hi pg g n cap cur fz hg (by simpa using hfz) s ta (by omega);rw[h1]at hr;injection hr with hv _;rw[hv]at hk;exact .inl hk
  ·have sr:∀j u,xs[j]?=some u->w.cell? ((⟨g,0,none⟩:Addr).add j)=some u:=jk.cells (g:=g) rfl;have hr:=Go.Lib.run_append_grow_string (P:=P) w t u ty e i (.int .u8 0) ht hu hi hz ⟨g,0,none⟩ n cap xs (by rw[pg];simpa using hxl) sr s (by unfold maxLen at zz;omega) (by unfold maxLen at zz;omega) (by rw[oo];exact growslice_fits (by omega) (by omega));rw[h1]at hr;injection hr with hv _;rw[hv]at hk;injection hk with hk;have hk:w.heap.size=k:=hk;exact .inr (by omega)
end
theorem C2 {P:Program}(w:World){ops:Array Oper}{rest:List Oper}{o:Oper}{a:Act}{Q:Exit->Act->World->Prop}(hgd:o.guard=none)(s x:Operand)(t t':TypeId)
  (ho:o.op=.call { callee:=.builtin .append,args:=#[s,x],argTypes:=#[t,t'] }) (v u:Value) (hs:a.eval s=v) (hx:a.eval x=u) {v':Value} {w':World}
  (hr:(Builtin.append_ #[t,t'] o.type #[v,u]).run P w=.ok v' w') (h:wpList P ops Q rest (a.put o.dst v') w'):wpList P ops Q (o::rest) a w:=by
 refine wpList_plain hgd fun K hK=>?_
 unfold Oper.wp execOp;simp only[ho,resolve,invoke,builtin,Sem.run_bind,Sem.run_pure,Result.andThen_ok,List.map_toArray,yk,yq,hs,hx,hr];exact hK _ _ h
set_option maxHeartbeats 1000000
theorem M6 (b:Nat)(w:World)(h0:w.cell? ⟨b,0,none⟩=some (.pointer (some ⟨b,0,none⟩))):
  Calls Tryz.prog 193 #[.pointer (some ⟨b,0,none⟩)] w fun e w'=>e=.returned (.tuple #[])/\w'=w:=by
 obtain⟨j,hj,_⟩:=ye.1 iBb;have u1:=run_underlying uBp;have u2:=run_underlying uBs;have u3:=run_underlying uBu;have u4:=run_underlying d9;have u5:=run_underlying Qy;have u6:=run_underlying XP
 go_enter Tryz.func193,Tryz.ntmps193
 go_wp2
 rw[Go.Lib.run_neq_ptr_same w _ uBp hj]
 go_wp2
 go_end0
 exact⟨rfl,rfl⟩
theorem i5 (b:Nat)(w:World)(h0:w.cell? ⟨b,0,none⟩=some (.pointer none))(lz:w.shape? b=some (168,2))(hfz:w.frozen? ⟨b,0,none⟩=false):
  Calls Tryz.prog 193 #[.pointer (some ⟨b,0,none⟩)] w fun e w'=>e=.returned (.tuple #[])/\w'=w.setCell ⟨b,0,none⟩ (.pointer (some ⟨b,0,none⟩)):=by
 obtain⟨j,hj,hjs⟩:=ye.1 iBb;have u1:=run_underlying uBp;have u2:=run_underlying uBs;have u3:=run_underlying uBu;have u4:=run_underlying d9;have u5:=run_underlying Qy;have u6:=run_underlying XP
 go_enter Tryz.func193,Tryz.ntmps193
 go_wp2
 rw[Go.Lib.run_to_unsafe w ⟨b,0,none⟩ uBp XP hj (by rw[hjs];decide) lz (Nat.zero_lt_succ 1)];simp only[Result.andThen];rw[Oper.upon_value]
 go_wp2
 rw[run_callFunc_extern Tryz.func238 (by kernel_rfl) (by kernel_rfl) (by kernel_rfl) (e:=Extern.AbiNoEscape.same) (by kernel_rfl)];rw[Go.Lib.run_noEscape];simp only[Result.andThen];rw[Oper.upon_value]
 go_wp2
 rw[Go.Lib.run_from_unsafe w ⟨b,0,none⟩ XP uBp hj lz liesB];simp only[Result.andThen];rw[Oper.upon_value]
 go_wp2
 go_end0
 exact⟨rfl,rfl⟩
theorem bcheck (b:Nat)(q v:Value)(w:World)(ko:w.heap[b]?=some (.cells #[q,v] 168 (0,0)))(hq:q=.pointer none\/q=.pointer (some ⟨b,0,none⟩)):
  Calls Tryz.prog 193 #[.pointer (some ⟨b,0,none⟩)] w fun e w'=>e=.returned (.tuple #[])/\w'.heap[b]?=some (.cells #[.pointer (some ⟨b,0,none⟩),v] 168 (0,0))/\cE (fun k=>k=b) w w':=by
 have fa:=DC ko;rcases hq with rfl|rfl
 ·refine(i5 b w (by rw[Go.Lib.cell_of_heap ko];rfl) (by simp[World.shape?,ko]) (by simp[World.frozen?,ko])).mono ?_;rintro e w' ⟨rfl,rfl⟩;refine⟨rfl,by simp[World.setCell,Array.getElem?_modify,ko],⟨rfl,rfl,rfl,by simp[World.setCell],fun k _ hk=>Below.heap_setCell _ _ _ _ (fun e=>hk (by simp[e]))⟩⟩
 ·refine(M6 b w (by rw[Go.Lib.cell_of_heap ko];rfl)).mono ?_;rintro e w' ⟨rfl,rfl⟩;exact⟨rfl,ko,cE.refl _ _⟩
theorem bwrite (b:Nat)(q v:Value)(bs:List Value)(s:ByteArray)(w:World)(ko:w.heap[b]?=some (.cells #[q,v] 168 (0,0)))(hq:q=.pointer none\/q=.pointer (some ⟨b,0,none⟩))(jk:w.ownsRowF 0 5 1 v bs.length bs)(ua:v.ownBlock≠some b)(ja:bs.length+s.size<=140737488355328):
  Calls Tryz.prog 124 #[.pointer (some ⟨b,0,none⟩),.string s] w fun e w'=>e=.returned (.tuple #[.int .i64 s.size,.nilIface])/\∃v',w'.heap[b]?=some (.cells #[.pointer (some ⟨b,0,none⟩),v'] 168 (0,0))/\w'.ownsRowF 0 5 1 v' (bs.length+s.size) (bs++Go.Lib.strCells s)/\cE (fun k=>k=b\/v.ownBlock=some k) w w'/\(∀k,v'.ownBlock=some k->v.ownBlock=some k\/w.heap.size<=k):=by
 obtain⟨i0,hi,jg,hz1,hz2⟩:=info_parts iB8;have u1:=run_underlying uBp;have u2:=run_underlying uBs;have u3:=run_underlying uBu;have u4:=run_underlying d9;have u5:=run_underlying Qy;have u6:=run_underlying XP;have fa:=DC ko
 go_enter Tryz.func124,Tryz.ntmps124
 go_wp2_with fail
 refine(bcheck b q v _ ko hq).mono ?_;rintro e w1 ⟨rfl,h1,ah⟩;have hown1:w1.ownsRowF 0 5 1 v bs.length bs:=by
  refine⟨jk.1,?_⟩;rcases jk.2 with hn|⟨g,cap,cur,fz,rfl,hb,nj,rest⟩
  ·exact .inl hn
  ·exact .inr ⟨g,cap,cur,fz,rfl,hb,(ah.block g (DC nj) (fun e=>ua (by rw[<- e];rfl))).trans nj,rest⟩
 have c0:w1.cell? ⟨b,0,none⟩=some (.pointer (some ⟨b,0,none⟩)):=by rw[Go.Lib.cell_of_heap h1];rfl
 have c1:w1.cell? ⟨b,1,none⟩=some v:=by rw[Go.Lib.cell_of_heap h1];rfl
 obtain⟨v',w2,ca,nn,ti,df⟩:=I1 (P:=Tryz.prog) w1 50 9 50 5 i0 uBs d9 hi jg hz1 hz2 v _ bs hown1 s (by unfold maxLen;omega) ja;have ay:=DC h1;have dx:w2.heap[b]?=some (.cells #[.pointer (some ⟨b,0,none⟩),v] 168 (0,0)):=by
  rw[ti.block b ay (fun e=>ua e.symm)];exact h1
 have d0:w2.cell? ⟨b,0,none⟩=some (.pointer (some ⟨b,0,none⟩)):=by rw[Go.Lib.cell_of_heap dx];rfl
 have d1:w2.cell? ⟨b,1,none⟩=some v:=by rw[Go.Lib.cell_of_heap dx];rfl
 have f1:w2.frozen? ⟨b,1,none⟩=false:=Go.Lib.frozen_of_heap dx 1;obtain⟨ao,n',cap,rfl⟩:∃ao n' cap,v'=.slice ao n' cap:=by
  rcases nn.2 with⟨hv,_⟩|⟨g,cap,cur,fz,hv,_⟩
  ·exact⟨_,_,_,hv⟩
  ·exact⟨_,_,_,hv⟩
 go_wp2_with (at_builtin;refine C2 _ rfl _ _ 50 9 rfl v (.string s) rfl rfl ca ?_)
 go_ret2
 have hgb:∀g,(Value.slice ao n' cap).ownBlock=some g->g≠b:=fun g hg e=>by
  subst e;rcases nn.2 with⟨hv,_⟩|⟨g',nw,cur,fz,hv,_,nj,_⟩
  ·rw[hv]at hg;cases hg
  ·rw[hv]at hg;injection hg with hg;have hg:g'=g:=hg;rw[hg,dx]at nj;injection nj with nj;injection nj with _ nj;exact absurd nj (by decide)
 refine⟨rfl,.slice ao n' cap,by simp[World.setCell,Array.getElem?_modify,dx],⟨nn.1,?_⟩,?_,fun k hk=>(df k hk).imp id (fun h=>yt ah.size h)⟩
 ·rcases nn.2 with hn | ⟨g,nw,cur,fz,hv,hb,nj,rest⟩
  ·exact .inl hn
  ·exact .inr ⟨g,nw,cur,fz,hv,hb,(Below.heap_setCell _ _ _ _ (fun e=>hgb g (by rw[hv];rfl) (by simpa using e))).trans nj,rest⟩
 ·refine ⟨ti.os.trans ah.os,ti.tape.trans ah.tape,ti.output.trans ah.output,?_,fun k hk hf=>?_⟩
  ·have:=ah.size;have:=ti.size;simp[World.setCell];omega
  ·rw[Below.heap_setCell _ _ _ _ (fun e=>hf (.inl (by simpa using e)))];rw[ti.block k (Nat.lt_of_lt_of_le hk ah.size) (fun e=>hf (.inr e.symm))];exact ah.block k hk (fun e=>hf (.inl e))
theorem i7 (b:Nat)(q:Value)(sl:Value)(A:Option Addr)(n c:Nat)(je:sl=.slice A n c)(p:Value)(s:ByteArray)(w w1 w2:World)(ko:w.heap[b]?=some (.cells #[q,sl] 168 (0,0)))
  (hSD:(Builtin.unsafeSliceData_ #[50] 231 #[.slice A n c]).run Tryz.prog w.drew=.ok p w1) (h1:w1.heap[b]?=w.heap[b]?) (hUS:(Builtin.unsafeString_ #[231,3] 9 #[p,.int .i64 n]).run Tryz.prog w1=.ok (.string s) w2) :
  Calls Tryz.prog 126 #[.pointer (some ⟨b,0,none⟩)] w fun e w'=>e=.returned (.string s)/\w'=w2:=by
 subst je;have hd:w.drew.heap[b]?=some (.cells #[q,.slice A n c] 168 (0,0)):=ko;have c1:w.drew.cell? ⟨b,1,none⟩=some (.slice A n c):=by rw[Go.Lib.cell_of_heap hd];rfl
 have c2:w1.cell? ⟨b,1,none⟩=some (.slice A n c):=by rw[Go.Lib.cell_of_heap (h1.trans ko)];rfl
 have u1:=run_underlying uBp;have u2:=run_underlying uBs;have u3:=run_underlying uBu;have u4:=run_underlying d9;have u5:=run_underlying Qy;have u6:=run_underlying XP;have mixed:Tryz.prog.follows .mixedOrders=true:=by kernel_rfl
 go_enter Tryz.func126,Tryz.ntmps126
 go_wp2
 go_region_o
 all_goals (go_wp2;go_ret;exact⟨rfl,rfl⟩)
end
section
open Go Go.RowKit
variable {O:XI}
theorem G7 {w:World}(g o n:Nat):cE (fun k=>k=g) w (w.freeze ⟨g,o,none⟩ n):=by
 unfold World.freeze;split
 ·exact cE.refl _ _
 ·exact⟨rfl,rfl,rfl,by simp,fun k _ hk=>by
   simp only[Array.getElem?_modify];rw[if_neg (fun e=>hk e.symm)]⟩
theorem wY (a s:ByteArray):Go.Lib.strCells (a++s)=Go.Lib.strCells a++Go.Lib.strCells s:=by
 simp[Go.Lib.strCells,ByteArray.data_append]
theorem Ny (a s:ByteArray)(ja:a.size+s.size<=140737488355328):
  gE Tryz.prog O 124 [.ptr 0 0 0,.str s] (some (NI 168 5 a)) (.sA [.int .i64 s.size,.undef],some (NI 168 5 (a++s))):=by
 refine(gE.of rfl).2 ⟨enters_of Tryz.func124 (by kernel_rfl) rfl,?_⟩;intro av w vs p H gd hH bc gb;rw[O.sC]at bc;obtain⟨v,q,h1,h2,h3,h4,h5⟩:=bc;simp only[KK]at gb;obtain⟨u,us,rfl,hu,u2,us2,rfl,hu2,rfl⟩:=gb;rw[lH]at hu;obtain⟨b,hb,rfl⟩:=hu;have hbp:p=b:=by
  have:(if(0:Nat)=0/\(0:Nat)=0 then some p else none)=some b:=hb;simpa using this
 subst hbp;rw[mI]at hu2;subst hu2;have hl:(Go.Lib.strCells a).length=a.size:=Go.Lib.strCells_length a;refine(bwrite p q v (Go.Lib.strCells a) s w h1 h2 (by rw[hl];exact h3) h4 (by rw[hl];exact ja)).mono ?_;rintro e w' ⟨rfl,v',g1,g2,g3,g4⟩;have hne':v'.ownBlock≠some p:=fun e=>by
  rcases g2.2 with⟨hv,_⟩|⟨g',nw,cur,fz,hv,_,nj,_⟩
  ·rw[hv]at e;cases e
  ·rw[hv]at e;injection e with e;have e:g'=p:=e;rw[e,g1]at nj;injection nj with nj;injection nj with _ nj;exact absurd nj (by decide)
 refine⟨_,fun k=>k=p\/v'.ownBlock=some k,rfl,?_,?_,?_,?_⟩
 ·refine⟨_,rfl,_,_,rfl,by simp[gG],_,_,rfl,trivial,rfl⟩
 ·rw[O.sC];refine⟨v',_,g1,.inr rfl,?_,hne',fun b=>Iff.rfl⟩;rw[wY,show(a++s).size=a.size+s.size from by simp[ByteArray.size_append]];rw[hl]at g2;exact g2
 ·rintro k (rfl | hk)
  ·exact .inl ((h5 _).2 (.inl rfl))
  ·exact(g4 k hk).imp (fun h=>(h5 k).2 (.inr h)) id
 ·exact g3.mono fun k _ hk=>(h5 k).2 hk
theorem Zn {w:World}{e:TypeId}{g n c:Nat}{xs:List Value}(h:w.ownsRowF 0 e 1 (.slice (some ⟨g,0,none⟩) n c) n xs):(w.freeze ⟨g,0,none⟩ n).ownsRowF 0 e 1 (.slice (some ⟨g,0,none⟩) n c) n xs:=by
 refine⟨h.1,?_⟩;rcases h.2 with⟨hv,_⟩|⟨g',cap,cur,⟨lo,hi⟩,hv,hb,hg,hf,rest⟩
 ·cases hv
 ·injection hv with h1 h2 h3;injection h1 with h1;injection h1 with h1;subst h1;subst h3;unfold World.freeze;split
  ·exact .inr ⟨_,_,cur,⟨lo,hi⟩,rfl,hb,hg,hf,rest⟩
  ·refine .inr ⟨g,c,cur,if lo == hi then (0,n) else (min lo 0,max hi n),rfl,hb,?_,?_,rest⟩
   ·simp only[Array.getElem?_modify,if_true,hg,yp,yy]
   ·simp only at hf;split
    ·simp
    ·simp only;omega
theorem A9 (a:ByteArray):
  gE Tryz.prog O 126 [.ptr 0 0 0] (some (NI 168 5 a)) (.str a,some (NI 168 5 a)):=by
 refine(gE.of rfl).2 ⟨enters_of Tryz.func126 (by kernel_rfl) rfl,?_⟩;intro av w vs p H gd hH bc gb;rw[O.sC]at bc;have hat0:=bc;obtain⟨v,q,h1,h2,h3,h4,h5⟩:=bc;simp only[KK]at gb;obtain⟨u,us,rfl,hu,rfl⟩:=gb;rw[lH]at hu;obtain⟨b,hb,rfl⟩:=hu;have hbp:p=b:=by
  have:(if(0:Nat)=0/\(0:Nat)=0 then some p else none)=some b:=hb;simpa using this
 subst hbp;have fa:=DC h1;have hl:(Go.Lib.strCells a).length=a.size:=Go.Lib.strCells_length a;have fin:∀(A:Option Addr)(n c:Nat)(pp:Value)(w1 w2:World),v=.slice A n c->(Builtin.unsafeSliceData_ #[50] 231 #[.slice A n c]).run Tryz.prog w.drew=.ok pp w1->w1.heap[p]?=w.heap[p]?->(Builtin.unsafeString_ #[231,3] 9 #[pp,.int .i64 n]).run Tryz.prog w1=.ok (.string a) w2->cE (fun k=>v.ownBlock=some k) w w2->w2.ownsRowF 0 5 1 v a.size (Go.Lib.strCells a) →
   Calls Tryz.prog 126 #[.pointer (some ⟨p,0,none⟩)] w fun e w'=>∃v H',e=.returned v/\gG (fun b o=>av b o\/H' b) w' (.str a) v/\O.at_ (NI 168 5 a) H' p w'/\(∀b,H' b->H b\/w.heap.size<=b)/\cE H w w':=fun A n c pp w1 w2 hv hSD hw1 hUS hk ho=>by
  refine(i7 p q v A n c hv pp a w w1 w2 h1 hSD hw1 hUS).mono ?_;rintro e w' ⟨rfl,rfl⟩;refine⟨_,H,rfl,rfl,?_,fun b h=>.inl h,hk.mono fun k _ h=>(h5 k).2 (.inr h)⟩;rw[O.sC];exact⟨v,q,(hk.block p fa h4).trans h1,h2,ho,h4,h5⟩
 have ge:a.size<=9223372036854775807\/True:=.inr trivial;have ol:a.size=0->a=ByteArray.empty:=fun h=>by
  obtain⟨d⟩:=a;have h:d.size=0:=h;have:d=#[]:=Array.eq_empty_of_size_eq_zero h;subst this;rfl
 rcases h3.2 with⟨hv,hn⟩|⟨g,cap,cur,fz,hv,ax,hg,hfz,hnc,zp,uh,lw⟩
 ·refine fin none 0 0 (.pointer none) w.drew w.drew hv rfl rfl ?_ (cE.refl _ w).drew h3;rw[ol hn];exact Go.Lib.run_unsafeString_none _ _ _ _ _
 ·have hkd:w.drew.heap[g]?=some (.cells cur 5 fz):=hg;by_cases h0:a.size=0
  ·by_cases ku:cap=0
   ·subst ku;have hSD:=Go.Lib.run_unsafeSliceData_zero (P:=Tryz.prog) w.drew #[50] 231 5 uBu ⟨g,0,none⟩ a.size (5,cur.size) (by simp [World.shape?,hkd]);refine fin _ _ _ _ _ (w.drew.alloc (.view ⟨g,0,none⟩ 5)) hv hSD (heap_alloc_old w.drew _ fa) ?_ ((cE.refl _ w).drew.alloc _) ?_
    ·rw[h0,ol h0];exact Go.Lib.run_unsafeString_none _ _ _ _ _
    ·refine⟨h3.1,.inr ⟨g,0,cur,fz,hv,ax,(heap_alloc_old w.drew _ (DC hg)).trans hg,hfz,hnc,zp,uh,lw⟩⟩
   ·refine fin _ _ _ _ _ w.drew hv (Go.Lib.run_unsafeSliceData_row _ _ _ _ _ _ ku) rfl ?_ (cE.refl _ w).drew h3;rw[h0,ol h0];exact Go.Lib.run_unsafeString_none _ _ _ _ _
  ·have ku:cap≠0:=by omega
   have hal:a.data.toList.length=a.size:=by simp
   have hUS:(Builtin.unsafeString_ #[231,3] 9 #[.pointer (some ⟨g,0,none⟩),.int .i64 a.data.toList.length]).run Tryz.prog w.drew=.ok (.string ⟨a.data.toList.toArray⟩) (w.drew.freeze ⟨g,0,none⟩ a.data.toList.length):=by
    refine Go.Lib.run_unsafeString_row w.drew 231 3 9 5 uBu cB8 g cur.size (by simp[World.shape?,hkd]) a.data.toList (fun e=>h0 (by rw[<- hal,e];rfl)) (by rw[hal];omega) (by rw[hal];unfold maxLen at zp;omega) ?_;intro j x hx;have:=h3.cells (g:=g) (by rw[hv];rfl) j (.int .u8 x.toNat) (by simp only[Go.Lib.strCells,yb,hx,yp]);exact this
   rw[hal]at hUS;refine fin _ _ _ _ _ (w.drew.freeze ⟨g,0,none⟩ a.size) hv (Go.Lib.run_unsafeSliceData_row _ _ _ _ _ _ ku) rfl hUS ?_ ?_
   ·exact((cE.refl _ w).drew).trans (G7 g 0 a.size) (fun k _ hk=>by rw[hv,hk];rfl)
   ·have h3':w.drew.ownsRowF 0 5 1 v a.size (Go.Lib.strCells a):=h3;rw[hv]at h3' ⊢;exact Zn h3'
end
abbrev oM (d n:Nat):JC:=⟨some d,.mv (.t n),none⟩
abbrev oF (d a n:Nat):JC:=⟨some d,.tB a (.t n),none⟩
abbrev oL (d n:Nat):JC:=⟨some d,.load .any false 1 (.t n),none⟩
abbrev oA (d z n:Nat):JC:=⟨some d,.load .any true z (.t n),none⟩
abbrev oB (d:Nat)(o:BinOp)(a b:Nat):JC:=⟨some d,.bin o false (.t a) (.t b),none⟩
abbrev oC (d:Nat)(o:BinOp)(a:Nat)(n:Int):JC:=⟨some d,.bin o false (.t a) (.c (.int .i64 n)),none⟩
abbrev oX (d n i:Nat):JC:=⟨some d,.ext (.t n) i,none⟩
abbrev oV (z a b:Nat):JC:=⟨none,.store .any true z (.t a) (.t b),none⟩
abbrev oW (a b:Nat):JC:=⟨none,.store .any false 1 (.t a) (.t b),none⟩
abbrev oI (d z a b:Nat):JC:=⟨some d,.nA z (.t a) (.t b),none⟩
abbrev oJ (d:Nat)(n:Int):JC:=⟨some d,.mv (.c (.int .i64 n)),none⟩
abbrev oH (d n:Nat):JC:=⟨some d,.len false (.t n),none⟩
abbrev oU (d n:Nat):JC:=⟨some d,.un .not (.t n),none⟩
abbrev oZ (d:Nat)(b:Bool):JC:=⟨some d,.mv (.c (.bool b)),none⟩
abbrev oK (d n:Nat):JC:=⟨some d,.AA (.t n),none⟩
abbrev oY (d:Nat)(l:List AV):JC:=⟨some d,.alloc l,none⟩
abbrev oQ (d z n:Nat):JC:=⟨some d,.box z (.t n),none⟩
abbrev oS (d:Nat)(k:K):JC:=⟨some d,k,none⟩
abbrev oN (k:K):JC:=⟨none,k,none⟩
abbrev oG (d:Nat)(k:K)(g:Nat)(b:Bool):JC:=⟨some d,k,some (g,b)⟩
abbrev oP (d n g:Nat)(b:Bool):JC:=⟨some d,.load .any false 1 (.t n),some (g,b)⟩
abbrev oR (l:List JC)(c:C):C:=.seq (.reg l) c
abbrev oD (n:Nat)(a b:C):C:=.cond (.t n) a b
abbrev oFg (d o n g:Nat)(b:Bool):JC:=⟨some d,.tB o (.t n),some (g,b)⟩
abbrev oPa (d a b:Nat):JC:=⟨some d,.pick (.t a) (.t b) (.c (.bool false)),none⟩
abbrev oPo (d a b:Nat):JC:=⟨some d,.pick (.t a) (.c (.bool true)) (.t b),none⟩
abbrev oMg (d n g:Nat)(b:Bool):JC:=⟨some d,.mv (.t n),some (g,b)⟩
abbrev oC1 (d f a:Nat):JC:=⟨some d,.call .any f [.t a],none⟩
abbrev oC2 (d f a b:Nat):JC:=⟨some d,.call .any f [.t a,.t b],none⟩
abbrev oC4 (d f a b c e:Nat):JC:=⟨some d,.call .any f [.t a,.t b,.t c,.t e],none⟩
abbrev oLr (d r z n:Nat):JC:=⟨some d,.load (.root r) false z (.t n),none⟩
abbrev oLg (d z n g:Nat)(b:Bool):JC:=⟨some d,.load .any true z (.t n),some (g,b)⟩
abbrev oBg (d:Nat)(o:BinOp)(a b g:Nat)(w:Bool):JC:=⟨some d,.bin o false (.t a) (.t b),some (g,w)⟩
abbrev oCi (d:Nat)(o:BinOp)(a:Nat)(n:Int)(g:Nat)(w:Bool):JC:=⟨some d,.bin o false (.t a) (.c (.int .i64 n)),some (g,w)⟩
abbrev oHg (d n g:Nat)(b:Bool):JC:=⟨some d,.len false (.t n),some (g,b)⟩
abbrev oUg (d n g:Nat)(b:Bool):JC:=⟨some d,.un .not (.t n),some (g,b)⟩
abbrev oIg (d z a b g:Nat)(w:Bool):JC:=⟨some d,.nA z (.t a) (.t b),some (g,w)⟩
abbrev oAp (d e z y a b:Nat):JC:=⟨some d,.app .any e z y (.t a) (.t b),none⟩
abbrev oPb (d a b g:Nat)(w:Bool):JC:=⟨some d,.pick (.t a) (.t b) (.c (.bool false)),some (g,w)⟩
abbrev oCg (d f a b g:Nat)(w:Bool):JC:=⟨some d,.call .any f [.t a,.t b],some (g,w)⟩
abbrev zza:List AV:=[(.int .i64 0),(.bool false),(.int .i64 0),(.str (ByteArray.mk #[])),(.int .i64 0),(.sl true []),(.sl true []),(.sl true [])]
abbrev zzb:List AV:=[(.int .i64 0),(.str (ByteArray.mk #[])),(.int .i64 0),(.int .i64 0),(.int .i64 0),(.sl true []),(.sl true []),(.int .i64 0),(.int .i64 0),(.bool false)]
abbrev zzc:List AV:=[(.sl true []),(.sl true []),(.int .i64 0)]
abbrev zzd:List AV:=[(.str (ByteArray.mk #[])),(.int .i64 0),(.bool false),(.int .i64 0),(.str (ByteArray.mk #[])),(.int .i64 0),(.sl true []),(.sl true []),(.sl true [])]
abbrev zze:List AV:=[(.int .i64 0),(.str (ByteArray.mk #[])),(.int .i64 0),(.bool false),(.bool false),(.int .i64 0),(.bool false),(.int .i64 0),(.str (ByteArray.mk #[])),(.int .i64 0),(.sl true []),(.sl true []),(.sl true [])]
abbrev zzf:List AV:=[(.sl true []),(.sl true []),(.bool false)]
abbrev zzg:List AV:=[(.bool false),(.bool false),(.str (ByteArray.mk #[])),(.int .i64 0),(.bool false),(.int .i64 0),(.str (ByteArray.mk #[])),(.int .i64 0),(.sl true []),(.sl true []),(.sl true [])]
abbrev zzh:List AV:=[(.int .i64 0),(.str (ByteArray.mk #[]))]
abbrev zzi:List AV:=[(.int .u8 0),(.int .u8 0),(.int .u8 0),(.int .u8 0),(.int .u8 0),(.int .u8 0),(.int .u8 0),(.int .u8 0)]
abbrev zzj:List AV:=[(.int .u8 0),(.int .u8 0),(.int .u8 0),(.int .u8 0),(.int .u8 0),(.int .u8 0),(.int .u8 0),(.int .u8 0),(.int .u8 0),(.int .u8 0)]
noncomputable def cF (l:List Nat)(f:Func):jD:=(wT Tryz.prog l f).getD ⟨.skip,[],0,[]⟩
def FD:jD:=⟨(oR [oQ 3 1 0,oZ 6 false] (.seq (oR [oS 19 (.call .any 5 []),oU 20 19,oM 21 20,oLg 22 1 3 21 false,oG 23 (.call .any 8 [(.t 22)]) 21 false,oUg 24 23 21 false,oPo 25 21 24] (oD 25 (oR [oS 26 (.call .any 5 []),oM 6 26] .ret) .skip)) (oR [oA 27 1 3,oM 28 1,oC2 29 9 27 28,oM 7 29] (oR [oA 31 1 3,oM 32 1,oS 33 (.call .any 10 [(.t 31),(.t 32),(.c (.sl true []))]),oM 30 33,oX 34 30 0,oX 35 30 1,oY 8 zza,oV 8 8 34,oM 9 35] (oR [oA 37 1 3,oM 38 1,oS 39 (.build zza []),oS 40 (.call .any 11 [(.t 37),(.t 38),(.t 39)]),oM 36 40,oX 41 36 0,oX 42 36 1,oY 10 zza,oV 8 10 41,oM 11 42] (.seq (oR [oM 43 7,oC 44 .eql 43 0] (oD 44 (.seq (oR [oM 45 2,oC 46 .geq 45 0,oM 47 46,oMg 48 2 47 true,oCi 49 .leq 48 12 47 true,oPa 50 47 49] (oD 50 (oR [oM 51 11,oC 52 .eql 51 1,oM 6 52] .ret) .skip)) (oR [oJ 7 7] (.reg [oM 53 7,oM 54 7,oM 9 53,oM 11 54]))) .skip)) (oR [oA 56 1 3,oM 57 1,oM 58 2,oS 59 (.call .any 12 [(.t 56),(.t 57),(.t 58)]),oM 55 59,oX 60 55 0,oX 61 55 1,oM 12 60,oM 13 61] (oR [oA 63 1 3,oM 64 1,oM 65 2,oS 66 (.call .any 6 [(.t 63),(.t 64),(.t 65)]),oM 62 66,oX 67 62 0,oX 68 62 1,oM 14 67,oM 15 68] (oR [oA 69 1 3,oM 70 1,oS 71 (.build [(.sl true []),(.int .i64 0)] [(0,(1,(.t 69))),(1,(1,(.t 70)))]),oS 16 (.alloc [(.sl true []),(.int .i64 0)]),oV 2 16 71] (oR [oA 73 2 16,oA 74 2 16,oM 75 2,oS 76 (.call .any 13 [(.t 73),(.t 74),(.t 75)]),oM 72 76,oX 77 72 0,oX 78 72 1,oY 17 zza,oV 8 17 77,oM 18 78] (oR [oM 79 13,oM 80 7,oB 81 .eql 79 80,oM 82 81,oMg 83 15 82 true,oMg 84 7 82 true,oBg 85 .eql 83 84 82 true,oPa 86 82 85,oM 87 86,oMg 88 9 87 true,oMg 89 7 87 true,oBg 90 .eql 88 89 87 true,oPa 91 87 90,oM 92 91,oMg 93 11 92 true,oMg 94 7 92 true,oBg 95 .eql 93 94 92 true,oPa 96 92 95,oM 97 96,oMg 98 18 97 true,oMg 99 7 97 true,oBg 100 .eql 98 99 97 true,oPa 101 97 100,oM 102 101,oMg 103 12 102 true,oHg 104 103 102 true,oCi 105 .eql 104 0 102 true,oPa 106 102 105,oM 107 106,oMg 108 14 107 true,oCi 109 .eql 108 0 107 true,oPa 110 107 109,oM 6 110] .ret))))))))))),[(.tmp 6)],3,[]⟩
theorem okF {n:Nat}{f:Func}{c:jD}(h:Tryz.prog.funcs[n]?=some f)(a:∀xs w,(callFunc n xs).run Tryz.prog w=.ok (.enter n xs) w:=by intro _ _;kernel_rfl)(b:wT Tryz.prog c.mu f=some c:=by kernel_rfl):SC Tryz.prog n c:=⟨a,f,h,b⟩
theorem tR:SC Tryz.prog 4 FD:=okF Tryz.func4
noncomputable def ZS:jD:=cF [] Tryz.f5
theorem mZ:SC Tryz.prog 5 ZS:=okF Tryz.func5
def rU:C:=oR [oB 41 .lss 40 39] (.seq (oD 41 .skip (.exit 0)) (.seq (.block 1 (oR [oI 42 1 38 40,oL 43 42,oM 12 43] (oR [oF 44 0 3,oL 45 44,oM 46 12,oI 47 10 45 46,oA 48 10 47,oY 13 zzb,oV 10 13 48] (oR [oF 49 0 13,oL 50 49,oC 51 .eql 50 8] (oD 51 (oR [oF 52 0 3,oL 53 52,oF 54 7 13,oL 55 54,oI 56 10 53 55,oA 57 10 56,oY 14 zzb,oV 10 14 57] (oR [oF 58 0 14,oL 59 58,oC 60 .eql 59 3,oM 61 60,oFg 62 4 14 61 true,oP 63 62 61 true,oCi 64 .gtr 63 1 61 true,oPa 65 61 64] (oD 65 (oR [oJ 6 0,oJ 7 3] .ret) .skip))) .skip))))) (.reg [oC 66 .add 40 1,oM 40 66])))
def AH:jD:=⟨(oR [oQ 3 1 0,oJ 6 0,oJ 7 0] (.seq (oR [oA 17 1 3,oM 18 1,oC2 19 18 17 18,oM 8 19] (oR [oM 20 8,oC 21 .neq 20 0] (oD 21 (oR [oM 22 8,oJ 6 0,oM 7 22] .ret) .skip))) (.seq (oR [oM 23 2,oC 24 .lss 23 0,oM 25 24,oMg 26 2 25 false,oCi 27 .gtr 26 12 25 false,oPo 28 25 27] (oD 28 (oR [oJ 6 0,oJ 7 7] .ret) .skip)) (oR [oA 30 1 3,oM 31 1,oC2 32 19 30 31,oM 29 32,oX 33 29 0,oX 34 29 1,oM 9 33,oM 10 34] (.seq (oR [oM 35 10,oC 36 .neq 35 0] (oD 36 (oR [oM 37 10,oJ 6 0,oM 7 37] .ret) .skip)) (.seq (oR [oM 38 9,oH 39 38,oJ 40 0] (.block 0 (.loop rU))) (oR [oA 67 1 3,oS 68 (.fC),oS 69 (.build [(.sl true []),.undef] [(0,(1,(.t 67))),(1,(1,(.t 68)))]),oQ 70 2 69,oM 15 70] (oR [oM 71 15,oM 72 1,oM 73 2,oS 74 (.lA 79 (.c (.fn 20 [])) [(.t 71),(.t 72),(.t 73)]),oM 16 74] (.seq (oR [oM 75 16,oS 76 (.bin .gtr false (.t 75) (.c (.int .u64 1000000000000000)))] (oD 76 (oR [oJ 6 0,oJ 7 3] .ret) .skip)) (oR [oM 77 16,oS 78 (.conv (.some .i64) (.t 77)),oM 6 78,oJ 7 0] .ret)))))))))),[(.tmp 6),(.tmp 7)],3,[1000000+20]⟩
theorem AX:SC Tryz.prog 6 AH:=okF Tryz.func6
def NL:C:=oR [oB 10 .lss 9 8] (.seq (oD 10 .skip (.exit 0)) (.seq (.block 1 (oR [oI 11 10 7 9,oA 12 10 11,oY 5 zzb,oV 10 5 12] (.reg [oM 13 3,oF 14 6 5,oL 15 14,oH 16 15,oB 17 .add 13 16,oM 3 17]))) (.reg [oC 18 .add 9 1,oM 9 18])))
def lM:jD:=⟨(oR [oQ 1 1 0,oZ 2 false] (oR [oJ 3 0] (.seq (oR [oF 6 0 1,oL 7 6,oH 8 7,oJ 9 0] (.block 0 (.loop NL))) (oR [oA 19 1 1,oC1 20 23 19,oM 21 20,oFg 22 0 1 21 true,oP 23 22 21 true,oHg 24 23 21 true,oCi 25 .leq 24 5 21 true,oMg 26 25 21 true,oMg 27 3 26 true,oCi 28 .leq 27 12 26 true,oPb 29 26 28 21 true,oMg 30 29 21 true,oLg 31 1 1 30 false,oG 32 (.call .any 24 [(.t 31)]) 30 false,oCi 33 .neq 32 0 30 false,oG 34 (.pick (.t 30) (.c (.bool true)) (.t 33)) 21 true,oPa 35 21 34,oM 2 35] .ret)))),[(.tmp 2)],1,[]⟩
theorem QZ:SC Tryz.prog 8 lM:=okF Tryz.func8
def QI:jD:=⟨(oR [oQ 2 1 0,oJ 4 0] (.seq (oR [oA 6 1 2,oC1 7 25 6,oM 5 7] (oR [oM 8 5,oC 9 .neq 8 0] (oD 9 (oR [oM 10 5,oM 4 10] .ret) .skip))) (.seq (oR [oM 11 1,oC 12 .lss 11 0,oM 13 12,oMg 14 1 13 false,oFg 15 0 2 13 false,oP 16 15 13 false,oHg 17 16 13 false,oBg 18 .geq 14 17 13 false,oPo 19 13 18] (oD 19 (oR [oJ 4 4] .ret) .skip)) (oR [oJ 4 0] .ret)))),[(.tmp 4)],2,[]⟩
theorem FZ:SC Tryz.prog 9 QI:=okF Tryz.func9
def HF:jD:=⟨(oR [oQ 3 1 0,oY 6 zza,oJ 7 0] (.seq (oR [oA 11 1 3,oM 12 1,oC2 13 18 11 12,oM 8 13] (oR [oM 14 8,oC 15 .neq 14 0] (oD 15 (oR [oS 16 (.build zza []),oM 17 8,oV 8 6 16,oM 7 17] .ret) .skip))) (oR [oA 18 1 3,oM 19 2,oS 20 (.build zzc [(0,(1,(.t 18))),(1,(1,(.t 19)))]),oQ 21 3 20,oM 9 21] (oR [oM 22 9,oM 23 1,oS 24 (.dA .any 26 [(.t 22),(.t 23)]),oY 10 zza,oV 8 10 24] (.seq (oR [oM 25 9,oK 26 25,oF 27 2 26,oL 28 27,oC 29 .neq 28 0] (oD 29 (oR [oS 30 (.build zza []),oM 31 9,oK 32 31,oF 33 2 32,oS 34 (.load (.out [6]) false 1 (.t 33)),oN (.store (.root 6) true 8 (.t 6) (.t 30)),oM 7 34] .ret) .skip)) (oR [oA 35 8 10,oV 8 6 35,oJ 7 0] .ret)))))),[(.cell 6 true 8),(.tmp 7)],3,[9000000,49]⟩
theorem WW:SC Tryz.prog 10 HF:=okF Tryz.func10
def WI:jD:=⟨(oR [oQ 3 1 0,oQ 5 8 2,oY 6 zza,oJ 7 0] (.seq (oR [oA 17 1 3,oM 18 1,oC2 19 18 17 18,oM 8 19] (oR [oM 20 8,oC 21 .neq 20 0] (oD 21 (oR [oS 22 (.build zza []),oM 23 8,oV 8 6 22,oM 7 23] .ret) .skip))) (.seq (oR [oA 24 1 3,oM 25 1,oA 26 8 5,oS 27 (.call .any 27 [(.t 24),(.t 25),(.t 26)]),oU 28 27] (oD 28 (oR [oS 29 (.build zza []),oV 8 6 29,oJ 7 1] .ret) .skip)) (oR [oA 31 1 3,oM 32 1,oS 33 (.call .any 28 [(.t 31),(.t 32),(.c (.int .i64 12))]),oM 30 33,oX 34 30 0,oX 35 30 1,oM 9 34,oM 10 35] (.seq (oR [oM 36 10,oC 37 .neq 36 0] (oD 37 (oR [oS 38 (.build zza []),oM 39 10,oV 8 6 38,oM 7 39] .ret) .skip)) (oR [oA 41 1 3,oM 42 1,oA 43 8 5,oS 44 (.call .any 29 [(.t 41),(.t 42),(.t 43)]),oM 40 44,oX 45 40 0,oX 46 40 1,oM 11 45,oM 12 46] (.seq (oR [oM 47 11,oC 48 .gtr 47 12] (oD 48 (oR [oS 49 (.build zza []),oV 8 6 49,oJ 7 4] .ret) .skip)) (oR [oA 51 1 3,oM 52 1,oA 53 8 5,oS 54 (.call .any 30 [(.t 51),(.t 52),(.t 53)]),oM 50 54,oX 55 50 0,oX 56 50 1,oM 13 55,oM 14 56] (oR [oM 58 9,oM 59 13,oS 60 (.build zzd [(0,(1,(.t 59)))]),oS 61 (.call .any 31 [(.t 58),(.t 60),(.c (.fn 32 []))]),oM 57 61,oX 62 57 0,oX 63 57 1,oM 15 62,oM 16 63] (.seq (oR [oM 64 16] (oD 64 (.reg [oM 65 15,oC 66 .add 65 1,oM 15 66]) .skip)) (.seq (oR [oM 67 15,oM 68 9,oH 69 68,oB 70 .geq 67 69] (oD 70 (oR [oS 71 (.build zza []),oV 8 6 71,oJ 7 4] .ret) .skip)) (oR [oM 72 9,oM 73 15,oI 74 9 72 73,oF 75 1 74,oA 76 8 75,oC1 77 33 76,oV 8 6 77,oJ 7 0] .ret)))))))))))),[(.cell 6 true 8),(.tmp 7)],3,[]⟩
theorem GZ:SC Tryz.prog 11 WI:=okF Tryz.func11
def xX:C:=oR [oB 36 .lss 35 34] (.seq (oD 36 .skip (.exit 0)) (.seq (.block 1 (oR [oI 37 9 33 35,oA 38 9 37,oY 13 zzd,oV 9 13 38] (.reg [oM 39 11,oF 40 1 13,oA 41 8 40,oC1 42 33 41,oS 43 (.XA zza 1 [(0,(.t 42))]),oAp 44 39 8 120 39 43,oM 11 44]))) (.reg [oC 45 .add 35 1,oM 35 45])))
def RJ:jD:=⟨(oR [oQ 3 1 0,oS 6 (.mv (.c (.sl true []))),oJ 7 0] (.seq (oR [oA 14 1 3,oM 15 1,oC2 16 18 14 15,oM 8 16] (oR [oM 17 8,oC 18 .neq 17 0] (oD 18 (oR [oM 19 8,oS 6 (.mv (.c (.sl true []))),oM 7 19] .ret) .skip))) (.seq (oR [oM 20 2,oC 21 .lss 20 0,oM 22 21,oMg 23 2 22 false,oCi 24 .gtr 23 12 22 false,oPo 25 22 24] (oD 25 (oR [oS 6 (.mv (.c (.sl true []))),oJ 7 7] .ret) .skip)) (oR [oA 27 1 3,oM 28 1,oM 29 2,oS 30 (.call .any 28 [(.t 27),(.t 28),(.t 29)]),oM 26 30,oX 31 26 0,oX 32 26 1,oM 9 31,oM 10 32] (oR [oS 11 (.mv (.c (.sl true [])))] (.seq (oR [oM 33 9,oH 34 33,oJ 35 0] (.block 0 (.loop xX))) (oR [oM 46 11,oM 47 10,oM 6 46,oM 7 47] .ret))))))),[(.tmp 6),(.tmp 7)],3,[]⟩
theorem M1:SC Tryz.prog 12 RJ:=okF Tryz.func12
def tU:C:=oR [oB 57 .lss 56 55] (.seq (oD 57 .skip (.exit 0)) (.seq (.block 1 (oR [oI 58 9 54 56,oA 59 9 58,oY 13 zzd,oV 9 13 59] (oR [oF 61 0 3,oA 62 1 61,oF 63 1 3,oL 64 63,oF 65 1 13,oA 66 8 65,oF 67 0 4,oA 68 1 67,oF 69 1 4,oL 70 69,oS 71 (.call .any 34 [(.t 62),(.t 64),(.t 66),(.t 68),(.t 70)]),oM 60 71,oX 72 60 0,oX 73 60 1,oY 14 zza,oV 8 14 72,oM 15 73] (oR [oM 74 15,oC 75 .eql 74 12] (oD 75 (oR [oF 76 1 13,oA 77 8 76,oC1 78 33 77,oV 8 6 78,oJ 7 0] .ret) .skip))))) (.reg [oC 79 .add 56 1,oM 56 79])))
def SH:jD:=⟨(oR [oQ 3 2 0,oQ 4 2 1,oY 6 zza,oJ 7 0] (.seq (oR [oF 16 0 3,oA 17 1 16,oF 18 1 3,oL 19 18,oC2 20 18 17 19,oM 8 20] (oR [oM 21 8,oC 22 .neq 21 0] (oD 22 (oR [oS 23 (.build zza []),oM 24 8,oV 8 6 23,oM 7 24] .ret) .skip))) (.seq (oR [oF 25 0 4,oA 26 1 25,oF 27 1 4,oL 28 27,oC2 29 18 26 28,oM 9 29] (oR [oM 30 9,oC 31 .neq 30 0] (oD 31 (oR [oS 32 (.build zza []),oM 33 9,oV 8 6 32,oM 7 33] .ret) .skip))) (.seq (oR [oM 34 2,oC 35 .lss 34 0,oM 36 35,oMg 37 2 36 false,oCi 38 .gtr 37 12 36 false,oPo 39 36 38] (oD 39 (oR [oS 40 (.build zza []),oV 8 6 40,oJ 7 7] .ret) .skip)) (oR [oF 42 0 3,oA 43 1 42,oF 44 1 3,oL 45 44,oM 46 2,oS 47 (.call .any 28 [(.t 43),(.t 45),(.t 46)]),oM 41 47,oX 48 41 0,oX 49 41 1,oM 10 48,oM 11 49] (.seq (oR [oM 50 11,oC 51 .neq 50 0] (oD 51 (oR [oS 52 (.build zza []),oM 53 11,oV 8 6 52,oM 7 53] .ret) .skip)) (.seq (oR [oM 54 10,oH 55 54,oJ 56 0] (.block 0 (.loop tU))) (oR [oS 80 (.build zza []),oV 8 6 80,oJ 7 15] .ret)))))))),[(.cell 6 true 8),(.tmp 7)],3,[]⟩
theorem SX:SC Tryz.prog 13 SH:=okF Tryz.func13
noncomputable def GQ:jD:=cF [] Tryz.f14
theorem jW:SC Tryz.prog 14 GQ:=okF Tryz.func14
noncomputable def eU:jD:=cF [] Tryz.f15
theorem N1:SC Tryz.prog 15 eU:=okF Tryz.func15
noncomputable def wU:jD:=cF [] Tryz.f16
theorem J1:SC Tryz.prog 16 wU:=okF Tryz.func16
noncomputable def XS:jD:=cF [] Tryz.f17
theorem UZ:SC Tryz.prog 17 XS:=okF Tryz.func17
def DH:jD:=⟨(oR [oQ 2 1 0,oJ 4 0] (.seq (oR [oA 6 1 2,oC1 7 37 6,oM 5 7] (oR [oM 8 5,oC 9 .neq 8 0] (oD 9 (oR [oM 10 5,oM 4 10] .ret) .skip))) (.seq (oR [oM 11 1,oC 12 .lss 11 0,oM 13 12,oMg 14 1 13 false,oFg 15 0 2 13 false,oP 16 15 13 false,oHg 17 16 13 false,oBg 18 .geq 14 17 13 false,oPo 19 13 18] (oD 19 (oR [oJ 4 4] .ret) .skip)) (oR [oJ 4 0] .ret)))),[(.tmp 4)],2,[]⟩
theorem GX:SC Tryz.prog 18 DH:=okF Tryz.func18
noncomputable def rO:jD:=cF [] Tryz.f19
theorem DS:SC Tryz.prog 19 rO:=okF Tryz.func19
noncomputable def fL:jD:=cF [1000000+42] Tryz.f20
theorem SP:SC Tryz.prog 20 fL:=okF Tryz.func20
def eJ:C:=.seq (oR [oM 36 6,oF 37 6 5,oL 38 37,oH 39 38,oB 40 .lss 36 39,oM 41 40,oMg 42 6 41 true,oCi 43 .lss 42 100 41 true,oPa 44 41 43] (oD 44 .skip (.exit 2))) (.seq (.block 3 (.reg [oM 47 3,oF 48 6 5,oL 49 48,oM 50 6,oI 51 13 49 50,oF 52 5 51,oA 53 8 52,oC1 54 54 53,oB 55 .add 47 54,oF 56 6 5,oL 57 56,oM 58 6,oI 59 13 57 58,oF 60 1 59,oL 61 60,oS 62 (.len true (.t 61)),oB 63 .add 55 62,oM 3 63])) (.reg [oM 45 6,oC 46 .add 45 1,oM 6 46]))
def NN:C:=.seq (oR [oM 11 4,oF 12 0 1,oL 13 12,oH 14 13,oB 15 .lss 11 14] (oD 15 .skip (.exit 0))) (.seq (.block 1 (oR [oF 18 0 1,oL 19 18,oM 20 4,oI 21 10 19 20,oA 22 10 21,oY 5 zzb,oV 10 5 22] (oR [oM 23 3,oF 24 6 5,oL 25 24,oH 26 25,oB 27 .add 23 26,oF 28 5 5,oL 29 28,oH 30 29,oB 31 .add 27 30,oF 32 1 5,oL 33 32,oS 34 (.len true (.t 33)),oB 35 .add 31 34,oM 3 35] (oR [oJ 6 0] (.block 2 (.loop eJ)))))) (.reg [oM 16 4,oC 17 .add 16 1,oM 4 17]))
def HM:jD:=⟨(oR [oQ 1 1 0,oZ 2 false] (.seq (oR [oF 7 0 1,oL 8 7,oH 9 8,oC 10 .gtr 9 40] (oD 10 (oR [oZ 2 false] .ret) .skip)) (oR [oJ 3 0] (.seq (oR [oJ 4 0] (.block 0 (.loop NN))) (oR [oM 64 3,oC 65 .leq 64 400,oM 2 65] .ret))))),[(.tmp 2)],1,[]⟩
theorem L5:SC Tryz.prog 23 HM:=okF Tryz.func23
def MJ:jD:=⟨(oR [oQ 1 1 0,oJ 2 0] (.seq (oR [oA 7 1 1,oC1 8 55 7,oM 3 8] (oR [oM 9 3,oC 10 .neq 9 0] (oD 10 (oR [oM 11 3,oM 2 11] .ret) .skip))) (oR [oA 13 1 1,oC1 14 56 13,oM 12 14,oX 15 12 0,oX 16 12 1,oX 17 12 2,oM 4 15,oM 5 16,oM 6 17] (oR [oM 18 6,oM 2 18] .ret)))),[(.tmp 2)],1,[]⟩
theorem AZ:SC Tryz.prog 24 MJ:=okF Tryz.func24
def EJ:C:=.seq (oR [oM 14 5,oM 15 3,oH 16 15,oB 17 .lss 14 16] (oD 17 .skip (.exit 0))) (.seq (.block 1 (oR [oM 20 3,oM 21 5,oI 22 1 20 21,oL 23 22,oU 24 23] (oD 24 (oR [oJ 2 10] .ret) .skip))) (.reg [oM 18 5,oC 19 .add 18 1,oM 5 19]))
def qK:jD:=⟨(oR [oQ 1 1 0,oJ 2 0] (oR [oA 7 1 1,oC1 8 57 7,oM 6 8,oX 9 6 0,oX 10 6 1,oM 3 9,oM 4 10] (.seq (oR [oM 11 4,oC 12 .neq 11 0] (oD 12 (oR [oM 13 4,oM 2 13] .ret) .skip)) (.seq (oR [oJ 5 0] (.block 0 (.loop EJ))) (oR [oJ 2 0] .ret))))),[(.tmp 2)],1,[]⟩
theorem SZ:SC Tryz.prog 25 qK:=okF Tryz.func25
def MN:C:=oR [oB 224 .lss 223 222] (.seq (oD 224 .skip (.exit 7)) (.seq (.block 8 (oR [oM 225 0,oF 226 7 7,oL 227 226,oS 228 (.dA .any 26 [(.t 225),(.t 227)]),oY 16 zza,oV 8 16 228] (oR [oM 229 0,oF 230 8 7,oL 231 230,oS 232 (.dA .any 26 [(.t 229),(.t 231)]),oY 17 zza,oV 8 17 232] (oR [oF 234 5 8,oL 235 234,oA 236 8 16,oS 237 (.call .any 60 [(.t 235),(.t 236),(.c (.fn 61 []))]),oM 233 237,oX 238 233 0,oX 239 233 1,oM 18 238,oM 19 239] (oR [oM 240 19,oU 241 240] (oD 241 (.reg [oF 242 5 8,oLr 243 8 1 242,oM 244 18,oS 245 (.load (.root 16) true 8 (.t 16)),oS 246 (.XA zza 1 [(0,(.t 245))]),oS 247 (.call .any 62 [(.t 243),(.t 244),(.t 246)]),oF 248 6 8,oLr 249 8 1 248,oM 250 18,oS 251 (.load (.root 17) true 8 (.t 17)),oS 252 (.XA zza 1 [(0,(.t 251))]),oS 253 (.call .any 62 [(.t 249),(.t 250),(.t 252)]),oF 254 5 8,oN (.store (.root 8) false 1 (.t 254) (.t 247)),oF 255 6 8,oN (.store (.root 8) false 1 (.t 255) (.t 253))]) .skip)))))) (.reg [oC 256 .add 223 1,oM 223 256])))
def qO:C:=oR [oB 203 .lss 202 201] (.seq (oD 203 .skip (.exit 5)) (.seq (.block 6 (.reg [oF 204 6 8,oLr 205 8 1 204,oM 206 0,oF 207 8 7,oLr 208 7 1 207,oS 209 (.dA (.root 0) 26 [(.t 206),(.t 208)]),oS 210 (.XA zza 1 [(0,(.t 209))]),oAp 211 39 8 120 205 210,oF 212 6 8,oN (.store (.root 8) false 1 (.t 212) (.t 211))])) (.reg [oC 213 .add 202 1,oM 202 213])))
def wO:C:=oR [oB 143 .lss 142 141] (.seq (oD 143 .skip (.exit 3)) (.seq (.block 4 (oR [oI 144 13 140 142,oA 145 13 144,oY 14 zze,oV 13 14 145] (oR [oF 146 4 14,oL 147 146,oM 148 147,oMg 149 0 148 true,oG 150 (.dA .any 59 [(.t 149)]) 148 true,oCi 151 .rem 150 2 148 true,oCi 152 .eql 151 0 148 true,oPa 153 148 152] (oD 153 (.reg [oF 154 6 8,oLr 155 8 1 154,oF 156 5 14,oS 157 (.load (.root 14) true 8 (.t 156)),oC1 158 33 157,oS 159 (.XA zza 1 [(0,(.t 158))]),oAp 160 39 8 120 155 159,oF 161 6 8,oN (.store (.root 8) false 1 (.t 161) (.t 160))]) (.reg [oF 162 6 8,oLr 163 8 1 162,oM 164 0,oF 165 2 14,oLr 166 14 1 165,oS 167 (.dA (.root 0) 26 [(.t 164),(.t 166)]),oS 168 (.XA zza 1 [(0,(.t 167))]),oAp 169 39 8 120 163 168,oF 170 6 8,oN (.store (.root 8) false 1 (.t 170) (.t 169))]))))) (.reg [oC 171 .add 142 1,oM 142 171])))
def eO:C:=oR [oB 111 .lss 110 109] (.seq (oD 111 .skip (.exit 1)) (.seq (.block 2 (oR [oM 112 110,oM 12 112] (.reg [oM 113 11,oM 114 12,oM 115 0,oS 116 (.dA .any 59 [(.t 115)]),oS 117 (.conv (.some .u8) (.t 116)),oI 118 1 113 114,oW 118 117]))) (.reg [oC 119 .add 110 1,oM 110 119])))
def lG:jD:=⟨(oR [oY 4 zza] (.seq (oR [oM 20 0,oK 21 20,oF 22 1 21,oL 23 22,oH 24 23,oC 25 .eql 24 0] (oD 25 (oR [oM 27 0,oK 28 27,oF 29 0 28,oA 30 1 29,oM 31 1,oC2 32 58 30 31,oM 26 32,oX 33 26 0,oX 34 26 1,oY 5 zza,oV 8 5 33,oM 6 34] (.seq (oR [oM 35 0,oK 36 35,oF 37 2 36,oL 38 37,oC 39 .eql 38 0] (oD 39 (.reg [oM 40 0,oM 41 6,oK 42 40,oF 43 2 42,oW 43 41]) .skip)) (oR [oA 44 8 5,oV 8 4 44] .ret))) .skip)) (oR [oM 45 0,oK 46 45,oF 47 0 46,oF 48 0 47,oL 49 48,oM 50 1,oI 51 10 49 50,oA 52 10 51,oY 7 zzb,oV 10 7 52] (oR [oF 53 0 7,oL 54 53,oS 55 (.build zza [(0,(1,(.t 54)))]),oY 8 zza,oV 8 8 55] (.seq (oR [oF 56 0 7,oL 57 56] (.block 0 (oR [oC 69 .eql 57 1,oM 68 69] (oD 68 (.reg [oM 70 0,oS 71 (.dA .any 59 [(.t 70)]),oC 72 .rem 71 2,oC 73 .eql 72 1,oF 74 1 8,oW 74 73]) (oR [oC 76 .eql 57 2,oM 75 76] (oD 75 (oR [oM 77 0,oS 78 (.dA .any 59 [(.t 77)]),oS 79 (.conv (.some .u64) (.t 78)),oM 9 79] (.seq (oR [oF 80 3 7,oL 81 80,oS 82 (.conv (.some .u64) (.t 81)),oF 83 2 7,oL 84 83,oS 85 (.conv (.some .u64) (.t 84)),oB 86 .sub 82 85,oM 10 86] (oR [oM 87 10,oS 88 (.bin .lss false (.t 87) (.c (.int .u64 255)))] (oD 88 (.reg [oM 89 9,oM 90 10,oS 91 (.bin .add false (.t 90) (.c (.int .u64 1))),oB 92 .rem 89 91,oM 9 92]) .skip))) (.reg [oF 93 2 7,oL 94 93,oM 95 9,oS 96 (.conv (.some .i64) (.t 95)),oB 97 .add 94 96,oF 98 2 8,oW 98 97]))) (oR [oC 100 .eql 57 3,oM 99 100] (oD 99 (oR [oM 101 0,oS 102 (.dA (.root 0) 59 [(.t 101)]),oF 103 4 7,oLr 104 7 1 103,oC 105 .add 104 1,oB 106 .rem 102 105,oS 107 (.wC 1 1 [(.int .u8 0)] (.t 106) (.t 106)),oM 11 107] (.seq (oR [oM 108 11,oH 109 108,oJ 110 0] (.block 1 (.loop eO))) (.reg [oM 120 11,oS 121 (.xB .any (.t 120)),oF 122 3 8,oW 122 121]))) (oR [oC 124 .eql 57 4,oM 123 124] (oD 123 (.reg [oF 125 5 7,oLr 126 7 1 125,oM 127 0,oS 128 (.dA (.root 0) 59 [(.t 127)]),oF 129 5 7,oLr 130 7 1 129,oH 131 130,oB 132 .rem 128 131,oI 133 2 126 132,oF 134 0 133,oL 135 134,oF 136 4 8,oN (.store (.root 8) false 1 (.t 136) (.t 135))]) (oR [oC 138 .eql 57 5,oM 137 138] (oD 137 (oR [oF 139 6 7,oL 140 139,oH 141 140,oJ 142 0] (.block 3 (.loop wO))) (oR [oC 173 .eql 57 6,oM 172 173] (oD 172 (oR [oF 174 6 7,oLr 175 7 1 174,oM 176 0,oS 177 (.dA (.root 0) 59 [(.t 176)]),oF 178 6 7,oLr 179 7 1 178,oH 180 179,oB 181 .rem 177 180,oI 182 13 175 181,oS 183 (.load .RB true 13 (.t 182)),oY 15 zze,oN (.store (.root 15) true 13 (.t 15) (.t 183))] (oR [oF 184 0 15,oL 185 184,oF 186 4 8,oW 186 185] (.reg [oM 187 0,oF 188 2 15,oL 189 188,oS 190 (.dA .any 26 [(.t 187),(.t 189)]),oS 191 (.XA zza 1 [(0,(.t 190))]),oF 192 6 8,oW 192 191]))) (oR [oC 194 .eql 57 7,oM 193 194] (oD 193 (oR [oM 195 0,oS 196 (.dA (.root 0) 59 [(.t 195)]),oF 197 4 7,oLr 198 7 1 197,oS 199 (.mm false (.c (.int .i64 3)) (.t 198)),oC 200 .add 199 1,oB 201 .rem 196 200,oJ 202 0] (.block 5 (.loop qO))) (oR [oC 215 .eql 57 8,oM 214 215] (oD 214 (oR [oM 216 0,oS 217 (.dA (.root 0) 59 [(.t 216)]),oF 218 4 7,oLr 219 7 1 218,oS 220 (.mm false (.c (.int .i64 3)) (.t 219)),oC 221 .add 220 1,oB 222 .rem 217 221,oJ 223 0] (.block 7 (.loop MN))) (oR [oM 58 0,oS 59 (.dA .any 59 [(.t 58)]),oC 60 .rem 59 2,oC 61 .eql 60 1] (oD 61 (.reg [oM 62 0,oF 63 8 7,oL 64 63,oS 65 (.dA .any 26 [(.t 62),(.t 64)]),oS 66 (.XA zza 1 [(0,(.t 65))]),oF 67 6 8,oW 67 66]) .skip)))))))))))))))))))) (oR [oA 257 8 8,oV 8 4 257] .ret)))))),[(.cell 4 true 8)],2,[3000000,119,131,143,157,205,233,257,301,335,355,381,393,419,435,457,465]⟩
theorem pP:SC Tryz.prog 26 lG:=okF Tryz.func26
def EI:jD:=⟨(oR [oQ 3 1 0,oQ 5 8 2,oZ 6 false] (oR [oA 7 1 3,oM 8 1,oA 9 8 5,oS 10 (.call .any 63 [(.t 7),(.t 8),(.t 9),(.c (.bool true))]),oM 6 10] .ret)),[(.tmp 6)],3,[]⟩
theorem MZ:SC Tryz.prog 27 EI:=okF Tryz.func27
def FH:C:=oR [oB 20 .lss 19 18] (.seq (oD 20 .skip (.exit 0)) (.seq (.block 1 (oR [oM 21 19,oM 9 21] (oR [oA 23 1 3,oM 24 9,oC2 25 64 23 24,oM 22 25,oX 26 22 0,oX 27 22 1,oM 10 26,oM 11 27] (.reg [oM 28 8,oM 29 8,oK 30 29,oF 31 1 30,oL 32 31,oM 33 10,oS 34 (.XA [(.int .i64 0)] 1 [(0,(.t 33))]),oAp 35 3 1 8 32 34,oK 36 28,oF 37 1 36,oW 37 35])))) (.reg [oC 38 .add 19 1,oM 19 38])))
def nM:jD:=⟨(oR [oQ 3 1 0,oS 6 (.mv (.c (.sl true []))),oJ 7 0] (oR [oA 13 1 3,oS 14 (.build zzf [(0,(1,(.t 13)))]),oQ 15 3 14,oM 8 15] (.seq (oR [oF 16 0 3,oL 17 16,oH 18 17,oJ 19 0] (.block 0 (.loop FH))) (oR [oM 39 8,oM 40 1,oM 41 2,oS 42 (.lA 50 (.c (.fn 65 [])) [(.t 39),(.t 40),(.t 41)]),oM 12 42] (.seq (oR [oM 43 8,oK 44 43,oF 45 2 44,oL 46 45] (oD 46 (oR [oS 6 (.mv (.c (.sl true []))),oJ 7 3] .ret) .skip)) (oR [oM 47 12,oS 48 (.lA 50 (.c (.fn 66 [])) [(.t 47),(.c (.fn 32 []))])] (oR [oM 49 12,oM 6 49,oJ 7 0] .ret))))))),[(.tmp 6),(.tmp 7)],3,[1000000+65,1000000+66]⟩
theorem JZ:SC Tryz.prog 28 nM:=okF Tryz.func28
def kM:jD:=⟨(oR [oQ 3 1 0,oQ 5 8 2,oJ 6 0,oJ 7 0] (.seq (oR [oA 10 1 3,oM 11 1,oA 12 8 5,oS 13 (.call .any 67 [(.t 10),(.t 11),(.t 12)]),oM 8 13] (oR [oM 14 8,oC 15 .neq 14 0] (oD 15 (oR [oM 16 8,oJ 6 0,oM 7 16] .ret) .skip))) (oR [oA 17 1 3,oS 18 (.build [(.sl true []),(.int .i64 0)] [(0,(1,(.t 17)))]),oQ 19 2 18,oM 9 19] (oR [oM 20 9,oM 21 1,oA 22 8 5,oS 23 (.dA .any 68 [(.t 20),(.t 21),(.t 22),(.c (.int .i64 1))]),oS 24 (.len true (.t 23)),oM 6 24,oJ 7 0] .ret)))),[(.tmp 6),(.tmp 7)],3,[47]⟩
theorem nZ:SC Tryz.prog 29 kM:=okF Tryz.func29
def pK:jD:=⟨(oR [oQ 3 1 0,oQ 5 8 2,oS 6 (.mv (.c (.str (ByteArray.mk #[])))),oJ 7 0] (.seq (oR [oA 11 1 3,oM 12 1,oA 13 8 5,oS 14 (.call .any 67 [(.t 11),(.t 12),(.t 13)]),oM 8 14] (oR [oM 15 8,oC 16 .neq 15 0] (oD 16 (oR [oM 17 8,oS 6 (.mv (.c (.str (ByteArray.mk #[])))),oM 7 17] .ret) .skip))) (oR [oA 18 1 3,oS 19 (.build [(.sl true []),(.int .i64 0)] [(0,(1,(.t 18)))]),oQ 20 2 19,oM 9 20] (oR [oM 21 9,oM 22 1,oA 23 8 5,oS 24 (.dA .any 68 [(.t 21),(.t 22),(.t 23),(.c (.int .i64 1))]),oM 10 24] (.seq (oR [oM 25 10,oS 26 (.len true (.t 25)),oC 27 .gtr 26 4096,oM 28 27,oMg 29 9 28 false,oG 30 (.AA (.t 29)) 28 false,oFg 31 1 30 28 false,oP 32 31 28 false,oCi 33 .gtr 32 200 28 false,oPo 34 28 33] (oD 34 (oR [oS 6 (.mv (.c (.str (ByteArray.mk #[])))),oJ 7 3] .ret) .skip)) (oR [oM 35 10,oM 6 35,oJ 7 0] .ret)))))),[(.tmp 6),(.tmp 7)],3,[49]⟩
theorem uW:SC Tryz.prog 30 pK:=okF Tryz.func30
noncomputable def sG:jD:=cF [] Tryz.f31
theorem ZI:SC Tryz.prog 31 sG:=okF Tryz.func31
noncomputable def ZQ:jD:=cF [] Tryz.f32
theorem EW:SC Tryz.prog 32 ZQ:=okF Tryz.func32
noncomputable def cR:jD:=cF [10000000+72,10000000+73] Tryz.f33
theorem DX:SC Tryz.prog 33 cR:=okF Tryz.func33
noncomputable def KO:jD:=cF [71] Tryz.f34
theorem OT:SC Tryz.prog 34 KO:=okF Tryz.func34
def CF:C:=.seq (oR [oM 11 5,oM 12 0,oH 13 12,oB 14 .lss 11 13] (oD 14 .skip (.exit 0))) (.seq (.block 1 (oR [oM 17 0,oM 18 5,oI 19 8 17 18,oA 20 8 19,oM 21 1,oM 22 5,oI 23 8 21 22,oA 24 8 23,oC2 25 36 20 24,oU 26 25] (oD 26 (oR [oZ 4 false] .ret) .skip))) (.reg [oM 15 5,oC 16 .add 15 1,oM 5 16]))
def HG:jD:=⟨(oR [oZ 4 false] (.seq (oR [oM 6 0,oH 7 6,oM 8 1,oH 9 8,oB 10 .neq 7 9] (oD 10 (oR [oZ 4 false] .ret) .skip)) (.seq (oR [oJ 5 0] (.block 0 (.loop CF))) (oR [oZ 4 true] .ret)))),[(.tmp 4)],2,[]⟩
theorem PS:SC Tryz.prog 35 HG:=okF Tryz.func35
def zF:C:=.seq (oR [oM 48 5,oF 49 7 2,oL 50 49,oH 51 50,oB 52 .lss 48 51] (oD 52 .skip (.exit 0))) (.seq (.block 1 (oR [oF 55 7 2,oL 56 55,oM 57 5,oI 58 2 56 57,oA 59 2 58,oF 60 7 3,oL 61 60,oM 62 5,oI 63 2 61 62,oA 64 2 63,oS 65 (.iC true [0,1] (.t 59) (.t 64))] (oD 65 (oR [oZ 4 false] .ret) .skip))) (.reg [oM 53 5,oC 54 .add 53 1,oM 5 54]))
def rE:jD:=⟨(oR [oQ 2 8 0,oQ 3 8 1,oZ 4 false] (.seq (oR [oF 6 0 2,oL 7 6,oF 8 0 3,oL 9 8,oB 10 .neq 7 9,oM 11 10,oFg 12 1 2 11 false,oP 13 12 11 false,oFg 14 1 3 11 false,oP 15 14 11 false,oG 16 (.bin .neq true (.t 13) (.t 15)) 11 false,oPo 17 11 16,oM 18 17,oFg 19 2 2 18 false,oP 20 19 18 false,oFg 21 2 3 18 false,oP 22 21 18 false,oBg 23 .neq 20 22 18 false,oPo 24 18 23,oM 25 24,oFg 26 3 2 25 false,oP 27 26 25 false,oFg 28 3 3 25 false,oP 29 28 25 false,oBg 30 .neq 27 29 25 false,oPo 31 25 30,oM 32 31,oFg 33 4 2 32 false,oP 34 33 32 false,oFg 35 4 3 32 false,oP 36 35 32 false,oBg 37 .neq 34 36 32 false,oPo 38 32 37,oM 39 38,oFg 40 7 2 39 false,oP 41 40 39 false,oHg 42 41 39 false,oFg 43 7 3 39 false,oP 44 43 39 false,oHg 45 44 39 false,oBg 46 .neq 42 45 39 false,oPo 47 39 46] (oD 47 (oR [oZ 4 false] .ret) .skip)) (.seq (oR [oJ 5 0] (.block 0 (.loop zF))) (oR [oF 66 5 2,oL 67 66,oF 68 5 3,oL 69 68,oC2 70 35 67 69,oM 71 70,oFg 72 6 2 71 true,oP 73 72 71 true,oFg 74 6 3 71 true,oP 75 74 71 true,oCg 76 35 73 75 71 true,oPa 77 71 76,oM 4 77] .ret)))),[(.tmp 4)],2,[]⟩
theorem AT:SC Tryz.prog 36 rE:=okF Tryz.func36
def uI:C:=oR [oB 18 .lss 17 16] (.seq (oD 18 .skip (.exit 0)) (.seq (.block 1 (oR [oI 19 1 15 17,oL 20 19,oM 6 20] (oR [oM 21 6,oU 22 21] (oD 22 (oR [oJ 2 10] .ret) .skip)))) (.reg [oC 23 .add 17 1,oM 17 23])))
def jI:jD:=⟨(oR [oQ 1 1 0,oJ 2 0] (oR [oA 8 1 1,oC1 9 76 8,oM 7 9,oX 10 7 0,oX 11 7 1,oM 3 10,oM 4 11] (.seq (oR [oM 12 4,oC 13 .neq 12 0] (oD 13 (oR [oM 14 4,oM 2 14] .ret) .skip)) (.seq (oR [oM 15 3,oH 16 15,oJ 17 0] (.block 0 (.loop uI))) (oR [oJ 2 0] .ret))))),[(.tmp 2)],1,[]⟩
theorem pW:SC Tryz.prog 37 jI:=okF Tryz.func37
noncomputable def QR:jD:=cF [] Tryz.f38
theorem XX:SC Tryz.prog 38 QR:=okF Tryz.func38
def GH:C:=oR [oB 10 .lss 9 8] (.seq (oD 10 .skip (.exit 0)) (.seq (.block 1 (oR [oI 11 13 7 9,oA 12 13 11,oY 5 zze,oV 13 5 12] (.reg [oM 13 3,oF 14 2 5,oL 15 14,oS 16 (.XA [(.int .i64 0)] 1 [(0,(.t 15))]),oAp 17 3 1 8 13 16,oM 3 17]))) (.reg [oC 18 .add 9 1,oM 9 18])))
def mM:jD:=⟨(oR [oQ 1 10 0,oS 2 (.mv (.c (.sl true [])))] (oR [oS 3 (.mv (.c (.sl true [])))] (.seq (oR [oF 6 6 1,oL 7 6,oH 8 7,oJ 9 0] (.block 0 (.loop GH))) (.seq (oR [oF 19 0 1,oL 20 19,oC 21 .eql 20 8] (oD 21 (.reg [oM 22 3,oF 23 7 1,oL 24 23,oS 25 (.XA [(.int .i64 0)] 1 [(0,(.t 24))]),oAp 26 3 1 8 22 25,oM 3 26]) .skip)) (.seq (oR [oF 27 0 1,oL 28 27,oC 29 .geq 28 7] (oD 29 (.reg [oM 30 3,oF 31 8 1,oL 32 31,oS 33 (.XA [(.int .i64 0)] 1 [(0,(.t 32))]),oAp 34 3 1 8 30 33,oM 3 34]) .skip)) (oR [oM 35 3,oM 2 35] .ret)))))),[(.tmp 2)],1,[]⟩
theorem BZ:SC Tryz.prog 39 mM:=okF Tryz.func39
noncomputable def ZL:jD:=cF [] Tryz.f40
theorem QQ:SC Tryz.prog 40 ZL:=okF Tryz.func40
noncomputable def BO:jD:=cF [] Tryz.f41
theorem FT:SC Tryz.prog 41 BO:=okF Tryz.func41
noncomputable def dL:jD:=cF [1000000+84,1000000+87,1000000+89] Tryz.f42
theorem AP:SC Tryz.prog 42 dL:=okF Tryz.func42
def lI:C:=.seq (oR [oM 5 4,oF 6 6 1,oL 7 6,oH 8 7,oB 9 .lss 5 8] (oD 9 .skip (.exit 0))) (.seq (.block 1 (.reg [oM 12 3,oF 13 6 1,oL 14 13,oM 15 4,oI 16 13 14 15,oF 17 2 16,oL 18 17,oS 19 (.XA [(.int .i64 0)] 1 [(0,(.t 18))]),oAp 20 3 1 8 12 19,oM 3 20])) (.reg [oM 10 4,oC 11 .add 10 1,oM 4 11]))
def xN:jD:=⟨(oR [oQ 1 10 0,oS 2 (.mv (.c (.sl true [])))] (oR [oS 3 (.mv (.c (.sl true [])))] (.seq (oR [oJ 4 0] (.block 0 (.loop lI))) (.seq (oR [oF 21 0 1,oL 22 21,oC 23 .eql 22 8] (oD 23 (.reg [oM 24 3,oF 25 7 1,oL 26 25,oS 27 (.XA [(.int .i64 0)] 1 [(0,(.t 26))]),oAp 28 3 1 8 24 27,oM 3 28]) .skip)) (.seq (oR [oF 29 0 1,oL 30 29,oC 31 .eql 30 7,oM 32 31,oFg 33 0 1 32 false,oP 34 33 32 false,oCi 35 .eql 34 8 32 false,oPo 36 32 35,oM 37 36,oFg 38 0 1 37 false,oP 39 38 37 false,oCi 40 .eql 39 9 37 false,oPo 41 37 40] (oD 41 (.reg [oM 42 3,oF 43 8 1,oL 44 43,oS 45 (.XA [(.int .i64 0)] 1 [(0,(.t 44))]),oAp 46 3 1 8 42 45,oM 3 46]) .skip)) (oR [oM 47 3,oM 2 47] .ret)))))),[(.tmp 2)],1,[]⟩
theorem Z1:SC Tryz.prog 44 xN:=okF Tryz.func44
def BN:C:=.seq (oR [oM 4 0,oS 5 (.bin .gtr false (.t 4) (.c (.int .u64 0)))] (oD 5 .skip (.exit 0))) (.block 1 (oR [oM 6 0,oS 7 (.bin .rem false (.t 6) (.c (.int .u64 256))),oS 8 (.conv (.some .u8) (.t 7)),oS 9 (.XA [(.int .u8 0)] 1 [(0,(.t 8))]),oS 10 (.xB .any (.t 9)),oM 11 3,oB 12 .add 10 11,oM 3 12] (.reg [oM 13 0,oS 14 (.bin .quo false (.t 13) (.c (.int .u64 256))),oM 0 14])))
def ZO:jD:=⟨(oR [oS 2 (.mv (.c (.str (ByteArray.mk #[]))))] (oR [oS 3 (.mv (.c (.str (ByteArray.mk #[]))))] (.seq (.block 0 (.loop BN)) (oR [oM 15 3,oM 2 15] .ret)))),[(.tmp 2)],1,[]⟩
theorem J5:SC Tryz.prog 51 ZO:=okF Tryz.func51
def gK:C:=.seq (oR [oM 41 6,oF 42 7 1,oL 43 42,oH 44 43,oB 45 .lss 41 44] (oD 45 .skip (.exit 4))) (.seq (.block 5 (.reg [oM 48 3,oC 49 .add 48 1,oF 50 7 1,oL 51 50,oM 52 6,oI 53 2 51 52,oF 54 1 53,oL 55 54,oS 56 (.len true (.t 55)),oB 57 .add 49 56,oM 3 57])) (.reg [oM 46 6,oC 47 .add 46 1,oM 6 47]))
def jK:C:=.seq (oR [oM 26 5,oF 27 6 1,oL 28 27,oH 29 28,oB 30 .lss 26 29] (oD 30 .skip (.exit 2))) (.seq (.block 3 (.reg [oM 33 3,oF 34 6 1,oL 35 34,oM 36 5,oI 37 8 35 36,oA 38 8 37,oC1 39 54 38,oB 40 .add 33 39,oM 3 40])) (.reg [oM 31 5,oC 32 .add 31 1,oM 5 32]))
def kK:C:=.seq (oR [oM 11 4,oF 12 5 1,oL 13 12,oH 14 13,oB 15 .lss 11 14] (oD 15 .skip (.exit 0))) (.seq (.block 1 (.reg [oM 18 3,oF 19 5 1,oL 20 19,oM 21 4,oI 22 8 20 21,oA 23 8 22,oC1 24 54 23,oB 25 .add 18 24,oM 3 25])) (.reg [oM 16 4,oC 17 .add 16 1,oM 4 17]))
def zN:jD:=⟨(oR [oQ 1 8 0,oJ 2 0] (oR [oF 7 3 1,oL 8 7,oS 9 (.len true (.t 8)),oS 10 (.bin .add false (.c (.int .i64 1)) (.t 9)),oM 3 10] (.seq (oR [oJ 4 0] (.block 0 (.loop kK))) (.seq (oR [oJ 5 0] (.block 2 (.loop jK))) (.seq (oR [oJ 6 0] (.block 4 (.loop gK))) (oR [oM 58 3,oM 2 58] .ret)))))),[(.tmp 2)],1,[]⟩
theorem K1:SC Tryz.prog 54 zN:=okF Tryz.func54
def AG:C:=.seq (oR [oM 48 7,oM 49 6,oH 50 49,oB 51 .lss 48 50] (oD 51 .skip (.exit 4))) (.seq (.block 5 (oR [oM 54 6,oM 55 7,oI 56 1 54 55,oL 57 56,oC 58 .lss 57 0,oM 59 58,oMg 60 6 59 false,oMg 61 7 59 false,oIg 62 1 60 61 59 false,oP 63 62 59 false,oFg 64 0 1 59 false,oP 65 64 59 false,oHg 66 65 59 false,oBg 67 .geq 63 66 59 false,oPo 68 59 67] (oD 68 (oR [oJ 2 4] .ret) .skip))) (.reg [oM 52 7,oC 53 .add 52 1,oM 7 53]))
def wG:C:=.seq (oR [oM 27 5,oM 28 3,oB 29 .lss 27 28] (oD 29 .skip (.exit 2))) (.seq (.block 3 (oR [oF 32 0 4,oL 33 32,oC1 34 95 33,oM 35 34,oFg 36 0 1 35 true,oP 37 36 35 true,oMg 38 5 35 true,oIg 39 10 37 38 35 true,oFg 40 1 39 35 true,oP 41 40 35 true,oFg 42 1 4 35 true,oP 43 42 35 true,oBg 44 .eql 41 43 35 true,oPa 45 35 44] (oD 45 (oR [oJ 2 1] .ret) .skip))) (.reg [oM 30 5,oC 31 .add 30 1,oM 5 31]))
def WJ:C:=.seq (oR [oM 12 3,oF 13 0 1,oL 14 13,oH 15 14,oB 16 .lss 12 15] (oD 16 .skip (.exit 0))) (.seq (.block 1 (oR [oF 19 0 1,oL 20 19,oM 21 3,oI 22 10 20 21,oA 23 10 22,oY 4 zzb,oV 10 4 23] (.seq (oR [oA 24 10 4,oC1 25 94 24,oU 26 25] (oD 26 (oR [oJ 2 1] .ret) .skip)) (.seq (oR [oJ 5 0] (.block 2 (.loop wG))) (oR [oA 46 10 4,oC1 47 44 46,oM 6 47] (.seq (oR [oJ 7 0] (.block 4 (.loop AG))) (oR [oF 69 0 4,oL 70 69,oC 71 .eql 70 8,oM 72 71,oFg 73 0 1 72 true,oP 74 73 72 true,oFg 75 7 4 72 true,oP 76 75 72 true,oIg 77 10 74 76 72 true,oFg 78 0 77 72 true,oP 79 78 72 true,oG 80 (.call .any 96 [(.t 79)]) 72 true,oUg 81 80 72 true,oPa 82 72 81] (oD 82 (oR [oJ 2 1] .ret) .skip)))))))) (.reg [oM 17 3,oC 18 .add 17 1,oM 3 18]))
def CJ:jD:=⟨(oR [oQ 1 1 0,oJ 2 0] (.seq (oR [oF 8 0 1,oL 9 8,oH 10 9,oC 11 .gtr 10 32] (oD 11 (oR [oJ 2 3] .ret) .skip)) (.seq (oR [oJ 3 0] (.block 0 (.loop WJ))) (oR [oJ 2 0] .ret)))),[(.tmp 2)],1,[]⟩
theorem RZ:SC Tryz.prog 55 CJ:=okF Tryz.func55
def CE:C:=.seq (oR [oM 27 8,oM 28 7,oH 29 28,oB 30 .lss 27 29] (oD 30 .skip (.exit 2))) (.seq (.block 3 (oR [oM 33 7,oM 34 8,oI 35 13 33 34,oF 36 4 35,oL 37 36,oM 38 37,oLg 39 1 1 38 true,oMg 40 7 38 true,oMg 41 8 38 true,oIg 42 13 40 41 38 true,oFg 43 2 42 38 true,oP 44 43 38 true,oMg 45 7 38 true,oMg 46 8 38 true,oIg 47 13 45 46 38 true,oFg 48 5 47 38 true,oLg 49 8 48 38 true,oG 50 (.call .any 97 [(.t 39),(.t 44),(.t 49)]) 38 true,oUg 51 50 38 true,oPa 52 38 51] (oD 52 (oR [oM 53 6,oM 54 7,oM 55 8,oI 56 13 54 55,oF 57 0 56,oL 58 57,oM 2 53,oM 3 58,oJ 4 1] .ret) .skip))) (.reg [oM 31 8,oC 32 .add 31 1,oM 8 32]))
def JJ:C:=.seq (oR [oM 14 6,oF 15 0 1,oL 16 15,oH 17 16,oB 18 .lss 14 17] (oD 18 .skip (.exit 0))) (.seq (.block 1 (oR [oF 21 0 1,oL 22 21,oM 23 6,oI 24 10 22 23,oF 25 6 24,oL 26 25,oM 7 26] (oR [oJ 8 0] (.block 2 (.loop CE))))) (.reg [oM 19 6,oC 20 .add 19 1,oM 6 20]))
def PH:jD:=⟨(oR [oQ 1 1 0,oJ 2 0,oJ 3 0,oJ 4 0] (.seq (oR [oA 9 1 1,oC1 10 55 9,oM 5 10] (oR [oM 11 5,oC 12 .neq 11 0] (oD 12 (oR [oM 13 5,oJ 2 0,oJ 3 0,oM 4 13] .ret) .skip))) (.seq (oR [oJ 6 0] (.block 0 (.loop JJ))) (oR [oJ 2 0,oJ 3 0,oJ 4 0] .ret)))),[(.tmp 2),(.tmp 3),(.tmp 4)],1,[]⟩
theorem MU:SC Tryz.prog 56 PH:=okF Tryz.func56
def JI:C:=.seq (oR [oM 15 7,oM 16 5,oH 17 16,oB 18 .lss 15 17] (oD 18 .skip (.exit 0))) (.seq (.block 1 (.reg [oM 21 6,oM 22 5,oM 23 7,oI 24 1 22 23,oL 25 24,oC 26 .gtr 25 0,oS 27 (.XA [(.bool false)] 1 [(0,(.t 26))]),oAp 28 4 1 1 21 27,oM 6 28])) (.reg [oM 19 7,oC 20 .add 19 1,oM 7 20]))
def rJ:jD:=⟨(oR [oQ 1 1 0,oS 2 (.mv (.c (.sl true []))),oJ 3 0] (.seq (oR [oA 8 1 1,oC1 9 24 8,oM 4 9] (oR [oM 10 4,oC 11 .neq 10 0] (oD 11 (oR [oM 12 4,oS 2 (.mv (.c (.sl true []))),oM 3 12] .ret) .skip))) (oR [oA 13 1 1,oC1 14 98 13,oM 5 14] (oR [oS 6 (.mv (.c (.sl true [])))] (.seq (oR [oJ 7 0] (.block 0 (.loop JI))) (oR [oM 29 6,oM 2 29,oJ 3 0] .ret)))))),[(.tmp 2),(.tmp 3)],1,[]⟩
theorem PX:SC Tryz.prog 57 rJ:=okF Tryz.func57
def GF:jD:=⟨(oR [oQ 2 1 0,oY 4 zza,oJ 5 0] (.seq (oR [oA 8 1 2,oM 9 1,oC2 10 99 8 9,oM 6 10] (oR [oM 11 6,oC 12 .neq 11 0] (oD 12 (oR [oS 13 (.build zza []),oM 14 6,oV 8 4 13,oM 5 14] .ret) .skip))) (oR [oA 15 1 2,oC1 16 100 15,oM 17 1,oI 18 11 16 17,oA 19 11 18,oY 7 zzg,oV 11 7 19] (.seq (.block 0 (oR [oF 21 0 7,oL 22 21,oU 23 22,oM 20 23] (oD 20 (oR [oS 24 (.build zza []),oV 8 4 24,oJ 5 10] .ret) (oR [oF 26 1 7,oL 27 26,oM 25 27] (oD 25 (oR [oS 28 (.build zza []),oV 8 4 28,oJ 5 3] .ret) .skip))))) (oR [oF 29 3 7,oA 30 8 29,oC1 31 101 30,oV 8 4 31,oJ 5 0] .ret))))),[(.cell 4 true 8),(.tmp 5)],2,[]⟩
theorem iW:SC Tryz.prog 58 GF:=okF Tryz.func58
noncomputable def FL:jD:=cF [3000000] Tryz.f59
theorem xQ:SC Tryz.prog 59 FL:=okF Tryz.func59
noncomputable def OG:jD:=cF [] Tryz.f60
theorem LJ:SC Tryz.prog 60 OG:=okF Tryz.func60
def GE:jD:=⟨(oR [oQ 2 8 0,oQ 3 8 1,oJ 4 0] (.seq (oR [oF 5 0 2,oL 6 5,oF 7 0 3,oL 8 7,oB 9 .neq 6 8] (oD 9 (oR [oJ 4 0] .ret) .skip)) (.seq (oR [oF 10 0 2,oL 11 10] (.block 0 (oR [oC 13 .eql 11 1,oM 12 13] (oD 12 (.seq (.block 1 (oR [oF 15 1 2,oL 16 15,oF 17 1 3,oL 18 17,oS 19 (.bin .eql true (.t 16) (.t 18)),oM 14 19] (oD 14 (oR [oJ 4 0] .ret) (oR [oF 21 1 3,oL 22 21,oM 20 22] (oD 20 (oR [oJ 4 (-1)] .ret) .skip))))) (oR [oJ 4 1] .ret)) (oR [oC 24 .eql 11 2,oM 23 24] (oD 23 (oR [oF 25 2 2,oL 26 25,oC1 27 103 26,oF 28 2 3,oL 29 28,oC1 30 103 29,oC2 31 102 27 30,oM 4 31] .ret) (oR [oC 33 .eql 11 3,oM 32 33] (oD 32 (oR [oF 34 3 2,oL 35 34,oS 36 (.len true (.t 35)),oF 37 3 3,oL 38 37,oS 39 (.len true (.t 38)),oC2 40 70 36 39,oF 41 3 2,oL 42 41,oF 43 3 3,oL 44 43,oC2 45 71 42 44,oS 46 (.XA [(.int .i64 0)] 2 [(0,(.t 40)),(1,(.t 45))]),oC1 47 69 46,oM 4 47] .ret) (oR [oC 49 .eql 11 4,oM 48 49] (oD 48 (oR [oF 50 4 2,oL 51 50,oF 52 4 3,oL 53 52,oC2 54 70 51 53,oM 4 54] .ret) .skip)))))))))) (oR [oJ 4 0] .ret)))),[(.tmp 4)],2,[]⟩
theorem PW:SC Tryz.prog 61 GE:=okF Tryz.func61
def aH:C:=.seq (oR [oM 281 20,oF 282 5 6,oL 283 282,oH 284 283,oB 285 .lss 281 284] (oD 285 .skip (.exit 5))) (.seq (.block 6 (oR [oF 288 5 6,oL 289 288,oM 290 20,oC 291 .sub 290 1,oI 292 8 289 291,oA 293 8 292,oF 294 5 6,oL 295 294,oM 296 20,oI 297 8 295 296,oA 298 8 297,oC2 299 61 293 298,oC 300 .geq 299 0] (oD 300 (oR [oZ 8 false] .ret) .skip))) (.reg [oM 286 20,oC 287 .add 286 1,oM 20 287]))
def sH:C:=oR [oB 153 .lss 152 151] (.seq (oD 153 .skip (.exit 3)) (.seq (.block 4 (oR [oM 154 152,oI 155 13 150 152,oA 156 13 155,oY 17 zze,oM 16 154,oV 13 17 156] (oR [oA 157 1 4,oF 158 2 17,oL 159 158,oF 160 6 6,oL 161 160,oM 162 16,oI 163 8 161 162,oA 164 8 163,oM 165 3,oC4 166 63 157 159 164 165,oU 167 166] (oD 167 (oR [oZ 8 false] .ret) .skip)))) (.reg [oC 168 .add 152 1,oM 152 168])))
def rN:C:=oR [oB 114 .lss 113 112] (.seq (oD 114 .skip (.exit 1)) (.seq (.block 2 (oR [oM 115 113,oI 116 2 111 113,oA 117 2 116,oY 13 zzh,oM 12 115,oV 2 13 117] (oR [oA 119 10 9,oF 120 0 13,oL 121 120,oC2 122 109 119 121,oM 118 122,oX 123 118 0,oX 124 118 1,oM 14 123,oM 15 124] (oR [oM 125 15,oM 126 125,oFg 127 0 13 126 false,oP 128 127 126 false,oG 129 (.call .any 108 [(.t 128)]) 126 false,oUg 130 129 126 false,oPo 131 126 130,oM 132 131,oMg 133 12 132 false,oCi 134 .gtr 133 0 132 false,oMg 135 134 132 false,oFg 136 0 13 135 true,oP 137 136 135 true,oFg 138 7 6 135 true,oP 139 138 135 true,oMg 140 12 135 true,oCi 141 .sub 140 1 135 true,oIg 142 2 139 141 135 true,oFg 143 0 142 135 true,oP 144 143 135 true,oBg 145 .leq 137 144 135 true,oPb 146 135 145 132 false,oPo 147 132 146] (oD 147 (oR [oZ 8 false] .ret) .skip))))) (.reg [oC 148 .add 113 1,oM 113 148])))
def UC:jD:=⟨(oR [oQ 4 1 0,oQ 6 8 2,oZ 8 false] (.seq (oR [oM 21 1,oC 22 .lss 21 0,oM 23 22,oMg 24 1 23 false,oFg 25 0 4 23 false,oP 26 25 23 false,oHg 27 26 23 false,oBg 28 .geq 24 27 23 false,oPo 29 23 28] (oD 29 (oR [oZ 8 false] .ret) .skip)) (oR [oF 30 0 4,oL 31 30,oM 32 1,oI 33 10 31 32,oA 34 10 33,oY 9 zzb,oV 10 9 34] (.seq (oR [oF 35 0 6,oL 36 35,oF 37 0 9,oL 38 37,oB 39 .neq 36 38,oM 40 39,oLg 41 8 6 40 false,oG 42 (.call .any 106 [(.t 41)]) 40 false,oUg 43 42 40 false,oPo 44 40 43] (oD 44 (oR [oZ 8 false] .ret) .skip)) (.seq (oR [oF 45 0 9,oL 46 45] (.block 0 (oR [oC 48 .eql 46 2,oM 47 48] (oD 47 (oR [oF 49 2 6,oL 50 49,oF 51 2 9,oL 52 51,oB 53 .geq 50 52,oM 54 53,oFg 55 2 6 54 true,oP 56 55 54 true,oFg 57 3 9 54 true,oP 58 57 54 true,oBg 59 .leq 56 58 54 true,oPa 60 54 59,oM 8 60] .ret) (oR [oC 62 .eql 46 3,oM 61 62] (oD 61 (oR [oF 63 3 6,oL 64 63,oS 65 (.len true (.t 64)),oF 66 4 9,oL 67 66,oB 68 .leq 65 67,oM 8 68] .ret) (oR [oC 70 .eql 46 4,oM 69 70] (oD 69 (oR [oA 72 10 9,oF 73 4 6,oL 74 73,oC2 75 107 72 74,oM 71 75,oX 76 71 0,oX 77 71 1,oM 10 76,oM 11 77] (oR [oM 78 11,oM 79 78,oFg 80 9 9 79 false,oP 81 80 79 false,oMg 82 81 79 false,oMg 83 3 82 true,oUg 84 83 82 true,oPb 85 82 84 79 false,oMg 86 85 79 false,oFg 87 4 6 86 true,oP 88 87 86 true,oG 89 (.call .any 108 [(.t 88)]) 86 true,oPb 90 86 89 79 false,oPo 91 79 90,oM 8 91] .ret)) (oR [oC 93 .eql 46 5,oM 92 93] (oD 92 (.seq (oR [oF 94 6 6,oL 95 94,oH 96 95,oF 97 6 9,oL 98 97,oH 99 98,oB 100 .neq 96 99,oM 101 100,oMg 102 3 101 false,oMg 103 102 101 false,oFg 104 7 6 103 true,oP 105 104 103 true,oHg 106 105 103 true,oCi 107 .gtr 106 0 103 true,oPb 108 103 107 101 false,oPo 109 101 108] (oD 109 (oR [oZ 8 false] .ret) .skip)) (.seq (oR [oF 110 7 6,oL 111 110,oH 112 111,oJ 113 0] (.block 1 (.loop rN))) (oR [oF 149 6 9,oL 150 149,oH 151 150,oJ 152 0] (.block 3 (.loop sH))))) (oR [oC 170 .eql 46 6,oM 169 170] (oD 169 (.seq (oR [oA 172 10 9,oF 173 4 6,oL 174 173,oC2 175 109 172 174,oM 171 175,oX 176 171 0,oX 177 171 1,oM 18 176,oM 19 177] (oR [oM 178 19] (oD 178 (oR [oF 179 6 6,oL 180 179,oH 181 180,oC 182 .eql 181 1,oM 183 182,oFg 184 7 6 183 true,oP 185 184 183 true,oHg 186 185 183 true,oCi 187 .eql 186 0 183 true,oPa 188 183 187,oM 189 188,oLg 190 1 4 189 true,oFg 191 6 9 189 true,oP 192 191 189 true,oMg 193 18 189 true,oIg 194 13 192 193 189 true,oFg 195 2 194 189 true,oP 196 195 189 true,oFg 197 6 6 189 true,oP 198 197 189 true,oG 199 (.nA 8 (.t 198) (.c (.int .i64 0))) 189 true,oLg 200 8 199 189 true,oMg 201 3 189 true,oG 202 (.call .any 63 [(.t 190),(.t 196),(.t 200),(.t 201)]) 189 true,oPa 203 189 202,oM 8 203] .ret) .skip))) (oR [oF 204 9 9,oL 205 204,oM 206 205,oMg 207 3 206 true,oUg 208 207 206 true,oPa 209 206 208,oM 210 209,oFg 211 4 6 210 true,oP 212 211 210 true,oG 213 (.call .any 108 [(.t 212)]) 210 true,oPa 214 210 213,oM 215 214,oFg 216 6 6 215 true,oP 217 216 215 true,oHg 218 217 215 true,oCi 219 .eql 218 0 215 true,oPa 220 215 219,oM 221 220,oFg 222 7 6 221 true,oP 223 222 221 true,oHg 224 223 221 true,oCi 225 .eql 224 1 221 true,oPa 226 221 225,oM 227 226,oFg 228 7 6 227 true,oP 229 228 227 true,oG 230 (.nA 2 (.t 229) (.c (.int .i64 0))) 227 true,oFg 231 0 230 227 true,oP 232 231 227 true,oFg 233 4 6 227 true,oP 234 233 227 true,oBg 235 .eql 232 234 227 true,oPa 236 227 235,oM 8 236] .ret)) (oR [oC 238 .eql 46 7,oM 237 238] (oD 237 (oR [oF 239 6 6,oL 240 239,oH 241 240,oF 242 4 9,oL 243 242,oB 244 .leq 241 243,oM 245 244,oLg 246 1 4 245 true,oFg 247 8 9 245 true,oP 248 247 245 true,oFg 249 6 6 245 true,oP 250 249 245 true,oMg 251 3 245 true,oG 252 (.call .any 110 [(.t 246),(.t 248),(.t 250),(.t 251)]) 245 true,oPa 253 245 252,oM 8 253] .ret) (oR [oC 255 .eql 46 8,oM 254 255] (oD 254 (.seq (oR [oF 256 5 6,oL 257 256,oH 258 257,oF 259 4 9,oL 260 259,oB 261 .gtr 258 260,oM 262 261,oFg 263 6 6 262 false,oP 264 263 262 false,oHg 265 264 262 false,oFg 266 5 6 262 false,oP 267 266 262 false,oHg 268 267 262 false,oBg 269 .neq 265 268 262 false,oPo 270 262 269,oM 271 270,oLg 272 1 4 271 false,oFg 273 7 9 271 false,oP 274 273 271 false,oFg 275 5 6 271 false,oP 276 275 271 false,oMg 277 3 271 false,oG 278 (.call .any 110 [(.t 272),(.t 274),(.t 276),(.t 277)]) 271 false,oUg 279 278 271 false,oPo 280 271 279] (oD 280 (oR [oZ 8 false] .ret) .skip)) (.seq (oR [oJ 20 1] (.block 5 (.loop aH))) (oR [oA 301 1 4,oF 302 8 9,oL 303 302,oF 304 6 6,oL 305 304,oM 306 3,oC4 307 110 301 303 305 306,oM 8 307] .ret))) (oR [oC 309 .eql 46 9,oM 308 309] (oD 308 (oR [oF 310 6 6,oL 311 310,oH 312 311,oC 313 .leq 312 1,oM 314 313,oLg 315 1 4 314 true,oFg 316 8 9 314 true,oP 317 316 314 true,oFg 318 6 6 314 true,oP 319 318 314 true,oMg 320 3 314 true,oG 321 (.call .any 110 [(.t 315),(.t 317),(.t 319),(.t 320)]) 314 true,oPa 322 314 321,oM 8 322] .ret) .skip)))))))))))))))))) (oR [oZ 8 true] .ret)))))),[(.tmp 8)],4,[]⟩
theorem I2:SC Tryz.prog 63 UC:=okF Tryz.func63
noncomputable def xR:jD:=cF [] Tryz.f64
theorem QX:SC Tryz.prog 64 xR:=okF Tryz.func64
def wQ:C:=oR [oB 54 .lss 53 52] (.seq (oD 54 .skip (.exit 1)) (.seq (.block 2 (oR [oI 55 9 51 53,oA 56 9 55,oY 19 zzd,oV 9 19 56] (.reg [oM 57 0,oM 58 7,oF 59 0 19,oL 60 59,oS 61 (.bin .add false (.c (.str (ByteArray.mk #[1]))) (.t 60)),oF 62 0 8,oL 63 62,oF 64 1 19,oA 65 8 64,oS 66 (.XA zza 1 [(0,(.t 65))]),oS 67 (.build zza [(0,(1,(.t 63))),(6,(1,(.t 66)))]),oS 68 (.build zzd [(0,(1,(.t 61))),(1,(8,(.t 67)))]),oS 69 (.lA 190 (.c (.fn 113 [])) [(.t 57),(.t 58),(.t 68)]),oM 7 69]))) (.reg [oC 70 .add 53 1,oM 53 70])))
def eQ:C:=oR [oB 156 .lss 155 154] (.seq (oD 156 .skip (.exit 7)) (.seq (.block 8 (oR [oI 157 9 153 155,oA 158 9 157,oY 17 zzd,oV 9 17 158] (.reg [oM 159 0,oM 160 7,oM 161 15,oF 162 0 17,oL 163 162,oB 164 .add 161 163,oF 165 0 8,oL 166 165,oF 167 0 14,oL 168 167,oF 169 1 17,oA 170 8 169,oS 171 (.XA zza 1 [(0,(.t 170))]),oS 172 (.build zza [(0,(1,(.t 166))),(4,(1,(.t 168))),(6,(1,(.t 171)))]),oS 173 (.build zzd [(0,(1,(.t 164))),(1,(8,(.t 172)))]),oS 174 (.lA 190 (.c (.fn 113 [])) [(.t 159),(.t 160),(.t 173)]),oM 7 174]))) (.reg [oC 175 .add 155 1,oM 155 175])))
def rQ:C:=oR [oB 139 .lss 138 137] (.seq (oD 139 .skip (.exit 5)) (.seq (.block 6 (oR [oI 140 13 136 138,oA 141 13 140,oY 14 zze,oV 13 14 141] (oR [oF 142 0 14,oL 143 142,oS 144 (.conv (.some .u64) (.t 143)),oC1 145 115 144,oM 15 145] (oR [oM 146 0,oF 147 2 14,oL 148 147,oM 149 2,oM 150 15,oS 151 (.len true (.t 150)),oB 152 .sub 149 151,oS 153 (.lA 190 (.c (.fn 65 [])) [(.t 146),(.t 148),(.t 152)]),oH 154 153,oJ 155 0] (.block 7 (.loop eQ)))))) (.reg [oC 176 .add 138 1,oM 138 176])))
def tQ:C:=oR [oB 105 .lss 104 103] (.seq (oD 105 .skip (.exit 3)) (.seq (.block 4 (oR [oI 106 2 102 104,oA 107 2 106,oY 11 zzh,oV 2 11 107] (oR [oF 108 0 11,oL 109 108,oS 110 (.conv (.some .u64) (.t 109)),oC1 111 83 110,oM 12 111] (oR [oM 112 12,oS 113 (.len true (.t 112)),oM 114 2,oB 115 .leq 113 114] (oD 115 (.reg [oM 116 0,oM 117 7,oM 118 12,oF 119 0 8,oL 120 119,oF 121 0 11,oL 122 121,oS 123 (.build zza [(0,(1,(.t 120))),(4,(1,(.t 122)))]),oS 124 (.build zzd [(0,(1,(.t 118))),(1,(8,(.t 123)))]),oS 125 (.lA 190 (.c (.fn 113 [])) [(.t 116),(.t 117),(.t 124)]),oM 7 125]) .skip))))) (.reg [oC 126 .add 104 1,oM 104 126])))
def WH:jD:=⟨(oR [oS 6 (.mv (.c (.sl true [])))] (oR [oS 7 (.mv (.c (.sl true [])))] (oR [oM 20 0,oK 21 20,oF 22 0 21,oF 23 0 22,oL 24 23,oM 25 1,oI 26 10 24 25,oA 27 10 26,oY 8 zzb,oV 10 8 27] (.seq (oR [oM 28 2,oC 29 .lss 28 0,oM 30 29,oMg 31 0 30 false,oG 32 (.AA (.t 31)) 30 false,oFg 33 2 32 30 false,oP 34 33 30 false,oPo 35 30 34] (oD 35 (oR [oS 6 (.mv (.c (.sl true [])))] .ret) .skip)) (oR [oF 36 0 8,oL 37 36,oS 38 (.build zza [(0,(1,(.t 37)))]),oY 9 zza,oV 8 9 38] (.seq (oR [oF 39 0 8,oL 40 39] (.block 0 (oR [oC 72 .eql 40 1,oM 71 72] (oD 71 (oR [oM 73 7,oA 74 8 9,oS 75 (.build zzd [(0,(1,(.c (.str (ByteArray.mk #[]))))),(1,(8,(.t 74)))]),oS 76 (.XA zzd 1 [(0,(.t 75))]),oS 77 (.qB .any 83 9 136 (.t 73) (.t 76)),oM 7 77] (oR [oM 78 2,oC 79 .gtr 78 0] (oD 79 (.reg [oM 80 7,oF 81 0 8,oL 82 81,oS 83 (.build zza [(0,(1,(.t 82))),(1,(1,(.c (.bool true))))]),oS 84 (.build zzd [(0,(1,(.c (.str (ByteArray.mk #[1]))))),(1,(8,(.t 83)))]),oS 85 (.XA zzd 1 [(0,(.t 84))]),oS 86 (.qB .any 83 9 136 (.t 80) (.t 85)),oM 7 86]) .skip))) (oR [oC 88 .eql 40 2,oM 87 88] (oD 87 (oR [oM 89 0,oA 90 10 8,oM 91 2,oS 92 (.lA 190 (.c (.fn 111 [])) [(.t 89),(.t 90),(.t 91)]),oM 6 92] .ret) (oR [oC 94 .eql 40 3,oM 93 94] (oD 93 (oR [oM 95 0,oA 96 10 8,oM 97 2,oS 98 (.lA 190 (.c (.fn 112 [])) [(.t 95),(.t 96),(.t 97)]),oM 6 98] .ret) (oR [oC 100 .eql 40 4,oM 99 100] (oD 99 (oR [oF 101 5 8,oL 102 101,oH 103 102,oJ 104 0] (.block 3 (.loop tQ))) (oR [oC 128 .eql 40 5,oM 127 128] (oD 127 (oR [oM 129 0,oA 130 10 8,oM 131 2,oS 132 (.lA 190 (.c (.fn 114 [])) [(.t 129),(.t 130),(.t 131)]),oM 6 132] .ret) (oR [oC 134 .eql 40 6,oM 133 134] (oD 133 (oR [oF 135 6 8,oL 136 135,oH 137 136,oJ 138 0] (.block 5 (.loop rQ))) (oR [oC 178 .eql 40 7,oM 177 178] (oD 177 (oR [oM 179 0,oA 180 10 8,oM 181 2,oS 182 (.lA 190 (.c (.fn 116 [])) [(.t 179),(.t 180),(.t 181)]),oM 6 182] .ret) (oR [oC 184 .eql 40 8,oM 183 184] (oD 183 (oR [oM 185 0,oA 186 10 8,oM 187 2,oS 188 (.lA 190 (.c (.fn 117 [])) [(.t 185),(.t 186),(.t 187)]),oM 6 188] .ret) (oR [oM 41 7,oA 42 8 9,oS 43 (.build zzd [(0,(1,(.c (.str (ByteArray.mk #[]))))),(1,(8,(.t 42)))]),oS 44 (.XA zzd 1 [(0,(.t 43))]),oS 45 (.qB .any 83 9 136 (.t 41) (.t 44)),oM 7 45] (oR [oM 46 0,oF 47 8 8,oL 48 47,oM 49 2,oC 50 .sub 49 1,oS 51 (.lA 190 (.c (.fn 65 [])) [(.t 46),(.t 48),(.t 50)]),oH 52 51,oJ 53 0] (.block 1 (.loop wQ)))))))))))))))))))))) (oR [oM 189 7,oM 6 189] .ret))))))),[(.tmp 6)],3,[5000000,155,173,91,1000000+65,1000000+113,1000000+112,1000000+111,1000000+114,1000000+116,1000000+117]⟩
theorem KR:SC Tryz.prog 65 WH:=okF Tryz.func65
noncomputable def HH:jD:=cF [1000000+118] Tryz.f66
theorem AL:SC Tryz.prog 66 HH:=okF Tryz.func66
def bJ:jD:=⟨(oR [oQ 3 1 0,oQ 5 8 2,oJ 6 0] (.seq (oR [oA 8 1 3,oM 9 1,oC2 10 119 8 9,oM 7 10] (oR [oM 11 7,oC 12 .neq 11 0] (oD 12 (oR [oM 13 7,oM 6 13] .ret) .skip))) (.seq (oR [oA 14 1 3,oM 15 1,oA 16 8 5,oS 17 (.call .any 120 [(.t 14),(.t 15),(.t 16)]),oU 18 17] (oD 18 (oR [oJ 6 1] .ret) .skip)) (oR [oJ 6 0] .ret)))),[(.tmp 6)],3,[]⟩
theorem DU:SC Tryz.prog 67 bJ:=okF Tryz.func67
def TD:C:=oR [oB 87 .lss 86 85] (.seq (oD 87 .skip (.exit 1)) (.seq (.block 2 (oR [oM 88 86,oI 89 8 84 86,oA 90 8 89,oY 12 zza,oM 11 88,oV 8 12 90] (.seq (oR [oF 91 0 9,oL 92 91,oC 93 .eql 92 8] (oD 93 (.reg [oM 94 0,oF 95 7 9,oLr 96 9 1 95,oF 97 5 6,oLr 98 6 1 97,oM 99 11,oI 100 8 98 99,oA 101 8 100,oM 102 3,oC 103 .add 102 1,oS 104 (.dA (.root 0) 68 [(.t 94),(.t 96),(.t 101),(.t 103)]),oC1 105 125 104,oC2 106 124 10 105]) .skip)) (.reg [oM 107 0,oF 108 8 9,oL 109 108,oA 110 8 12,oM 111 3,oC 112 .add 111 1,oS 113 (.dA .any 68 [(.t 107),(.t 109),(.t 110),(.t 112)]),oC1 114 125 113,oC2 115 124 10 114])))) (.reg [oC 116 .add 86 1,oM 86 116])))
def AC:jD:=⟨(oR [oQ 6 8 2,oS 8 (.mv (.c (.str (ByteArray.mk #[]))))] (oR [oM 13 0,oM 14 0,oK 15 14,oF 16 1 15,oL 17 16,oM 18 3,oS 19 (.mm true (.t 17) (.t 18)),oK 20 13,oF 21 1 20,oW 21 19] (oR [oM 22 0,oK 23 22,oF 24 0 23,oF 25 0 24,oL 26 25,oM 27 1,oI 28 10 26 27,oA 29 10 28,oY 9 zzb,oV 10 9 29] (.seq (oR [oF 30 0 9,oL 31 30] (.block 0 (oR [oC 33 .eql 31 1,oM 32 33] (oD 32 (.seq (oR [oF 34 1 6,oL 35 34] (oD 35 (oR [oS 8 (.mv (.c (.str (ByteArray.mk #[1]))))] .ret) .skip)) (oR [oS 8 (.mv (.c (.str (ByteArray.mk #[]))))] .ret)) (oR [oC 37 .eql 31 2,oM 36 37] (oD 36 (oR [oF 38 2 6,oL 39 38,oC1 40 103 39,oC1 41 121 40,oM 8 41] .ret) (oR [oC 43 .eql 31 3,oM 42 43] (oD 42 (oR [oF 44 3 6,oL 45 44,oM 8 45] .ret) (oR [oC 47 .eql 31 4,oM 46 47] (oD 46 (oR [oF 48 4 6,oL 49 48,oS 50 (.conv (.some .u64) (.t 49)),oC1 51 121 50,oM 8 51] .ret) (oR [oC 53 .eql 31 5,oM 52 53] (oD 52 (oR [oM 54 0,oA 55 10 9,oA 56 8 6,oM 57 3,oS 58 (.dA .any 122 [(.t 54),(.t 55),(.t 56),(.t 57)]),oM 8 58] .ret) (oR [oC 60 .eql 31 6,oM 59 60] (oD 59 (oR [oM 61 0,oA 62 10 9,oA 63 8 6,oM 64 3,oS 65 (.dA .any 123 [(.t 61),(.t 62),(.t 63),(.t 64)]),oM 8 65] .ret) (oR [oC 67 .eql 31 9,oM 66 67] (oD 66 (.seq (oR [oF 68 6 6,oL 69 68,oH 70 69,oC 71 .eql 70 0] (oD 71 (oR [oS 8 (.mv (.c (.str (ByteArray.mk #[]))))] .ret) .skip)) (oR [oM 72 0,oF 73 8 9,oLr 74 9 1 73,oF 75 6 6,oLr 76 6 1 75,oS 77 (.nA 8 (.t 76) (.c (.int .i64 0))),oA 78 8 77,oM 79 3,oC 80 .add 79 1,oS 81 (.dA (.root 0) 68 [(.t 72),(.t 74),(.t 78),(.t 80)]),oS 82 (.bin .add false (.c (.str (ByteArray.mk #[1]))) (.t 81)),oM 8 82] .ret)) .skip)))))))))))))))) (oR [oS 10 (.bC 168 5)] (.seq (oR [oF 83 6 6,oL 84 83,oH 85 84,oJ 86 0] (.block 1 (.loop TD))) (oR [oC1 117 126 10,oM 8 117] .ret))))))),[(.tmp 8)],4,[3000000,20,117,131,163,209,227]⟩
theorem iP:SC Tryz.prog 68 AC:=okF Tryz.func68
def uH:C:=oR [oB 9 .lss 8 7] (.seq (oD 9 .skip (.exit 0)) (.seq (.block 1 (oR [oI 10 1 6 8,oL 11 10,oM 5 11] (oR [oM 12 5,oM 13 3,oB 14 .neq 12 13] (oD 14 (oR [oM 15 5,oM 2 15] .ret) .skip)))) (.reg [oC 16 .add 8 1,oM 8 16])))
def lN:jD:=⟨(oR [oJ 2 0] (oR [oJ 3 0] (.seq (oR [oM 6 0,oH 7 6,oJ 8 0] (.block 0 (.loop uH))) (oR [oM 17 3,oM 2 17] .ret)))),[(.tmp 2)],1,[]⟩
theorem G1:SC Tryz.prog 69 lN:=okF Tryz.func69
def gH:jD:=⟨(oR [oJ 4 0] (oR [oM 7 0,oC1 8 127 7,oM 5 8] (oR [oM 9 1,oC1 10 127 9,oM 6 10] (.seq (oR [oM 11 5] (oD 11 (.seq (oR [oM 12 6] (oD 12 (oR [oJ 4 0] .ret) .skip)) (oR [oJ 4 (-1)] .ret)) .skip)) (.seq (oR [oM 13 6] (oD 13 (oR [oJ 4 1] .ret) .skip)) (.seq (oR [oM 14 0,oM 15 1,oB 16 .lss 14 15] (oD 16 (oR [oJ 4 (-1)] .ret) .skip)) (.seq (oR [oM 17 0,oM 18 1,oB 19 .gtr 17 18] (oD 19 (oR [oJ 4 1] .ret) .skip)) (oR [oJ 4 0] .ret)))))))),[(.tmp 4)],2,[]⟩
theorem QT:SC Tryz.prog 70 gH:=okF Tryz.func70
def lF:jD:=⟨(oR [oJ 4 0] (oR [oM 7 0,oC1 8 128 7,oM 5 8] (oR [oM 9 1,oC1 10 128 9,oM 6 10] (.seq (oR [oM 11 5] (oD 11 (.seq (oR [oM 12 6] (oD 12 (oR [oJ 4 0] .ret) .skip)) (oR [oJ 4 (-1)] .ret)) .skip)) (.seq (oR [oM 13 6] (oD 13 (oR [oJ 4 1] .ret) .skip)) (.seq (oR [oM 14 0,oM 15 1,oB 16 .lss 14 15] (oD 16 (oR [oJ 4 (-1)] .ret) .skip)) (.seq (oR [oM 17 0,oM 18 1,oB 19 .gtr 17 18] (oD 19 (oR [oJ 4 1] .ret) .skip)) (oR [oJ 4 0] .ret)))))))),[(.tmp 4)],2,[]⟩
theorem eR:SC Tryz.prog 71 lF:=okF Tryz.func71
noncomputable def eK:jD:=cF [14] Tryz.f72
theorem TO:SC Tryz.prog 72 eK:=okF Tryz.func72
noncomputable def kL:jD:=cF [14] Tryz.f73
theorem GP:SC Tryz.prog 73 kL:=okF Tryz.func73
noncomputable def JQ:jD:=cF [] Tryz.f74
theorem zW:SC Tryz.prog 74 JQ:=okF Tryz.func74
noncomputable def gN:jD:=cF [3000000,77,205,227,245,271,301] Tryz.f75
theorem HR:SC Tryz.prog 75 gN:=okF Tryz.func75
def QH:C:=oR [oB 17 .lss 16 15] (.seq (oD 17 .skip (.exit 0)) (.seq (.block 1 (oR [oI 18 1 14 16,oL 19 18,oM 7 19] (.reg [oM 20 5,oM 21 7,oC 22 .gtr 21 0,oS 23 (.XA [(.bool false)] 1 [(0,(.t 22))]),oAp 24 4 1 1 20 23,oM 5 24]))) (.reg [oC 25 .add 16 1,oM 16 25])))
def OH:jD:=⟨(oR [oQ 1 1 0,oS 2 (.mv (.c (.sl true []))),oJ 3 0] (.seq (oR [oA 8 1 1,oC1 9 134 8,oM 4 9] (oR [oM 10 4,oC 11 .neq 10 0] (oD 11 (oR [oM 12 4,oS 2 (.mv (.c (.sl true []))),oM 3 12] .ret) .skip))) (oR [oS 5 (.mv (.c (.sl true [])))] (.seq (oR [oA 13 1 1,oC1 14 135 13,oH 15 14,oJ 16 0] (.block 0 (.loop QH))) (oR [oM 26 5,oM 2 26,oJ 3 0] .ret))))),[(.tmp 2),(.tmp 3)],1,[]⟩
theorem HU:SC Tryz.prog 76 OH:=okF Tryz.func76
def UF:C:=oR [oB 41 .lss 40 39] (.seq (oD 41 .skip (.exit 2)) (.seq (.block 3 (oR [oI 42 1 38 40,oL 43 42,oM 7 43] (oR [oM 44 7,oC 45 .lss 44 0,oM 46 45,oMg 47 7 46 false,oFg 48 0 1 46 false,oP 49 48 46 false,oHg 50 49 46 false,oBg 51 .geq 47 50 46 false,oPo 52 46 51] (oD 52 (oR [oJ 2 4] .ret) .skip)))) (.reg [oC 53 .add 40 1,oM 40 53])))
def GD:C:=oR [oB 17 .lss 16 15] (.seq (oD 17 .skip (.exit 0)) (.seq (.block 1 (oR [oI 18 10 14 16,oA 19 10 18,oY 5 zzb,oV 10 5 19] (.seq (oR [oA 20 10 5,oC1 21 136 20,oU 22 21,oM 23 22,oFg 24 1 5 23 false,oP 25 24 23 false,oG 26 (.bin .neq false (.t 25) (.c (.str (ByteArray.mk #[])))) 23 false,oMg 27 26 23 false,oMg 28 3 27 true,oFg 29 1 5 27 true,oP 30 29 27 true,oG 31 (.OB false .none (.bool false) (.t 28) (.t 30)) 27 true,oPb 32 27 31 23 false,oPo 33 23 32] (oD 33 (oR [oJ 2 1] .ret) .skip)) (oR [oM 34 3,oF 35 1 5,oL 36 35,oN (.SB .none (.t 34) (.t 36) (.c (.bool true)))] (.seq (oR [oA 37 10 5,oC1 38 39 37,oH 39 38,oJ 40 0] (.block 2 (.loop UF))) (oR [oF 54 0 5,oL 55 54,oC 56 .eql 55 8,oM 57 56,oFg 58 0 1 57 true,oP 59 58 57 true,oFg 60 7 5 57 true,oP 61 60 57 true,oIg 62 10 59 61 57 true,oFg 63 0 62 57 true,oP 64 63 57 true,oCi 65 .lss 64 1 57 true,oMg 66 65 57 true,oFg 67 0 1 66 false,oP 68 67 66 false,oFg 69 7 5 66 false,oP 70 69 66 false,oIg 71 10 68 70 66 false,oFg 72 0 71 66 false,oP 73 72 66 false,oCi 74 .gtr 73 4 66 false,oG 75 (.pick (.t 66) (.c (.bool true)) (.t 74)) 57 true,oPa 76 57 75] (oD 76 (oR [oJ 2 1] .ret) .skip))))))) (.reg [oC 77 .add 16 1,oM 16 77])))
def uJ:jD:=⟨(oR [oQ 1 1 0,oJ 2 0] (.seq (oR [oF 8 0 1,oL 9 8,oH 10 9,oC 11 .gtr 10 32] (oD 11 (oR [oJ 2 3] .ret) .skip)) (oR [oS 12 (.fC),oM 3 12] (.seq (oR [oF 13 0 1,oL 14 13,oH 15 14,oJ 16 0] (.block 0 (.loop GD))) (oR [oJ 2 0] .ret))))),[(.tmp 2)],1,[]⟩
theorem KX:SC Tryz.prog 77 uJ:=okF Tryz.func77
noncomputable def uO:jD:=cF [] Tryz.f78
theorem HS:SC Tryz.prog 78 uO:=okF Tryz.func78
noncomputable def KI:jD:=cF [] Tryz.f79
theorem aN:SC Tryz.prog 79 KI:=okF Tryz.func79
noncomputable def HQ:jD:=cF [] Tryz.f80
theorem lW:SC Tryz.prog 80 HQ:=okF Tryz.func80
noncomputable def mR:jD:=cF [] Tryz.f81
theorem JX:SC Tryz.prog 81 mR:=okF Tryz.func81
noncomputable def nR:jD:=cF [] Tryz.f82
theorem HX:SC Tryz.prog 82 nR:=okF Tryz.func82
noncomputable def uU:jD:=cF [] Tryz.f83
theorem Q2:SC Tryz.prog 83 uU:=okF Tryz.func83
noncomputable def UK:jD:=cF [1000000+151] Tryz.f84
theorem aP:SC Tryz.prog 84 UK:=okF Tryz.func84
noncomputable def BS:jD:=cF [] Tryz.f85
theorem KZ:SC Tryz.prog 85 BS:=okF Tryz.func85
noncomputable def CQ:jD:=cF [] Tryz.f86
theorem TW:SC Tryz.prog 86 CQ:=okF Tryz.func86
noncomputable def JM:jD:=cF [1000000+151] Tryz.f87
theorem pR:SC Tryz.prog 87 JM:=okF Tryz.func87
noncomputable def QP:jD:=cF [] Tryz.f88
theorem qV:SC Tryz.prog 88 QP:=okF Tryz.func88
noncomputable def GL:jD:=cF [1000000+20] Tryz.f89
theorem cQ:SC Tryz.prog 89 GL:=okF Tryz.func89
def qL:C:=.seq (oR [oM 4 0,oS 5 (.bin .geq false (.t 4) (.c (.int .u64 128)))] (oD 5 .skip (.exit 0))) (.block 1 (oR [oM 6 3,oM 7 0,oS 8 (.bin .rem false (.t 7) (.c (.int .u64 128))),oS 9 (.bin .add false (.t 8) (.c (.int .u64 128))),oS 10 (.conv (.some .u8) (.t 9)),oS 11 (.XA [(.int .u8 0)] 1 [(0,(.t 10))]),oAp 12 5 1 1 6 11,oM 3 12] (.reg [oM 13 0,oS 14 (.bin .quo false (.t 13) (.c (.int .u64 128))),oM 0 14])))
def XO:jD:=⟨(oR [oS 2 (.mv (.c (.str (ByteArray.mk #[]))))] (oR [oS 3 (.mv (.c (.sl true [])))] (.seq (.block 0 (.loop qL)) (oR [oM 15 3,oM 16 0,oS 17 (.conv (.some .u8) (.t 16)),oS 18 (.XA [(.int .u8 0)] 1 [(0,(.t 17))]),oAp 19 5 1 1 15 18,oS 20 (.xB .any (.t 19)),oM 2 20] .ret)))),[(.tmp 2)],1,[]⟩
theorem K5:SC Tryz.prog 93 XO:=okF Tryz.func93
def CC:jD:=⟨(oR [oQ 1 10 0,oZ 2 false] (.seq (oR [oF 3 0 1,oL 4 3,oC 5 .lss 4 1,oM 6 5,oFg 7 0 1 6 false,oP 8 7 6 false,oCi 9 .gtr 8 9 6 false,oPo 10 6 9,oM 11 10,oLg 12 10 1 11 false,oLg 13 10 1 11 false,oG 14 (.call .any 157 [(.t 13)]) 11 false,oCg 15 156 12 14 11 false,oUg 16 15 11 false,oPo 17 11 16,oM 18 17,oFg 19 0 1 18 false,oP 20 19 18 false,oG 21 (.call .any 95 [(.t 20)]) 18 false,oMg 22 21 18 false,oFg 23 1 1 22 true,oP 24 23 22 true,oG 25 (.call .any 158 [(.t 24)]) 22 true,oUg 26 25 22 true,oPb 27 22 26 18 false,oPo 28 18 27] (oD 28 (oR [oZ 2 false] .ret) .skip)) (.seq (oR [oF 29 0 1,oL 30 29] (.block 0 (oR [oC 32 .eql 30 2,oM 31 32] (oD 31 (oR [oF 33 2 1,oL 34 33,oF 35 3 1,oL 36 35,oB 37 .leq 34 36,oM 2 37] .ret) (oR [oC 39 .eql 30 3,oM 38 39] (oD 38 (oR [oF 40 4 1,oL 41 40,oC 42 .geq 41 0,oM 43 42,oFg 44 4 1 43 true,oP 45 44 43 true,oCi 46 .leq 45 200 43 true,oPa 47 43 46,oM 2 47] .ret) (oR [oC 49 .eql 30 4,oM 48 49] (oD 48 (oR [oF 50 5 1,oL 51 50,oC1 52 159 51,oM 2 52] .ret) (.seq (oR [oC 54 .eql 30 5,oM 53 54] (oD 53 .skip (.reg [oC 55 .eql 30 6,oM 53 55]))) (oD 53 (oR [oF 56 6 1,oL 57 56,oF 58 0 1,oL 59 58,oC 60 .eql 59 5,oC2 61 160 57 60,oM 2 61] .ret) (.seq (oR [oC 63 .eql 30 7,oM 62 63] (oD 62 .skip (.reg [oC 64 .eql 30 8,oM 62 64]))) (oD 62 (oR [oF 65 4 1,oL 66 65,oC 67 .geq 66 0,oM 68 67,oFg 69 4 1 68 true,oP 70 69 68 true,oCi 71 .leq 70 50 68 true,oPa 72 68 71,oM 2 72] .ret) .skip)))))))))))) (oR [oZ 2 true] .ret)))),[(.tmp 2)],1,[]⟩
theorem Z5:SC Tryz.prog 94 CC:=okF Tryz.func94
def xM:jD:=⟨(oR [oZ 2 false] (oR [oM 3 0,oC 4 .eql 3 4,oM 5 4,oMg 6 0 5 false,oCi 7 .eql 6 5 5 false,oPo 8 5 7,oM 9 8,oMg 10 0 9 false,oCi 11 .eql 10 6 9 false,oPo 12 9 11,oM 2 12] .ret)),[(.tmp 2)],1,[]⟩
theorem EZ:SC Tryz.prog 95 xM:=okF Tryz.func95
def dK:jD:=⟨(oR [oZ 2 false] (oR [oM 3 0,oC 4 .geq 3 1,oM 5 4,oMg 6 0 5 true,oCi 7 .leq 6 4 5 true,oPa 8 5 7,oM 2 8] .ret)),[(.tmp 2)],1,[]⟩
theorem cW:SC Tryz.prog 96 dK:=okF Tryz.func96
def cM:jD:=⟨(oR [oQ 3 1 0,oQ 5 8 2,oZ 6 false] (oR [oA 7 1 3,oM 8 1,oA 9 8 5,oS 10 (.call .any 161 [(.t 7),(.t 8),(.t 9),(.c (.bool true))]),oM 6 10] .ret)),[(.tmp 6)],3,[]⟩
theorem IZ:SC Tryz.prog 97 cM:=okF Tryz.func97
def aL:C:=.seq (oR [oM 18 5,oF 19 0 1,oL 20 19,oH 21 20,oB 22 .lss 18 21] (oD 22 .skip (.exit 2))) (.seq (.block 3 (.reg [oM 25 3,oM 26 5,oF 27 0 1,oL 28 27,oM 29 5,oI 30 10 28 29,oA 31 10 30,oM 32 3,oC2 33 162 31 32,oI 34 1 25 26,oW 34 33])) (.reg [oM 23 5,oC 24 .add 23 1,oM 5 24]))
def sL:C:=.seq (oR [oM 10 4,oF 11 0 1,oL 12 11,oH 13 12,oS 14 (.bin .mul false (.c (.int .i64 2)) (.t 13)),oB 15 .leq 10 14] (oD 15 .skip (.exit 0))) (.seq (.block 1 (oR [oJ 5 0] (.block 2 (.loop aL)))) (.reg [oM 16 4,oC 17 .add 16 1,oM 4 17]))
def pL:jD:=⟨(oR [oQ 1 1 0,oS 2 (.mv (.c (.sl true [])))] (oR [oF 6 0 1,oL 7 6,oH 8 7,oS 9 (.wC 1 8 [(.int .i64 0)] (.t 8) (.t 8)),oM 3 9] (.seq (oR [oJ 4 0] (.block 0 (.loop sL))) (oR [oM 35 3,oM 2 35] .ret)))),[(.tmp 2)],1,[]⟩
theorem OX:SC Tryz.prog 98 pL:=okF Tryz.func98
def iH:jD:=⟨(oR [oQ 2 1 0,oJ 4 0] (.seq (oR [oA 6 1 2,oC1 7 134 6,oM 5 7] (oR [oM 8 5,oC 9 .neq 8 0] (oD 9 (oR [oM 10 5,oM 4 10] .ret) .skip))) (.seq (oR [oM 11 1,oC 12 .lss 11 0,oM 13 12,oMg 14 1 13 false,oFg 15 0 2 13 false,oP 16 15 13 false,oHg 17 16 13 false,oBg 18 .geq 14 17 13 false,oPo 19 13 18] (oD 19 (oR [oJ 4 4] .ret) .skip)) (oR [oJ 4 0] .ret)))),[(.tmp 4)],2,[]⟩
theorem dW:SC Tryz.prog 99 iH:=okF Tryz.func99
def DG:C:=oR [oB 21 .lss 20 19] (.seq (oD 21 .skip (.exit 2)) (.seq (.block 3 (oR [oM 22 20,oI 23 10 18 20,oA 24 10 23,oY 5 zzb,oM 4 22,oV 10 5 24] (oR [oA 25 1 1,oM 26 4,oA 27 10 5,oM 28 3,oC4 29 163 25 26 27 28,oY 6 zzg,oV 11 6 29] (oR [oA 30 11 6,oM 31 3,oM 32 4,oI 33 11 31 32,oA 34 11 33,oC2 35 164 30 34] (oD 35 (.reg [oM 36 3,oM 37 4,oA 38 11 6,oI 39 11 36 37,oV 11 39 38]) .skip))))) (.reg [oC 40 .add 20 1,oM 20 40])))
def mK:C:=oR [oB 16 .lss 15 14] (.seq (oD 16 .skip (.exit 0)) (.seq (.block 1 (oR [oF 17 0 1,oL 18 17,oH 19 18,oJ 20 0] (.block 2 (.loop DG)))) (.reg [oC 41 .add 15 1,oM 15 41])))
def aK:jD:=⟨(oR [oQ 1 1 0,oS 2 (.mv (.c (.sl true [])))] (oR [oF 7 0 1,oL 8 7,oH 9 8,oS 10 (.wC 11 144 zzg (.t 9) (.t 9)),oM 3 10] (.seq (oR [oF 11 0 1,oL 12 11,oH 13 12,oC 14 .add 13 2,oJ 15 0] (.block 0 (.loop mK))) (oR [oM 42 3,oM 2 42] .ret)))),[(.tmp 2)],1,[]⟩
theorem fW:SC Tryz.prog 100 aK:=okF Tryz.func100
def qG:C:=oR [oB 38 .lss 37 36] (.seq (oD 38 .skip (.exit 2)) (.seq (.block 3 (oR [oM 39 37,oM 4 39] (.reg [oF 40 6 1,oLr 41 1 1 40,oM 42 4,oF 43 6 1,oLr 44 1 1 43,oM 45 4,oI 46 8 44 45,oA 47 8 46,oC1 48 101 47,oI 49 8 41 42,oV 8 49 48]))) (.reg [oC 50 .add 37 1,oM 37 50])))
def SG:C:=oR [oB 21 .lss 20 19] (.seq (oD 21 .skip (.exit 0)) (.seq (.block 1 (oR [oM 22 20,oM 3 22] (.reg [oF 23 5 1,oLr 24 1 1 23,oM 25 3,oF 26 5 1,oLr 27 1 1 26,oM 28 3,oI 29 8 27 28,oA 30 8 29,oC1 31 101 30,oI 32 8 24 25,oV 8 32 31]))) (.reg [oC 33 .add 20 1,oM 20 33])))
def sF:jD:=⟨(oR [oQ 1 8 0,oY 2 zza] (oR [oF 5 5 1,oLr 6 1 1 5,oS 7 (.QB .any 39 8 120 (.c (.sl true [])) (.t 6)),oF 8 6 1,oLr 9 1 1 8,oS 10 (.QB .any 39 8 120 (.c (.sl true [])) (.t 9)),oF 11 7 1,oLr 12 1 1 11,oS 13 (.app .any 132 2 24 (.c (.sl true [])) (.t 12)),oF 14 5 1,oN (.store (.root 1) false 1 (.t 14) (.t 7)),oF 15 6 1,oN (.store (.root 1) false 1 (.t 15) (.t 10)),oF 16 7 1,oN (.store (.root 1) false 1 (.t 16) (.t 13))] (.seq (oR [oF 17 5 1,oL 18 17,oH 19 18,oJ 20 0] (.block 0 (.loop SG))) (.seq (oR [oF 34 6 1,oL 35 34,oH 36 35,oJ 37 0] (.block 2 (.loop qG))) (oR [oA 51 8 1,oV 8 2 51] .ret))))),[(.cell 2 true 8)],1,[14,20]⟩
theorem aW:SC Tryz.prog 101 sF:=okF Tryz.func101
def aG:jD:=⟨(oR [oJ 4 0] (oR [oM 7 0,oC1 8 165 7,oM 5 8] (oR [oM 9 1,oC1 10 165 9,oM 6 10] (.seq (oR [oM 11 5] (oD 11 (.seq (oR [oM 12 6] (oD 12 (oR [oJ 4 0] .ret) .skip)) (oR [oJ 4 (-1)] .ret)) .skip)) (.seq (oR [oM 13 6] (oD 13 (oR [oJ 4 1] .ret) .skip)) (.seq (oR [oM 14 0,oM 15 1,oB 16 .lss 14 15] (oD 16 (oR [oJ 4 (-1)] .ret) .skip)) (.seq (oR [oM 17 0,oM 18 1,oB 19 .gtr 17 18] (oD 19 (oR [oJ 4 1] .ret) .skip)) (oR [oJ 4 0] .ret)))))))),[(.tmp 4)],2,[]⟩
theorem rR:SC Tryz.prog 102 aG:=okF Tryz.func102
def xI:jD:=⟨(oR [oS 2 (.mv (.c (.int .u64 0)))] (oR [oM 3 0,oS 4 (.conv (.some .u64) (.t 3)),oS 5 (.bin .shl false (.t 4) (.c (.int .u64 1))),oM 6 0,oS 7 (.bin .shr false (.t 6) (.c (.int .u64 63))),oS 8 (.conv (.some .u64) (.t 7)),oB 9 .xor 5 8,oM 2 9] .ret)),[(.tmp 2)],1,[]⟩
theorem SW:SC Tryz.prog 103 xI:=okF Tryz.func103
def AE:jD:=⟨(oR [oQ 1 8 0,oZ 2 false] (oR [oA 4 8 1,oC1 5 167 4,oY 3 zza,oV 8 3 5] (oR [oF 6 1 1,oL 7 6,oF 8 1 3,oL 9 8,oS 10 (.bin .eql true (.t 7) (.t 9)),oM 11 10,oFg 12 2 1 11 true,oP 13 12 11 true,oFg 14 2 3 11 true,oP 15 14 11 true,oBg 16 .eql 13 15 11 true,oPa 17 11 16,oM 18 17,oFg 19 3 1 18 true,oP 20 19 18 true,oFg 21 3 3 18 true,oP 22 21 18 true,oBg 23 .eql 20 22 18 true,oPa 24 18 23,oM 25 24,oFg 26 4 1 25 true,oP 27 26 25 true,oFg 28 4 3 25 true,oP 29 28 25 true,oBg 30 .eql 27 29 25 true,oPa 31 25 30,oM 32 31,oFg 33 5 1 32 true,oP 34 33 32 true,oHg 35 34 32 true,oFg 36 5 3 32 true,oP 37 36 32 true,oHg 38 37 32 true,oBg 39 .eql 35 38 32 true,oPa 40 32 39,oM 41 40,oFg 42 6 1 41 true,oP 43 42 41 true,oHg 44 43 41 true,oFg 45 6 3 41 true,oP 46 45 41 true,oHg 47 46 41 true,oBg 48 .eql 44 47 41 true,oPa 49 41 48,oM 50 49,oFg 51 7 1 50 true,oP 52 51 50 true,oHg 53 52 50 true,oFg 54 7 3 50 true,oP 55 54 50 true,oHg 56 55 50 true,oBg 57 .eql 53 56 50 true,oPa 58 50 57,oM 2 58] .ret))),[(.tmp 2)],1,[]⟩
theorem CX:SC Tryz.prog 106 AE:=okF Tryz.func106
def xK:jD:=⟨(oR [oQ 2 10 0,oQ 3 1 1,oJ 4 0,oZ 5 false] (oR [oF 7 5 2,oL 8 7,oS 9 (.jC 169 [(.t 3)]),oC2 10 168 8 9,oM 6 10] (oR [oM 11 6,oS 12 (.mm true (.t 11) (.c (.int .i64 0))),oM 13 6,oC 14 .geq 13 0,oM 4 12,oM 5 14] .ret))),[(.tmp 4),(.tmp 5)],2,[]⟩
theorem OW:SC Tryz.prog 107 xK:=okF Tryz.func107
noncomputable def iU:jD:=cF [] Tryz.f108
theorem O2:SC Tryz.prog 108 iU:=okF Tryz.func108
def zK:jD:=⟨(oR [oQ 2 10 0,oQ 3 1 1,oJ 4 0,oZ 5 false] (oR [oF 7 6 2,oL 8 7,oS 9 (.jC 171 [(.t 3)]),oC2 10 170 8 9,oM 6 10] (oR [oM 11 6,oS 12 (.mm true (.t 11) (.c (.int .i64 0))),oM 13 6,oC 14 .geq 13 0,oM 4 12,oM 5 14] .ret))),[(.tmp 4),(.tmp 5)],2,[]⟩
theorem IW:SC Tryz.prog 109 zK:=okF Tryz.func109
def IJ:jD:=⟨(oR [oQ 4 1 0,oQ 5 1 1,oQ 7 1 3,oZ 8 false] (oR [oM 9 2,oS 10 (.jC 173 [(.t 4),(.t 5),(.t 7)]),oC2 11 172 9 10,oU 12 11,oM 8 12] .ret)),[(.tmp 8)],4,[]⟩
theorem U2:SC Tryz.prog 110 IJ:=okF Tryz.func110
noncomputable def wK:jD:=cF [] Tryz.f111
theorem RO:SC Tryz.prog 111 wK:=okF Tryz.func111
def PE:C:=oR [oC 33 .lss 32 256] (.seq (oD 33 .skip (.exit 4)) (.seq (.block 5 (oR [oM 34 32,oM 12 34] (oR [oM 35 11,oM 36 12,oS 37 (.conv (.some .u8) (.t 36)),oS 38 (.XA [(.int .u8 0)] 1 [(0,(.t 37))]),oS 39 (.xB .any (.t 38)),oB 40 .add 35 39,oM 13 40] (oR [oM 41 0,oM 42 7,oM 43 13,oF 44 0 4,oL 45 44,oM 46 13,oS 47 (.build zza [(0,(1,(.t 45))),(3,(1,(.t 46)))]),oS 48 (.build zzd [(0,(1,(.t 43))),(1,(8,(.t 47)))]),oS 49 (.lA 63 (.c (.fn 113 [])) [(.t 41),(.t 42),(.t 48)]),oM 7 49] (.reg [oM 50 9,oM 51 13,oS 52 (.XA [(.str (ByteArray.mk #[]))] 1 [(0,(.t 51))]),oAp 53 9 1 16 50 52,oM 9 53]))))) (.reg [oC 54 .add 32 1,oM 32 54])))
def TF:C:=oR [oB 29 .lss 28 27] (.seq (oD 29 .skip (.exit 2)) (.seq (.block 3 (oR [oI 30 1 26 28,oL 31 30,oM 11 31] (.seq (oR [oJ 32 0] (.block 4 (.loop PE))) (oR [oM 55 0,oK 56 55,oF 57 2 56,oL 58 57] (oD 58 (oR [oS 6 (.mv (.c (.sl true [])))] .ret) .skip))))) (.reg [oC 59 .add 28 1,oM 28 59])))
def ZG:C:=oR [oB 25 .lss 24 23] (.seq (oD 25 .skip (.exit 0)) (.seq (.block 1 (oR [oS 9 (.mv (.c (.sl true [])))] (.seq (oR [oM 26 8,oH 27 26,oJ 28 0] (.block 2 (.loop TF))) (.reg [oM 60 9,oM 8 60])))) (.reg [oC 61 .add 24 1,oM 24 61])))
def zG:jD:=⟨(oR [oQ 4 10 1,oS 6 (.mv (.c (.sl true [])))] (oR [oF 14 0 4,oL 15 14,oS 16 (.build zza [(0,(1,(.t 15)))]),oS 17 (.build zzd [(0,(1,(.c (.str (ByteArray.mk #[]))))),(1,(8,(.t 16)))]),oS 18 (.AB 9 zzd 1 [(0,(.t 17))]),oM 7 18] (oR [oS 19 (.XA [(.str (ByteArray.mk #[]))] 1 [(0,(.c (.str (ByteArray.mk #[]))))]),oM 8 19] (.seq (oR [oM 20 2,oF 21 4 4,oL 22 21,oS 23 (.mm false (.t 20) (.t 22)),oJ 24 0] (.block 0 (.loop ZG))) (oR [oM 62 7,oM 6 62] .ret))))),[(.tmp 6)],3,[5000000,36,1000000+113]⟩
theorem dP:SC Tryz.prog 112 zG:=okF Tryz.func112
def xE:jD:=⟨(oR [oQ 5 9 2,oS 6 (.mv (.c (.sl true [])))] (.seq (oR [oM 7 1,oH 8 7,oC 9 .geq 8 3000] (oD 9 (oR [oM 10 0,oK 11 10,oF 12 2 11,oN (.store .any false 1 (.t 12) (.c (.bool true)))] (oR [oM 13 1,oM 6 13] .ret)) .skip)) (oR [oM 14 1,oA 15 9 5,oS 16 (.XA zzd 1 [(0,(.t 15))]),oS 17 (.qB .any 83 9 136 (.t 14) (.t 16)),oM 6 17] .ret))),[(.tmp 6)],3,[5000000,35]⟩
theorem JR:SC Tryz.prog 113 xE:=okF Tryz.func113
noncomputable def IK:jD:=cF [] Tryz.f114
theorem sP:SC Tryz.prog 114 IK:=okF Tryz.func114
noncomputable def HL:jD:=cF [] Tryz.f115
theorem bQ:SC Tryz.prog 115 HL:=okF Tryz.func115
noncomputable def LL:jD:=cF [] Tryz.f116
theorem mQ:SC Tryz.prog 116 LL:=okF Tryz.func116
noncomputable def KM:jD:=cF [] Tryz.f117
theorem aR:SC Tryz.prog 117 KM:=okF Tryz.func117
noncomputable def EG:jD:=cF [1000000+180] Tryz.f118
theorem SJ:SC Tryz.prog 118 EG:=okF Tryz.func118
def nJ:jD:=⟨(oR [oQ 2 1 0,oJ 4 0] (.seq (oR [oA 6 1 2,oC1 7 77 6,oM 5 7] (oR [oM 8 5,oC 9 .neq 8 0] (oD 9 (oR [oM 10 5,oM 4 10] .ret) .skip))) (.seq (oR [oM 11 1,oC 12 .lss 11 0,oM 13 12,oMg 14 1 13 false,oFg 15 0 2 13 false,oP 16 15 13 false,oHg 17 16 13 false,oBg 18 .geq 14 17 13 false,oPo 19 13 18] (oD 19 (oR [oJ 4 4] .ret) .skip)) (oR [oJ 4 0] .ret)))),[(.tmp 4)],2,[]⟩
theorem FU:SC Tryz.prog 119 nJ:=okF Tryz.func119
def QN:jD:=⟨(oR [oQ 3 1 0,oQ 5 8 2,oZ 6 false] (oR [oA 7 1 3,oM 8 1,oA 9 8 5,oS 10 (.call .any 63 [(.t 7),(.t 8),(.t 9),(.c (.bool false))]),oM 6 10] .ret)),[(.tmp 6)],3,[]⟩
theorem E2:SC Tryz.prog 120 QN:=okF Tryz.func120
def tN:C:=.seq (oR [oM 5 0,oS 6 (.bin .gtr false (.t 5) (.c (.int .u64 0)))] (oD 6 .skip (.exit 0))) (.seq (.block 1 (oR [oM 9 4,oC 10 .sub 9 1,oM 4 10] (.reg [oM 11 4,oM 12 0,oS 13 (.conv (.some .u8) (.t 12)),oS 14 (.pB 8 1 (.t 3) (.t 11)),oW 14 13]))) (.reg [oM 7 0,oS 8 (.bin .shr false (.t 7) (.c (.int .u64 8))),oM 0 8]))
def WN:jD:=⟨(oR [oS 2 (.mv (.c (.str (ByteArray.mk #[]))))] (oR [oY 3 zzi] (oR [oJ 4 8] (.seq (.block 0 (.loop tN)) (oR [oM 15 4,oS 16 (.PB .any 8 1 (.t 3) (.some (.t 15)) .none),oS 17 (.xB .any (.t 16)),oM 2 17] .ret))))),[(.tmp 2)],1,[]⟩
theorem P2:SC Tryz.prog 121 WN:=okF Tryz.func121
def LE:C:=oR [oB 80 .lss 79 78] (.seq (oD 80 .skip (.exit 4)) (.seq (.block 5 (oR [oI 81 2 77 79,oA 82 2 81,oY 16 zzh,oV 2 16 82] (.reg [oF 83 1 16,oL 84 83,oC2 85 124 14 84]))) (.reg [oC 86 .add 79 1,oM 79 86])))
def GJ:C:=oR [oB 60 .lss 59 58] (.seq (oD 60 .skip (.exit 2)) (.seq (.block 3 (oR [oI 61 2 57 59,oA 62 2 61,oY 13 zzh,oV 2 13 62] (.reg [oM 63 9,oF 64 0 13,oLr 65 13 1 64,oF 66 0 13,oLr 67 13 1 66,oF 68 1 13,oLr 69 13 1 68,oS 70 (.call .any 189 [(.t 67),(.c (.bool false)),(.t 69)]),oS 71 (.build zzh [(0,(1,(.t 65))),(1,(1,(.t 70)))]),oS 72 (.XA zzh 1 [(0,(.t 71))]),oS 73 (.sB .any 228 2 24 (.t 63) (.t 72)),oM 9 73]))) (.reg [oC 74 .add 59 1,oM 59 74])))
def iE:C:=oR [oB 21 .lss 20 19] (.seq (oD 21 .skip (.exit 0)) (.seq (.block 1 (oR [oM 22 20,oI 23 13 18 20,oA 24 13 23,oY 11 zze,oM 10 22,oV 13 11 24] (oR [oS 25 (.load (.root 11) true 13 (.t 11)),oF 26 6 6,oLr 27 6 1 26,oM 28 10,oI 29 8 27 28,oA 30 8 29,oC2 31 188 25 30,oU 32 31] (oD 32 (.reg [oM 33 9,oF 34 0 11,oLr 35 11 1 34,oF 36 0 11,oLr 37 11 1 36,oF 38 3 11,oLr 39 11 1 38,oM 40 0,oF 41 2 11,oLr 42 11 1 41,oF 43 6 6,oLr 44 6 1 43,oM 45 10,oI 46 8 44 45,oA 47 8 46,oM 48 3,oC 49 .add 48 1,oS 50 (.dA (.root 0) 68 [(.t 40),(.t 42),(.t 47),(.t 49)]),oS 51 (.call .any 189 [(.t 37),(.t 39),(.t 50)]),oS 52 (.build zzh [(0,(1,(.t 35))),(1,(1,(.t 51)))]),oS 53 (.XA zzh 1 [(0,(.t 52))]),oS 54 (.sB .any 228 2 24 (.t 33) (.t 53)),oM 9 54]) .skip)))) (.reg [oC 55 .add 20 1,oM 20 55])))
def UG:jD:=⟨(oR [oQ 5 10 1,oQ 6 8 2,oS 8 (.mv (.c (.str (ByteArray.mk #[]))))] (oR [oS 9 (.mv (.c (.sl true [])))] (.seq (oR [oF 17 6 5,oL 18 17,oH 19 18,oJ 20 0] (.block 0 (.loop iE))) (.seq (oR [oF 56 7 6,oL 57 56,oH 58 57,oJ 59 0] (.block 2 (.loop GJ))) (oR [oM 75 9,oS 76 (.lA 88 (.c (.fn 190 [])) [(.t 75),(.c (.fn 191 []))])] (oR [oS 14 (.bC 168 5)] (.seq (oR [oM 77 9,oH 78 77,oJ 79 0] (.block 4 (.loop LE))) (oR [oC1 87 126 14,oM 8 87] .ret)))))))),[(.tmp 8)],4,[3000000,28,109,147,101,1000000+190]⟩
theorem PP:SC Tryz.prog 122 UG:=okF Tryz.func122
def NG:jD:=⟨(oR [oQ 5 10 1,oQ 6 8 2,oS 8 (.mv (.c (.str (ByteArray.mk #[]))))] (oR [oF 12 4 6,oL 13 12,oS 14 (.conv (.some .u64) (.t 13)),oC1 15 192 14,oM 9 15] (oR [oA 17 10 5,oF 18 4 6,oL 19 18,oC2 20 109 17 19,oM 16 20,oX 21 16 0,oX 22 16 1,oM 10 21,oM 11 22] (.seq (oR [oM 23 11,oU 24 23] (oD 24 (oR [oM 25 9,oF 26 7 6,oL 27 26,oS 28 (.nA 2 (.t 27) (.c (.int .i64 0))),oF 29 1 28,oL 30 29,oB 31 .add 25 30,oM 8 31] .ret) .skip)) (oR [oM 32 9,oM 33 0,oF 34 6 5,oLr 35 5 1 34,oM 36 10,oI 37 13 35 36,oF 38 2 37,oL 39 38,oF 40 6 6,oLr 41 6 1 40,oS 42 (.nA 8 (.t 41) (.c (.int .i64 0))),oA 43 8 42,oM 44 3,oC 45 .add 44 1,oS 46 (.dA (.root 0) 68 [(.t 33),(.t 39),(.t 43),(.t 45)]),oB 47 .add 32 46,oM 8 47] .ret))))),[(.tmp 8)],4,[3000000,93]⟩
theorem kQ:SC Tryz.prog 123 NG:=okF Tryz.func123
def MK:jD:=⟨(oR [oS 2 (.mv (.c (.str (ByteArray.mk #[]))))] (oR [oM 3 0,oS 4 (.len true (.t 3)),oS 5 (.conv (.some .u64) (.t 4)),oC1 6 192 5,oM 7 0,oB 8 .add 6 7,oM 2 8] .ret)),[(.tmp 2)],1,[]⟩
theorem mX:SC Tryz.prog 125 MK:=okF Tryz.func125
def iK:jD:=⟨(oR [oZ 2 false] (oR [oM 3 0,oM 4 0,oB 5 .neq 3 4,oM 2 5] .ret)),[(.tmp 2)],1,[]⟩
theorem tW:SC Tryz.prog 127 iK:=okF Tryz.func127
def rI:jD:=⟨(oR [oZ 2 false] (oR [oM 3 0,oM 4 0,oB 5 .neq 3 4,oM 2 5] .ret)),[(.tmp 2)],1,[]⟩
theorem IS:SC Tryz.prog 128 rI:=okF Tryz.func128
noncomputable def mP:jD:=cF [] Tryz.f129
theorem CU:SC Tryz.prog 129 mP:=okF Tryz.func129
noncomputable def dN:jD:=cF [3000000] Tryz.f130
theorem DR:SC Tryz.prog 130 dN:=okF Tryz.func130
noncomputable def DL:jD:=cF [] Tryz.f131
theorem zQ:SC Tryz.prog 131 DL:=okF Tryz.func131
noncomputable def GM:jD:=cF [] Tryz.f132
theorem iR:SC Tryz.prog 132 GM:=okF Tryz.func132
noncomputable def FM:jD:=cF [3000000,57] Tryz.f133
theorem uR:SC Tryz.prog 133 FM:=okF Tryz.func133
def kI:jD:=⟨(oR [oQ 1 1 0,oJ 2 0] (.seq (oR [oA 7 1 1,oC1 8 77 7,oM 3 8] (oR [oM 9 3,oC 10 .neq 9 0] (oD 10 (oR [oM 11 3,oM 2 11] .ret) .skip))) (oR [oA 13 1 1,oC1 14 200 13,oM 12 14,oX 15 12 0,oX 16 12 1,oX 17 12 2,oM 4 15,oM 5 16,oM 6 17] (oR [oM 18 6,oM 2 18] .ret)))),[(.tmp 2)],1,[]⟩
theorem gW:SC Tryz.prog 134 kI:=okF Tryz.func134
def QG:C:=oR [oB 17 .lss 16 15] (.seq (oD 17 .skip (.exit 2)) (.seq (.block 3 (oR [oM 18 16,oI 19 10 14 16,oA 20 10 19,oY 6 zzb,oM 5 18,oV 10 6 20] (oR [oA 21 10 6,oM 22 3,oC2 23 201 21 22,oS 24 (.mm false (.c (.int .i64 2)) (.t 23)),oM 7 24] (oR [oM 25 7,oM 26 3,oM 27 5,oI 28 1 26 27,oL 29 28,oB 30 .neq 25 29] (oD 30 (.reg [oM 31 3,oM 32 5,oM 33 7,oI 34 1 31 32,oW 34 33,oZ 4 true]) .skip))))) (.reg [oC 35 .add 16 1,oM 16 35])))
def HJ:C:=.seq (oR [oM 12 4] (oD 12 .skip (.exit 0))) (.block 1 (oR [oZ 4 false] (oR [oF 13 0 1,oL 14 13,oH 15 14,oJ 16 0] (.block 2 (.loop QG)))))
def mJ:jD:=⟨(oR [oQ 1 1 0,oS 2 (.mv (.c (.sl true [])))] (oR [oF 8 0 1,oL 9 8,oH 10 9,oS 11 (.wC 1 8 [(.int .i64 0)] (.t 10) (.t 10)),oM 3 11] (.seq (oR [oZ 4 true] (.block 0 (.loop HJ))) (oR [oM 36 3,oM 2 36] .ret)))),[(.tmp 2)],1,[]⟩
theorem KU:SC Tryz.prog 135 mJ:=okF Tryz.func135
def FC:jD:=⟨(oR [oQ 1 10 0,oZ 2 false] (oR [oA 5 10 1,oY 3 zzb,oV 10 3 5] (oR [oF 6 0 3,oN (.store .any false 1 (.t 6) (.c (.int .i64 0)))] (oR [oZ 4 true] (.seq (oR [oF 7 0 1,oL 8 7] (.block 0 (oR [oC 10 .eql 8 1,oM 9 10] (oD 9 .skip (oR [oC 12 .eql 8 2,oM 11 12] (oD 11 (oR [oF 13 2 1,oL 14 13,oF 15 3 1,oL 16 15,oB 17 .leq 14 16,oM 4 17] (.reg [oF 18 2 3,oN (.store .any false 1 (.t 18) (.c (.int .i64 0))),oF 19 3 3,oN (.store .any false 1 (.t 19) (.c (.int .i64 0)))])) (oR [oC 21 .eql 8 3,oM 20 21] (oD 20 (oR [oF 22 4 1,oL 23 22,oC 24 .geq 23 0,oM 25 24,oFg 26 4 1 25 true,oP 27 26 25 true,oCi 28 .leq 27 200 25 true,oPa 29 25 28,oM 4 29] (.reg [oF 30 4 3,oN (.store .any false 1 (.t 30) (.c (.int .i64 0)))])) (oR [oC 32 .eql 8 4,oM 31 32] (oD 31 (oR [oF 33 1 1,oL 34 33,oC1 35 202 34,oM 36 35,oFg 37 5 1 36 true,oP 38 37 36 true,oG 39 (.call .any 203 [(.t 38)]) 36 true,oPa 40 36 39,oM 4 40] (.reg [oF 41 1 3,oN (.store .any false 1 (.t 41) (.c (.str (ByteArray.mk #[])))),oF 42 5 3,oN (.store .any false 1 (.t 42) (.c (.sl true []))),oF 43 9 3,oN (.store .any false 1 (.t 43) (.c (.bool false)))])) (.seq (oR [oC 45 .eql 8 5,oM 44 45] (oD 44 .skip (.reg [oC 46 .eql 8 6,oM 44 46]))) (oD 44 (oR [oF 47 1 1,oL 48 47,oC1 49 202 48,oM 50 49,oLg 51 10 1 50 true,oG 52 (.call .any 204 [(.t 51)]) 50 true,oPa 53 50 52,oM 4 53] (oR [oF 54 1 3,oN (.store .any false 1 (.t 54) (.c (.str (ByteArray.mk #[])))),oF 55 6 3,oN (.store .any false 1 (.t 55) (.c (.sl true [])))] (.reg [oF 56 9 1,oL 57 56,oM 58 57,oFg 59 0 1 58 true,oP 60 59 58 true,oCi 61 .eql 60 5 58 true,oPa 62 58 61,oF 63 9 3,oW 63 62]))) (.seq (oR [oC 65 .eql 8 7,oM 64 65] (oD 64 .skip (.reg [oC 66 .eql 8 8,oM 64 66]))) (oD 64 (oR [oF 67 4 1,oL 68 67,oC 69 .geq 68 0,oM 70 69,oFg 71 4 1 70 true,oP 72 71 70 true,oCi 73 .leq 72 50 70 true,oPa 74 70 73,oM 4 74] (oR [oF 75 4 3,oN (.store .any false 1 (.t 75) (.c (.int .i64 0))),oF 76 8 3,oN (.store .any false 1 (.t 76) (.c (.int .i64 0)))] (oR [oF 77 0 1,oL 78 77,oC 79 .eql 78 8] (oD 79 (.reg [oF 80 7 3,oN (.store .any false 1 (.t 80) (.c (.int .i64 0)))]) .skip)))) (oR [oC 82 .eql 8 9,oM 81 82] (oD 81 (.reg [oF 83 8 3,oN (.store .any false 1 (.t 83) (.c (.int .i64 0)))]) (oR [oZ 2 false] .ret))))))))))))))))) (oR [oM 84 4,oM 85 84,oLg 86 10 3 85 true,oG 87 (.build zzb []) 85 true,oCg 88 205 86 87 85 true,oPa 89 85 88,oM 2 89] .ret)))))),[(.tmp 2)],1,[]⟩
theorem XZ:SC Tryz.prog 136 FC:=okF Tryz.func136
noncomputable def wH:jD:=cF [] Tryz.f137
theorem RK:SC Tryz.prog 137 wH:=okF Tryz.func137
noncomputable def zI:jD:=cF [] Tryz.f138
theorem MM:SC Tryz.prog 138 zI:=okF Tryz.func138
noncomputable def lR:jD:=cF [] Tryz.f143
theorem cX:SC Tryz.prog 143 lR:=okF Tryz.func143
noncomputable def FO:jD:=cF [] Tryz.f146
theorem TT:SC Tryz.prog 146 FO:=okF Tryz.func146
noncomputable def GO:jD:=cF [] Tryz.f147
theorem UT:SC Tryz.prog 147 GO:=okF Tryz.func147
noncomputable def MS:jD:=cF [] Tryz.f148
theorem ZZ:SC Tryz.prog 148 MS:=okF Tryz.func148
noncomputable def JO:jD:=cF [] Tryz.f149
theorem IT:SC Tryz.prog 149 JO:=okF Tryz.func149
noncomputable def XL:jD:=cF [] Tryz.f150
theorem WQ:SC Tryz.prog 150 XL:=okF Tryz.func150
noncomputable def gL:jD:=cF [1000000+20] Tryz.f151
theorem DP:SC Tryz.prog 151 gL:=okF Tryz.func151
noncomputable def CS:jD:=cF [] Tryz.f152
theorem HZ:SC Tryz.prog 152 CS:=okF Tryz.func152
noncomputable def XQ:jD:=cF [] Tryz.f153
theorem RW:SC Tryz.prog 153 XQ:=okF Tryz.func153
def LG:C:=.seq (oR [oM 202 19,oF 203 7 5,oL 204 203,oH 205 204,oB 206 .lss 202 205] (oD 206 .skip (.exit 7))) (.seq (.block 8 (oR [oF 209 7 5,oL 210 209,oM 211 19,oI 212 2 210 211,oF 213 0 212,oL 214 213,oM 215 15,oB 216 .eql 214 215] (oD 216 (.reg [oM 217 14,oM 218 15,oF 219 7 5,oL 220 219,oM 221 19,oI 222 2 220 221,oF 223 1 222,oL 224 223,oS 225 (.call .any 216 [(.t 218),(.c (.bool false)),(.t 224)]),oB 226 .add 217 225,oM 14 226]) .skip))) (.reg [oM 207 19,oC 208 .add 207 1,oM 19 208]))
def gF:C:=.seq (oR [oM 157 15,oC 158 .leq 157 1000] (oD 158 .skip (.exit 5))) (.seq (.block 6 (.seq (oR [oA 162 10 7,oM 163 15,oC2 164 214 162 163,oM 161 164,oX 165 161 0,oX 166 161 1,oM 16 165,oM 17 166] (oR [oM 167 17] (oD 167 (oR [oF 168 6 7,oL 169 168,oM 170 16,oI 171 13 169 170,oA 172 13 171,oY 18 zze,oV 13 18 172] (oR [oF 173 4 18,oL 174 173,oU 175 174,oM 176 175,oFg 177 6 5 176 false,oP 178 177 176 false,oMg 179 16 176 false,oIg 180 8 178 179 176 false,oLg 181 8 180 176 false,oFg 182 5 18 176 false,oLg 183 8 182 176 false,oCg 184 36 181 183 176 false,oUg 185 184 176 false,oPo 186 176 185] (oD 186 (.reg [oM 187 14,oM 188 15,oF 189 3 18,oL 190 189,oA 191 1 3,oF 192 2 18,oL 193 192,oF 194 6 5,oL 195 194,oM 196 16,oI 197 8 195 196,oA 198 8 197,oS 199 (.call .any 155 [(.t 191),(.t 193),(.t 198)]),oS 200 (.call .any 216 [(.t 188),(.t 190),(.t 199)]),oB 201 .add 187 200,oM 14 201]) .skip))) .skip))) (oR [oJ 19 0] (.block 7 (.loop LG))))) (.reg [oM 159 15,oC 160 .add 159 1,oM 15 160]))
def QK:C:=.seq (oR [oM 126 13,oF 127 6 5,oL 128 127,oH 129 128,oB 130 .lss 126 129] (oD 130 .skip (.exit 3))) (.seq (.block 4 (.reg [oM 133 12,oA 134 1 3,oF 135 7 7,oL 136 135,oF 137 5 5,oL 138 137,oM 139 13,oI 140 8 138 139,oA 141 8 140,oS 142 (.call .any 155 [(.t 134),(.t 136),(.t 141)]),oC1 143 215 142,oB 144 .add 133 143,oA 145 1 3,oF 146 8 7,oL 147 146,oF 148 6 5,oL 149 148,oM 150 13,oI 151 8 149 150,oA 152 8 151,oS 153 (.call .any 155 [(.t 145),(.t 147),(.t 152)]),oC1 154 215 153,oB 155 .add 144 154,oM 12 155])) (.reg [oM 131 13,oC 132 .add 131 1,oM 13 132]))
def WK:C:=.seq (oR [oM 104 11,oF 105 6 5,oL 106 105,oH 107 106,oB 108 .lss 104 107] (oD 108 .skip (.exit 1))) (.seq (.block 2 (.reg [oM 111 10,oA 112 1 3,oF 113 8 7,oL 114 113,oF 115 6 5,oL 116 115,oM 117 11,oI 118 8 116 117,oA 119 8 118,oS 120 (.call .any 155 [(.t 112),(.t 114),(.t 119)]),oC1 121 215 120,oB 122 .add 111 121,oM 10 122])) (.reg [oM 109 11,oC 110 .add 109 1,oM 11 110]))
def rD:jD:=⟨(oR [oQ 3 1 0,oQ 5 8 2,oS 6 (.mv (.c (.str (ByteArray.mk #[]))))] (oR [oF 20 0 3,oL 21 20,oM 22 1,oI 23 10 21 22,oA 24 10 23,oY 7 zzb,oV 10 7 24] (.seq (oR [oF 25 0 7,oL 26 25] (.block 0 (oR [oC 28 .eql 26 1,oM 27 28] (oD 27 (.seq (oR [oF 29 1 5,oL 30 29] (oD 30 (oR [oS 6 (.mv (.c (.str (ByteArray.mk #[1]))))] .ret) .skip)) (oR [oS 6 (.mv (.c (.str (ByteArray.mk #[]))))] .ret)) (oR [oC 32 .eql 26 2,oM 31 32] (oD 31 (oR [oF 33 2 5,oL 34 33,oC1 35 213 34,oC1 36 51 35,oM 6 36] .ret) (oR [oC 38 .eql 26 3,oM 37 38] (oD 37 (oR [oF 39 3 5,oL 40 39,oM 6 40] .ret) (oR [oC 42 .eql 26 4,oM 41 42] (oD 41 (oR [oF 43 4 5,oL 44 43,oS 45 (.conv (.some .u64) (.t 44)),oC1 46 51 45,oM 6 46] .ret) (oR [oC 48 .eql 26 9,oM 47 48] (oD 47 (.seq (oR [oF 49 6 5,oL 50 49,oH 51 50,oC 52 .eql 51 0] (oD 52 (oR [oS 6 (.mv (.c (.str (ByteArray.mk #[]))))] .ret) .skip)) (oR [oA 53 1 3,oF 54 8 7,oL 55 54,oF 56 6 5,oL 57 56,oS 58 (.nA 8 (.t 57) (.c (.int .i64 0))),oA 59 8 58,oS 60 (.call .any 155 [(.t 53),(.t 55),(.t 59)]),oS 61 (.bin .add false (.c (.str (ByteArray.mk #[1]))) (.t 60)),oM 6 61] .ret)) (oR [oC 63 .eql 26 6,oM 62 63] (oD 62 (.seq (oR [oF 64 7 5,oL 65 64,oH 66 65,oC 67 .gtr 66 0] (oD 67 (oR [oF 68 4 5,oL 69 68,oS 70 (.conv (.some .u64) (.t 69)),oC1 71 93 70,oF 72 7 5,oL 73 72,oS 74 (.nA 2 (.t 73) (.c (.int .i64 0))),oF 75 1 74,oL 76 75,oB 77 .add 71 76,oM 6 77] .ret) .skip)) (oR [oA 79 10 7,oF 80 4 5,oL 81 80,oC2 82 214 79 81,oM 78 82,oX 83 78 0,oX 84 78 1,oM 8 83,oM 9 84] (oR [oF 85 4 5,oL 86 85,oS 87 (.conv (.some .u64) (.t 86)),oC1 88 93 87,oA 89 1 3,oF 90 6 7,oL 91 90,oM 92 8,oI 93 13 91 92,oF 94 2 93,oL 95 94,oF 96 6 5,oL 97 96,oS 98 (.nA 8 (.t 97) (.c (.int .i64 0))),oA 99 8 98,oS 100 (.call .any 155 [(.t 89),(.t 95),(.t 99)]),oB 101 .add 88 100,oM 6 101] .ret))) (oR [oC 103 .eql 26 7,oM 102 103] (oD 102 (oR [oS 10 (.mv (.c (.str (ByteArray.mk #[]))))] (.seq (oR [oJ 11 0] (.block 1 (.loop WK))) (oR [oM 123 10,oM 6 123] .ret))) (oR [oC 125 .eql 26 8,oM 124 125] (oD 124 (oR [oS 12 (.mv (.c (.str (ByteArray.mk #[]))))] (.seq (oR [oJ 13 0] (.block 3 (.loop QK))) (oR [oM 156 12,oM 6 156] .ret))) .skip)))))))))))))))))) (oR [oS 14 (.mv (.c (.str (ByteArray.mk #[]))))] (.seq (oR [oJ 15 1] (.block 5 (.loop gF))) (oR [oM 227 14,oM 6 227] .ret)))))),[(.tmp 6)],3,[]⟩
theorem QW:SC Tryz.prog 155 rD:=okF Tryz.func155
def WG:C:=.seq (oR [oM 97 6,oF 98 6 2,oL 99 98,oH 100 99,oB 101 .lss 97 100] (oD 101 .skip (.exit 2))) (.seq (.block 3 (oR [oF 104 6 2,oL 105 104,oM 106 6,oI 107 13 105 106,oA 108 13 107,oF 109 6 3,oL 110 109,oM 111 6,oI 112 13 110 111,oA 113 13 112,oC2 114 217 108 113,oU 115 114] (oD 115 (oR [oZ 4 false] .ret) .skip))) (.reg [oM 102 6,oC 103 .add 102 1,oM 6 103]))
def DF:C:=.seq (oR [oM 79 5,oF 80 5 2,oL 81 80,oH 82 81,oB 83 .lss 79 82] (oD 83 .skip (.exit 0))) (.seq (.block 1 (oR [oF 86 5 2,oL 87 86,oM 88 5,oI 89 2 87 88,oA 90 2 89,oF 91 5 3,oL 92 91,oM 93 5,oI 94 2 92 93,oA 95 2 94,oS 96 (.iC true [0,1] (.t 90) (.t 95))] (oD 96 (oR [oZ 4 false] .ret) .skip))) (.reg [oM 84 5,oC 85 .add 84 1,oM 5 85]))
def bD:jD:=⟨(oR [oQ 2 10 0,oQ 3 10 1,oZ 4 false] (.seq (oR [oF 7 0 2,oL 8 7,oF 9 0 3,oL 10 9,oB 11 .neq 8 10,oM 12 11,oFg 13 1 2 12 false,oP 14 13 12 false,oFg 15 1 3 12 false,oP 16 15 12 false,oBg 17 .neq 14 16 12 false,oPo 18 12 17,oM 19 18,oFg 20 2 2 19 false,oP 21 20 19 false,oFg 22 2 3 19 false,oP 23 22 19 false,oBg 24 .neq 21 23 19 false,oPo 25 19 24,oM 26 25,oFg 27 3 2 26 false,oP 28 27 26 false,oFg 29 3 3 26 false,oP 30 29 26 false,oBg 31 .neq 28 30 26 false,oPo 32 26 31,oM 33 32,oFg 34 4 2 33 false,oP 35 34 33 false,oFg 36 4 3 33 false,oP 37 36 33 false,oBg 38 .neq 35 37 33 false,oPo 39 33 38,oM 40 39,oFg 41 7 2 40 false,oP 42 41 40 false,oFg 43 7 3 40 false,oP 44 43 40 false,oBg 45 .neq 42 44 40 false,oPo 46 40 45,oM 47 46,oFg 48 8 2 47 false,oP 49 48 47 false,oFg 50 8 3 47 false,oP 51 50 47 false,oBg 52 .neq 49 51 47 false,oPo 53 47 52,oM 54 53,oFg 55 9 2 54 false,oP 56 55 54 false,oFg 57 9 3 54 false,oP 58 57 54 false,oG 59 (.bin .neq true (.t 56) (.t 58)) 54 false,oPo 60 54 59,oM 61 60,oFg 62 5 2 61 false,oP 63 62 61 false,oHg 64 63 61 false,oFg 65 5 3 61 false,oP 66 65 61 false,oHg 67 66 61 false,oBg 68 .neq 64 67 61 false,oPo 69 61 68,oM 70 69,oFg 71 6 2 70 false,oP 72 71 70 false,oHg 73 72 70 false,oFg 74 6 3 70 false,oP 75 74 70 false,oHg 76 75 70 false,oBg 77 .neq 73 76 70 false,oPo 78 70 77] (oD 78 (oR [oZ 4 false] .ret) .skip)) (.seq (oR [oJ 5 0] (.block 0 (.loop DF))) (.seq (oR [oJ 6 0] (.block 2 (.loop WG))) (oR [oZ 4 true] .ret))))),[(.tmp 4)],2,[]⟩
theorem NU:SC Tryz.prog 156 bD:=okF Tryz.func156
def BJ:jD:=⟨(oR [oQ 1 10 0,oY 2 zzb] (.seq (oR [oF 3 0 1,oL 4 3] (.block 0 (oR [oC 6 .eql 4 1,oM 5 6] (oD 5 (oR [oF 7 0 1,oL 8 7,oS 9 (.build zzb [(0,(1,(.t 8)))]),oV 10 2 9] .ret) (oR [oC 11 .eql 4 2,oM 10 11] (oD 10 (oR [oF 12 0 1,oL 13 12,oF 14 2 1,oL 15 14,oF 16 3 1,oL 17 16,oS 18 (.build zzb [(0,(1,(.t 13))),(2,(1,(.t 15))),(3,(1,(.t 17)))]),oV 10 2 18] .ret) (oR [oC 20 .eql 4 3,oM 19 20] (oD 19 (oR [oF 21 0 1,oL 22 21,oF 23 4 1,oL 24 23,oS 25 (.build zzb [(0,(1,(.t 22))),(4,(1,(.t 24)))]),oV 10 2 25] .ret) (oR [oC 27 .eql 4 4,oM 26 27] (oD 26 (oR [oF 28 0 1,oL 29 28,oF 30 1 1,oL 31 30,oF 32 5 1,oL 33 32,oF 34 9 1,oL 35 34,oS 36 (.build zzb [(0,(1,(.t 29))),(1,(1,(.t 31))),(5,(1,(.t 33))),(9,(1,(.t 35)))]),oV 10 2 36] .ret) (oR [oC 38 .eql 4 5,oM 37 38] (oD 37 (oR [oF 39 0 1,oL 40 39,oF 41 1 1,oL 42 41,oF 43 6 1,oL 44 43,oS 45 (.build zzb [(0,(1,(.t 40))),(1,(1,(.t 42))),(6,(1,(.t 44)))]),oV 10 2 45] .ret) (oR [oC 47 .eql 4 6,oM 46 47] (oD 46 (oR [oF 48 0 1,oL 49 48,oF 50 1 1,oL 51 50,oF 52 6 1,oL 53 52,oF 54 9 1,oL 55 54,oS 56 (.build zzb [(0,(1,(.t 49))),(1,(1,(.t 51))),(6,(1,(.t 53))),(9,(1,(.t 55)))]),oV 10 2 56] .ret) (oR [oC 58 .eql 4 7,oM 57 58] (oD 57 (oR [oF 59 0 1,oL 60 59,oF 61 4 1,oL 62 61,oF 63 8 1,oL 64 63,oS 65 (.build zzb [(0,(1,(.t 60))),(4,(1,(.t 62))),(8,(1,(.t 64)))]),oV 10 2 65] .ret) (oR [oC 67 .eql 4 8,oM 66 67] (oD 66 (oR [oF 68 0 1,oL 69 68,oF 70 4 1,oL 71 70,oF 72 7 1,oL 73 72,oF 74 8 1,oL 75 74,oS 76 (.build zzb [(0,(1,(.t 69))),(4,(1,(.t 71))),(7,(1,(.t 73))),(8,(1,(.t 75)))]),oV 10 2 76] .ret) .skip)))))))))))))))))) (oR [oF 77 0 1,oL 78 77,oF 79 8 1,oL 80 79,oS 81 (.build zzb [(0,(1,(.t 78))),(8,(1,(.t 80)))]),oV 10 2 81] .ret))),[(.cell 2 true 10)],1,[]⟩
theorem TZ:SC Tryz.prog 157 BJ:=okF Tryz.func157
def kG:C:=.seq (oR [oM 17 3,oM 18 0,oS 19 (.len true (.t 18)),oB 20 .lss 17 19] (oD 20 .skip (.exit 0))) (.seq (.block 1 (oR [oM 23 0,oM 24 3,oS 25 (.index (.t 23) (.t 24)),oC1 26 218 25,oU 27 26,oM 28 27,oMg 29 0 28 true,oMg 30 3 28 true,oG 31 (.index (.t 29) (.t 30)) 28 true,oG 32 (.call .any 219 [(.t 31)]) 28 true,oUg 33 32 28 true,oPa 34 28 33] (oD 34 (oR [oZ 2 false] .ret) .skip))) (.reg [oM 21 3,oC 22 .add 21 1,oM 3 22]))
def GG:jD:=⟨(oR [oZ 2 false] (.seq (oR [oM 4 0,oS 5 (.bin .eql false (.t 4) (.c (.str (ByteArray.mk #[])))),oM 6 5,oMg 7 0 6 false,oG 8 (.len true (.t 7)) 6 false,oCi 9 .gtr 8 24 6 false,oPo 10 6 9,oM 11 10,oMg 12 0 11 false,oG 13 (.index (.t 12) (.c (.int .i64 0))) 11 false,oG 14 (.call .any 218 [(.t 13)]) 11 false,oUg 15 14 11 false,oPo 16 11 15] (oD 16 (oR [oZ 2 false] .ret) .skip)) (.seq (oR [oJ 3 0] (.block 0 (.loop kG))) (oR [oZ 2 true] .ret)))),[(.tmp 2)],1,[]⟩
theorem RX:SC Tryz.prog 158 GG:=okF Tryz.func158
def iI:C:=.seq (oR [oM 29 5,oM 30 4,oB 31 .lss 29 30] (oD 31 .skip (.exit 2))) (.seq (.block 3 (oR [oM 34 0,oM 35 5,oI 36 2 34 35,oF 37 1 36,oL 38 37,oM 39 0,oM 40 4,oI 41 2 39 40,oF 42 1 41,oL 43 42,oB 44 .eql 38 43] (oD 44 (oR [oZ 2 false] .ret) .skip))) (.reg [oM 32 5,oC 33 .add 32 1,oM 5 33]))
def KG:C:=.seq (oR [oM 6 4,oM 7 0,oH 8 7,oB 9 .lss 6 8] (oD 9 .skip (.exit 0))) (.seq (.block 1 (.seq (oR [oM 12 3,oM 13 0,oM 14 4,oI 15 2 13 14,oF 16 0 15,oL 17 16,oC2 18 220 12 17,oU 19 18,oM 20 19,oMg 21 0 20 false,oMg 22 4 20 false,oIg 23 2 21 22 20 false,oFg 24 1 23 20 false,oP 25 24 20 false,oG 26 (.call .any 158 [(.t 25)]) 20 false,oUg 27 26 20 false,oPo 28 20 27] (oD 28 (oR [oZ 2 false] .ret) .skip)) (.seq (oR [oJ 5 0] (.block 2 (.loop iI))) (.reg [oM 45 0,oM 46 4,oI 47 2 45 46,oF 48 0 47,oL 49 48,oM 3 49])))) (.reg [oM 10 4,oC 11 .add 10 1,oM 4 11]))
def lK:jD:=⟨(oR [oZ 2 false] (oR [oJ 3 0] (.seq (oR [oJ 4 0] (.block 0 (.loop KG))) (oR [oM 50 0,oH 51 50,oC 52 .geq 51 1,oM 53 52,oMg 54 0 53 true,oHg 55 54 53 true,oCi 56 .leq 55 16 53 true,oPa 57 53 56,oM 2 57] .ret)))),[(.tmp 2)],1,[]⟩
theorem nW:SC Tryz.prog 159 lK:=okF Tryz.func159
def JG:C:=.seq (oR [oM 60 8,oM 61 6,oB 62 .lss 60 61] (oD 62 .skip (.exit 2))) (.seq (.block 3 (oR [oM 65 0,oM 66 8,oI 67 13 65 66,oF 68 1 67,oL 69 68,oF 70 1 7,oL 71 70,oB 72 .eql 69 71] (oD 72 (oR [oZ 4 false] .ret) .skip))) (.reg [oM 63 8,oC 64 .add 63 1,oM 8 64]))
def eG:C:=.seq (oR [oM 9 6,oM 10 0,oH 11 10,oB 12 .lss 9 11] (oD 12 .skip (.exit 0))) (.seq (.block 1 (oR [oM 15 0,oM 16 6,oI 17 13 15 16,oA 18 13 17,oY 7 zze,oV 13 7 18] (.seq (oR [oM 19 5,oF 20 0 7,oL 21 20,oC2 22 220 19 21,oU 23 22,oM 24 23,oFg 25 1 7 24 false,oP 26 25 24 false,oG 27 (.call .any 158 [(.t 26)]) 24 false,oUg 28 27 24 false,oPo 29 24 28,oM 30 29,oFg 31 3 7 30 false,oP 32 31 30 false,oMg 33 32 30 false,oFg 34 4 7 33 true,oP 35 34 33 true,oPb 36 33 35 30 false,oPo 37 30 36,oM 38 37,oMg 39 1 38 false,oUg 40 39 38 false,oMg 41 40 38 false,oFg 42 3 7 41 true,oP 43 42 41 true,oMg 44 43 41 true,oFg 45 4 7 44 false,oP 46 45 44 false,oG 47 (.pick (.t 44) (.c (.bool true)) (.t 46)) 41 true,oPb 48 41 47 38 false,oPo 49 38 48] (oD 49 (oR [oZ 4 false] .ret) .skip)) (.seq (oR [oF 50 4 7,oL 51 50,oU 52 51,oM 53 52,oFg 54 5 7 53 true,oLg 55 8 54 53 true,oG 56 (.build zza []) 53 true,oCg 57 36 55 56 53 true,oUg 58 57 53 true,oPa 59 53 58] (oD 59 (oR [oZ 4 false] .ret) .skip)) (.seq (oR [oJ 8 0] (.block 2 (.loop JG))) (.reg [oF 73 0 7,oL 74 73,oM 5 74])))))) (.reg [oM 13 6,oC 14 .add 13 1,oM 6 14]))
def fK:jD:=⟨(oR [oZ 4 false] (oR [oJ 5 0] (.seq (oR [oJ 6 0] (.block 0 (.loop eG))) (oR [oM 75 0,oH 76 75,oC 77 .leq 76 16,oM 78 77,oMg 79 1 78 true,oMg 80 79 78 true,oMg 81 0 80 false,oHg 82 81 80 false,oCi 83 .geq 82 1 80 false,oG 84 (.pick (.t 80) (.c (.bool true)) (.t 83)) 78 true,oPa 85 78 84,oM 4 85] .ret)))),[(.tmp 4)],2,[]⟩
theorem bW:SC Tryz.prog 160 fK:=okF Tryz.func160
def uL:C:=.seq (oR [oM 260 15,oF 261 5 6,oL 262 261,oH 263 262,oB 264 .lss 260 263] (oD 264 .skip (.exit 3))) (.seq (.block 4 (oR [oF 267 5 6,oL 268 267,oM 269 15,oC 270 .sub 269 1,oI 271 8 268 270,oA 272 8 271,oF 273 5 6,oL 274 273,oM 275 15,oI 276 8 274 275,oA 277 8 276,oC2 278 226 272 277,oC 279 .geq 278 0] (oD 279 (oR [oZ 8 false] .ret) .skip))) (.reg [oM 265 15,oC 266 .add 265 1,oM 15 266]))
def iL:C:=.seq (oR [oM 115 12,oF 116 6 6,oL 117 116,oH 118 117,oB 119 .lss 115 118] (oD 119 .skip (.exit 1))) (.seq (.block 2 (oR [oA 122 1 4,oF 123 6 9,oL 124 123,oM 125 12,oI 126 13 124 125,oF 127 2 126,oL 128 127,oF 129 6 6,oL 130 129,oM 131 12,oI 132 8 130 131,oA 133 8 132,oM 134 3,oC4 135 161 122 128 133 134,oU 136 135] (oD 136 (oR [oZ 8 false] .ret) .skip))) (.reg [oM 120 12,oC 121 .add 120 1,oM 12 121]))
def GC:jD:=⟨(oR [oQ 4 1 0,oQ 6 8 2,oZ 8 false] (.seq (oR [oM 16 1,oC 17 .lss 16 0,oM 18 17,oMg 19 1 18 false,oFg 20 0 4 18 false,oP 21 20 18 false,oHg 22 21 18 false,oBg 23 .geq 19 22 18 false,oPo 24 18 23] (oD 24 (oR [oZ 8 false] .ret) .skip)) (oR [oF 25 0 4,oL 26 25,oM 27 1,oI 28 10 26 27,oA 29 10 28,oY 9 zzb,oV 10 9 29] (.seq (oR [oF 30 0 6,oL 31 30,oF 32 0 9,oL 33 32,oB 34 .neq 31 33,oM 35 34,oLg 36 8 6 35 false,oG 37 (.call .any 221 [(.t 36)]) 35 false,oUg 38 37 35 false,oPo 39 35 38,oM 40 39,oMg 41 3 40 false,oMg 42 41 40 false,oFg 43 7 6 42 true,oP 44 43 42 true,oHg 45 44 42 true,oCi 46 .gtr 45 0 42 true,oPb 47 42 46 40 false,oPo 48 40 47] (oD 48 (oR [oZ 8 false] .ret) .skip)) (.seq (oR [oF 49 0 9,oL 50 49] (.block 0 (oR [oC 52 .eql 50 1,oM 51 52] (oD 51 (oR [oZ 8 true] .ret) (oR [oC 54 .eql 50 2,oM 53 54] (oD 53 (oR [oF 55 2 6,oL 56 55,oF 57 2 9,oL 58 57,oB 59 .geq 56 58,oM 60 59,oFg 61 2 6 60 true,oP 62 61 60 true,oFg 63 3 9 60 true,oP 64 63 60 true,oBg 65 .leq 62 64 60 true,oPa 66 60 65,oM 8 66] .ret) (oR [oC 68 .eql 50 3,oM 67 68] (oD 67 (oR [oF 69 3 6,oL 70 69,oS 71 (.len true (.t 70)),oF 72 4 9,oL 73 72,oB 74 .leq 71 73,oM 8 74] .ret) (oR [oC 76 .eql 50 4,oM 75 76] (oD 75 (oR [oA 78 10 9,oF 79 4 6,oL 80 79,oC2 81 222 78 80,oM 77 81,oX 82 77 0,oX 83 77 1,oM 10 82,oM 11 83] (oR [oM 84 11,oM 85 84,oFg 86 9 9 85 false,oP 87 86 85 false,oMg 88 87 85 false,oMg 89 3 88 true,oUg 90 89 88 true,oPb 91 88 90 85 false,oMg 92 91 85 false,oFg 93 4 6 92 true,oP 94 93 92 true,oMg 95 11 92 true,oCg 96 223 94 95 92 true,oPb 97 92 96 85 false,oPo 98 85 97,oM 8 98] .ret)) (oR [oC 100 .eql 50 5,oM 99 100] (oD 99 (.seq (oR [oF 101 6 6,oL 102 101,oH 103 102,oF 104 6 9,oL 105 104,oH 106 105,oB 107 .neq 103 106,oM 108 107,oLg 109 10 9 108 false,oFg 110 7 6 108 false,oP 111 110 108 false,oCg 112 224 109 111 108 false,oUg 113 112 108 false,oPo 114 108 113] (oD 114 (oR [oZ 8 false] .ret) .skip)) (.seq (oR [oJ 12 0] (.block 1 (.loop iL))) (oR [oZ 8 true] .ret))) (oR [oC 138 .eql 50 6,oM 137 138] (oD 137 (oR [oA 140 10 9,oF 141 4 6,oL 142 141,oC2 143 214 140 142,oM 139 143,oX 144 139 0,oX 145 139 1,oM 13 144,oM 14 145] (.seq (oR [oM 146 14] (oD 146 (oR [oF 147 6 6,oL 148 147,oH 149 148,oC 150 .eql 149 1,oM 151 150,oFg 152 7 6 151 true,oP 153 152 151 true,oHg 154 153 151 true,oCi 155 .eql 154 0 151 true,oPa 156 151 155,oM 157 156,oLg 158 1 4 157 true,oFg 159 6 9 157 true,oP 160 159 157 true,oMg 161 13 157 true,oIg 162 13 160 161 157 true,oFg 163 2 162 157 true,oP 164 163 157 true,oFg 165 6 6 157 true,oP 166 165 157 true,oG 167 (.nA 8 (.t 166) (.c (.int .i64 0))) 157 true,oLg 168 8 167 157 true,oMg 169 3 157 true,oG 170 (.call .any 161 [(.t 158),(.t 164),(.t 168),(.t 169)]) 157 true,oPa 171 157 170,oM 8 171] .ret) .skip)) (oR [oF 172 9 9,oL 173 172,oM 174 173,oMg 175 3 174 true,oUg 176 175 174 true,oPa 177 174 176,oM 178 177,oFg 179 4 6 178 true,oP 180 179 178 true,oMg 181 14 178 true,oCg 182 223 180 181 178 true,oPa 183 178 182,oM 184 183,oFg 185 6 6 184 true,oP 186 185 184 true,oHg 187 186 184 true,oCi 188 .eql 187 0 184 true,oPa 189 184 188,oM 190 189,oFg 191 7 6 190 true,oP 192 191 190 true,oHg 193 192 190 true,oCi 194 .eql 193 1 190 true,oPa 195 190 194,oM 196 195,oFg 197 7 6 196 true,oP 198 197 196 true,oG 199 (.nA 2 (.t 198) (.c (.int .i64 0))) 196 true,oFg 200 0 199 196 true,oP 201 200 196 true,oFg 202 4 6 196 true,oP 203 202 196 true,oBg 204 .eql 201 203 196 true,oPa 205 196 204,oM 8 205] .ret))) (oR [oC 207 .eql 50 7,oM 206 207] (oD 206 (oR [oF 208 6 6,oL 209 208,oH 210 209,oF 211 4 9,oL 212 211,oB 213 .leq 210 212,oM 214 213,oLg 215 1 4 214 true,oFg 216 8 9 214 true,oP 217 216 214 true,oFg 218 6 6 214 true,oP 219 218 214 true,oMg 220 3 214 true,oG 221 (.call .any 225 [(.t 215),(.t 217),(.t 219),(.t 220)]) 214 true,oPa 222 214 221,oM 8 222] .ret) (oR [oC 224 .eql 50 8,oM 223 224] (oD 223 (.seq (oR [oF 225 5 6,oL 226 225,oH 227 226,oF 228 4 9,oL 229 228,oB 230 .gtr 227 229,oM 231 230,oFg 232 6 6 231 false,oP 233 232 231 false,oHg 234 233 231 false,oFg 235 5 6 231 false,oP 236 235 231 false,oHg 237 236 231 false,oBg 238 .neq 234 237 231 false,oPo 239 231 238,oM 240 239,oLg 241 1 4 240 false,oFg 242 7 9 240 false,oP 243 242 240 false,oFg 244 5 6 240 false,oP 245 244 240 false,oMg 246 3 240 false,oG 247 (.call .any 225 [(.t 241),(.t 243),(.t 245),(.t 246)]) 240 false,oUg 248 247 240 false,oPo 249 240 248,oM 250 249,oLg 251 1 4 250 false,oFg 252 8 9 250 false,oP 253 252 250 false,oFg 254 6 6 250 false,oP 255 254 250 false,oMg 256 3 250 false,oG 257 (.call .any 225 [(.t 251),(.t 253),(.t 255),(.t 256)]) 250 false,oUg 258 257 250 false,oPo 259 250 258] (oD 259 (oR [oZ 8 false] .ret) .skip)) (.seq (oR [oJ 15 1] (.block 3 (.loop uL))) (oR [oZ 8 true] .ret))) .skip)))))))))))))))))) (oR [oF 280 6 6,oL 281 280,oH 282 281,oC 283 .leq 282 1,oM 284 283,oLg 285 1 4 284 true,oFg 286 8 9 284 true,oP 287 286 284 true,oFg 288 6 6 284 true,oP 289 288 284 true,oMg 290 3 284 true,oG 291 (.call .any 225 [(.t 285),(.t 287),(.t 289),(.t 290)]) 284 true,oPa 292 284 291,oM 8 292] .ret)))))),[(.tmp 8)],4,[]⟩
theorem C5:SC Tryz.prog 161 GC:=okF Tryz.func161
def ML:C:=.seq (oR [oM 53 8,oF 54 6 2,oL 55 54,oH 56 55,oB 57 .lss 53 56] (oD 57 .skip (.exit 3))) (.seq (.block 4 (.reg [oM 60 7,oM 61 1,oF 62 6 2,oL 63 62,oM 64 8,oI 65 13 63 64,oF 66 2 65,oL 67 66,oI 68 1 61 67,oL 69 68,oB 70 .add 60 69,oS 71 (.mm false (.c (.int .i64 2)) (.t 70)),oM 7 71])) (.reg [oM 58 8,oC 59 .add 58 1,oM 8 59]))
def qM:C:=.seq (oR [oM 31 6,oF 32 6 2,oL 33 32,oH 34 33,oB 35 .lss 31 34] (oD 35 .skip (.exit 1))) (.seq (.block 2 (.reg [oM 38 5,oM 39 1,oF 40 6 2,oL 41 40,oM 42 6,oI 43 13 41 42,oF 44 2 43,oL 45 44,oI 46 1 39 45,oL 47 46,oB 48 .mul 38 47,oS 49 (.mm false (.c (.int .i64 2)) (.t 48)),oM 5 49])) (.reg [oM 36 6,oC 37 .add 36 1,oM 6 37]))
def tD:jD:=⟨(oR [oQ 2 10 0,oJ 4 0] (.seq (oR [oF 9 0 2,oL 10 9] (.block 0 (oR [oC 12 .eql 10 2,oM 11 12] (oD 11 (oR [oF 13 2 2,oL 14 13,oF 15 3 2,oL 16 15,oB 17 .eql 14 16] (oD 17 (oR [oJ 4 1] .ret) .skip)) (oR [oC 19 .eql 10 3,oM 18 19] (oD 18 (oR [oF 20 4 2,oL 21 20,oC 22 .eql 21 0] (oD 22 (oR [oJ 4 1] .ret) .skip)) (oR [oC 24 .eql 10 4,oM 23 24] (oD 23 (oR [oF 25 5 2,oL 26 25,oH 27 26,oS 28 (.mm false (.c (.int .i64 2)) (.t 27)),oM 4 28] .ret) (oR [oC 30 .eql 10 5,oM 29 30] (oD 29 (oR [oJ 5 1] (.seq (oR [oJ 6 0] (.block 1 (.loop qM))) (oR [oM 50 5,oM 4 50] .ret))) (oR [oC 52 .eql 10 6,oM 51 52] (oD 51 (oR [oJ 7 0] (.seq (oR [oJ 8 0] (.block 3 (.loop ML))) (oR [oM 72 7,oM 4 72] .ret))) (.seq (oR [oC 74 .eql 10 7,oM 73 74] (oD 73 .skip (.reg [oC 75 .eql 10 8,oM 73 75]))) (oD 73 (oR [oF 76 4 2,oL 77 76,oC 78 .eql 77 0,oM 79 78,oMg 80 1 79 false,oFg 81 8 2 79 false,oP 82 81 79 false,oIg 83 1 80 82 79 false,oP 84 83 79 false,oCi 85 .eql 84 0 79 false,oPo 86 79 85] (oD 86 (oR [oJ 4 1] .ret) .skip)) (oR [oC 88 .eql 10 9,oM 87 88] (oD 87 (oR [oM 89 1,oF 90 8 2,oL 91 90,oI 92 1 89 91,oL 93 92,oS 94 (.bin .add false (.c (.int .i64 1)) (.t 93)),oS 95 (.mm false (.c (.int .i64 2)) (.t 94)),oM 4 95] .ret) .skip)))))))))))))))) (oR [oJ 4 2] .ret))),[(.tmp 4)],2,[]⟩
theorem DZ:SC Tryz.prog 162 tD:=okF Tryz.func162
def RD:C:=oR [oB 83 .lss 82 81] (.seq (oD 83 .skip (.exit 3)) (.seq (.block 4 (oR [oI 84 13 80 82,oA 85 13 84,oY 16 zze,oV 13 16 85] (oR [oM 86 3,oF 87 2 16,oL 88 87,oI 89 11 86 88,oA 90 11 89,oY 17 zzg,oV 11 17 90] (.seq (oR [oF 91 0 17,oL 92 91,oM 93 92,oFg 94 1 17 93 true,oP 95 94 93 true,oUg 96 95 93 true,oPa 97 93 96] (oD 97 (.reg [oA 98 1 4,oM 99 1,oF 100 0 6,oL 101 100,oF 102 0 16,oL 103 102,oF 104 3 17,oA 105 8 104,oS 106 (.XA zza 1 [(0,(.t 105))]),oS 107 (.build zza [(0,(1,(.t 101))),(4,(1,(.t 103))),(6,(1,(.t 106)))]),oS 108 (.call .any 228 [(.t 98),(.t 99),(.t 107)]),oV 11 17 108]) .skip)) (oR [oA 109 11 17,oA 110 11 14,oC2 111 164 109 110] (oD 111 (.reg [oA 112 11 17,oV 11 14 112]) .skip)))))) (.reg [oC 113 .add 82 1,oM 82 113])))
def NC:C:=oR [oB 45 .lss 44 43] (.seq (oD 45 .skip (.exit 1)) (.seq (.block 2 (oR [oI 46 13 42 44,oA 47 13 46,oY 12 zze,oV 13 12 47] (oR [oM 48 3,oF 49 2 12,oL 50 49,oI 51 11 48 50,oA 52 11 51,oY 13 zzg,oV 11 13 52] (.seq (oR [oF 53 4 12,oL 54 53] (oD 54 (.reg [oF 55 5 12,oA 56 8 55,oS 57 (.build zzg [(0,(1,(.c (.bool true)))),(3,(8,(.t 56)))]),oV 11 13 57]) .skip)) (.seq (oR [oF 58 0 13,oL 59 58,oU 60 59] (oD 60 (oR [oS 61 (.build zzg []),oV 11 8 61] .ret) .skip)) (oR [oM 62 10,oM 63 62,oFg 64 1 13 63 false,oP 65 64 63 false,oPo 66 63 65,oM 10 66] (.reg [oF 67 6 9,oL 68 67,oF 69 3 13,oA 70 8 69,oS 71 (.XA zza 1 [(0,(.t 70))]),oAp 72 39 8 120 68 71,oF 73 6 9,oW 73 72]))))))) (.reg [oC 74 .add 44 1,oM 44 74])))
def qF:jD:=⟨(oR [oQ 4 1 0,oQ 6 10 2,oY 8 zzg] (oR [oF 18 0 6,oL 19 18,oS 20 (.build zza [(0,(1,(.t 19)))]),oY 9 zza,oV 8 9 20] (.seq (oR [oF 21 0 6,oL 22 21] (.block 0 (oR [oC 24 .eql 22 2,oM 23 24] (oD 23 (.reg [oF 25 2 6,oL 26 25,oF 27 3 6,oL 28 27,oC2 29 227 26 28,oF 30 2 9,oW 30 29]) (oR [oC 32 .eql 22 4,oM 31 32] (oD 31 (.reg [oF 33 5 6,oL 34 33,oS 35 (.nA 2 (.t 34) (.c (.int .i64 0))),oF 36 0 35,oL 37 36,oF 38 4 9,oW 38 37]) (oR [oC 40 .eql 22 5,oM 39 40] (oD 39 (oR [oZ 10 false] (.seq (oR [oF 41 6 6,oL 42 41,oH 43 42,oJ 44 0] (.block 1 (.loop NC))) (oR [oM 75 10] (oD 75 (oR [oS 76 (.build zzg [(0,(1,(.c (.bool true)))),(1,(1,(.c (.bool true))))]),oV 11 8 76] .ret) .skip)))) (oR [oC 78 .eql 22 6,oM 77 78] (oD 77 (oR [oY 14 zzg] (.seq (oR [oF 79 6 6,oL 80 79,oH 81 80,oJ 82 0] (.block 3 (.loop RD))) (oR [oA 114 11 14,oV 11 8 114] .ret))) .skip)))))))))) (oR [oA 115 1 4,oM 116 1,oA 117 8 9,oS 118 (.call .any 228 [(.t 115),(.t 116),(.t 117)]),oV 11 8 118] .ret)))),[(.cell 8 true 11)],4,[]⟩
theorem WT:SC Tryz.prog 163 qF:=okF Tryz.func163
def lE:jD:=⟨(oR [oQ 2 11 0,oQ 3 11 1,oZ 4 false] (.seq (.block 0 (oR [oF 6 0 2,oL 7 6,oU 8 7,oM 9 8,oFg 10 0 3 9 false,oP 11 10 9 false,oUg 12 11 9 false,oPo 13 9 12,oM 5 13] (oD 5 (oR [oF 14 0 2,oL 15 14,oM 4 15] .ret) (oR [oF 17 1 2,oL 18 17,oM 19 18,oFg 20 1 3 19 false,oP 21 20 19 false,oPo 22 19 21,oM 16 22] (oD 16 (oR [oF 23 1 2,oL 24 23,oU 25 24,oM 26 25,oFg 27 1 3 26 true,oP 28 27 26 true,oPa 29 26 28,oM 4 29] .ret) .skip))))) (oR [oF 30 2 2,oL 31 30,oS 32 (.len true (.t 31)),oF 33 2 3,oL 34 33,oS 35 (.len true (.t 34)),oB 36 .lss 32 35,oM 37 36,oFg 38 2 2 37 false,oP 39 38 37 false,oG 40 (.len true (.t 39)) 37 false,oFg 41 2 3 37 false,oP 42 41 37 false,oG 43 (.len true (.t 42)) 37 false,oBg 44 .eql 40 43 37 false,oMg 45 44 37 false,oFg 46 2 2 45 true,oP 47 46 45 true,oFg 48 2 3 45 true,oP 49 48 45 true,oBg 50 .lss 47 49 45 true,oPb 51 45 50 37 false,oPo 52 37 51,oM 4 52] .ret))),[(.tmp 4)],2,[]⟩
theorem JU:SC Tryz.prog 164 lE:=okF Tryz.func164
def tI:jD:=⟨(oR [oZ 2 false] (oR [oM 3 0,oM 4 0,oB 5 .neq 3 4,oM 2 5] .ret)),[(.tmp 2)],1,[]⟩
theorem OS:SC Tryz.prog 165 tI:=okF Tryz.func165
def nD:jD:=⟨(oR [oQ 1 8 0,oY 2 zza] (oR [oF 4 0 1,oL 5 4,oS 6 (.build zza [(0,(1,(.t 5)))]),oY 3 zza,oV 8 3 6] (.seq (oR [oF 7 0 1,oL 8 7] (.block 0 (oR [oC 10 .eql 8 1,oM 9 10] (oD 9 (.reg [oF 11 1 1,oL 12 11,oF 13 1 3,oW 13 12]) (oR [oC 15 .eql 8 2,oM 14 15] (oD 14 (.reg [oF 16 2 1,oL 17 16,oF 18 2 3,oW 18 17]) (oR [oC 20 .eql 8 3,oM 19 20] (oD 19 (.reg [oF 21 3 1,oL 22 21,oF 23 3 3,oW 23 22]) (oR [oC 25 .eql 8 4,oM 24 25] (oD 24 (.reg [oF 26 4 1,oL 27 26,oF 28 4 3,oW 28 27]) (oR [oC 30 .eql 8 5,oM 29 30] (oD 29 (.reg [oF 31 6 1,oLr 32 1 1 31,oF 33 7 1,oLr 34 1 1 33,oF 35 6 3,oN (.store (.root 3) false 1 (.t 35) (.t 32)),oF 36 7 3,oN (.store (.root 3) false 1 (.t 36) (.t 34))]) (oR [oC 38 .eql 8 6,oM 37 38] (oD 37 (.reg [oF 39 4 1,oLr 40 1 1 39,oF 41 6 1,oLr 42 1 1 41,oF 43 7 1,oLr 44 1 1 43,oF 45 4 3,oN (.store (.root 3) false 1 (.t 45) (.t 40)),oF 46 6 3,oN (.store (.root 3) false 1 (.t 46) (.t 42)),oF 47 7 3,oN (.store (.root 3) false 1 (.t 47) (.t 44))]) (oR [oC 49 .eql 8 8,oM 48 49] (oD 48 (.reg [oF 50 5 1,oLr 51 1 1 50,oF 52 6 1,oLr 53 1 1 52,oF 54 5 3,oN (.store (.root 3) false 1 (.t 54) (.t 51)),oF 55 6 3,oN (.store (.root 3) false 1 (.t 55) (.t 53))]) (.seq (oR [oC 57 .eql 8 7,oM 56 57] (oD 56 .skip (.reg [oC 58 .eql 8 9,oM 56 58]))) (oD 56 (.reg [oF 59 6 1,oL 60 59,oF 61 6 3,oW 61 60]) .skip)))))))))))))))))) (oR [oA 62 8 3,oV 8 2 62] .ret)))),[(.cell 2 true 8)],1,[]⟩
theorem T2:SC Tryz.prog 167 nD:=okF Tryz.func167
def mE:C:=oR [oB 9 .lss 8 7] (.seq (oD 9 .skip (.exit 0)) (.seq (.block 1 (oR [oM 10 8,oM 5 10] (oR [oM 11 1,oM 12 0,oM 13 5,oI 14 2 12 13,oA 15 2 14,oS 16 (.RA .any (.t 11) [(.t 15)])] (oD 16 (oR [oM 17 5,oM 4 17] .ret) .skip)))) (.reg [oC 18 .add 8 1,oM 8 18])))
def eF:jD:=⟨(oR [oJ 4 0] (.seq (oR [oM 6 0,oH 7 6,oJ 8 0] (.block 0 (.loop mE))) (oR [oJ 4 (-1)] .ret))),[(.tmp 4)],2,[]⟩
theorem aM:SC Tryz.prog 168 eF:=okF Tryz.func168
def aI:jD:=⟨(oR [oQ 2 2 0,oZ 3 false] (oR [oF 4 0 2,oL 5 4,oL 6 1,oB 7 .eql 5 6,oM 3 7] .ret)),[(.tmp 3)],2,[]⟩
theorem FS:SC Tryz.prog 169 aI:=okF Tryz.func169
def nE:C:=oR [oB 9 .lss 8 7] (.seq (oD 9 .skip (.exit 0)) (.seq (.block 1 (oR [oM 10 8,oM 5 10] (oR [oM 11 1,oM 12 0,oM 13 5,oI 14 13 12 13,oA 15 13 14,oS 16 (.RA .any (.t 11) [(.t 15)])] (oD 16 (oR [oM 17 5,oM 4 17] .ret) .skip)))) (.reg [oC 18 .add 8 1,oM 8 18])))
def wF:jD:=⟨(oR [oJ 4 0] (.seq (oR [oM 6 0,oH 7 6,oJ 8 0] (.block 0 (.loop nE))) (oR [oJ 4 (-1)] .ret))),[(.tmp 4)],2,[]⟩
theorem pM:SC Tryz.prog 170 wF:=okF Tryz.func170
def pI:jD:=⟨(oR [oQ 2 13 0,oZ 3 false] (oR [oF 4 0 2,oL 5 4,oL 6 1,oB 7 .eql 5 6,oM 3 7] .ret)),[(.tmp 3)],2,[]⟩
theorem SS:SC Tryz.prog 171 pI:=okF Tryz.func171
def WD:jD:=⟨(oR [oZ 4 false] (oR [oM 5 0,oM 6 1,oC2 7 230 5 6,oC 8 .geq 7 0,oM 4 8] .ret)),[(.tmp 4)],2,[]⟩
theorem WL:SC Tryz.prog 172 WD:=okF Tryz.func172
def pH:jD:=⟨(oR [oQ 4 8 0,oZ 5 false] (oR [oA 6 1 1,oL 7 2,oA 8 8 4,oL 9 3,oC4 10 63 6 7 8 9,oU 11 10,oM 5 11] .ret)),[(.tmp 5)],4,[]⟩
theorem AW:SC Tryz.prog 173 pH:=okF Tryz.func173
noncomputable def BQ:jD:=cF [] Tryz.f174
theorem UW:SC Tryz.prog 174 BQ:=okF Tryz.func174
noncomputable def JL:jD:=cF [] Tryz.f175
theorem nQ:SC Tryz.prog 175 JL:=okF Tryz.func175
noncomputable def NS:jD:=cF [] Tryz.f176
theorem LZ:SC Tryz.prog 176 NS:=okF Tryz.func176
noncomputable def tJ:jD:=cF [] Tryz.f177
theorem ON:SC Tryz.prog 177 tJ:=okF Tryz.func177
def iF:jD:=⟨(oR [oQ 2 8 0,oQ 3 8 1,oZ 4 false] (oR [oF 5 0 2,oL 6 5,oF 7 0 3,oL 8 7,oB 9 .eql 6 8,oM 10 9,oFg 11 1 2 10 true,oP 12 11 10 true,oFg 13 1 3 10 true,oP 14 13 10 true,oG 15 (.bin .eql true (.t 12) (.t 14)) 10 true,oPa 16 10 15,oM 17 16,oFg 18 2 2 17 true,oP 19 18 17 true,oFg 20 2 3 17 true,oP 21 20 17 true,oBg 22 .eql 19 21 17 true,oPa 23 17 22,oM 24 23,oFg 25 3 2 24 true,oP 26 25 24 true,oFg 27 3 3 24 true,oP 28 27 24 true,oBg 29 .eql 26 28 24 true,oPa 30 24 29,oM 31 30,oFg 32 4 2 31 true,oP 33 32 31 true,oFg 34 4 3 31 true,oP 35 34 31 true,oBg 36 .eql 33 35 31 true,oPa 37 31 36,oM 38 37,oFg 39 7 2 38 true,oP 40 39 38 true,oFg 41 7 3 38 true,oP 42 41 38 true,oCg 43 232 40 42 38 true,oPa 44 38 43,oM 45 44,oFg 46 5 2 45 true,oP 47 46 45 true,oFg 48 5 3 45 true,oP 49 48 45 true,oG 50 (.call .any 233 [(.t 47),(.t 49),(.c (.fn 178 []))]) 45 true,oPa 51 45 50,oM 52 51,oFg 53 6 2 52 true,oP 54 53 52 true,oFg 55 6 3 52 true,oP 56 55 52 true,oG 57 (.call .any 233 [(.t 54),(.t 56),(.c (.fn 178 []))]) 52 true,oPa 58 52 57,oM 4 58] .ret)),[(.tmp 4)],2,[]⟩
theorem NZ:SC Tryz.prog 178 iF:=okF Tryz.func178
noncomputable def WP:jD:=cF [] Tryz.f179
theorem wV:SC Tryz.prog 179 WP:=okF Tryz.func179
noncomputable def OF:jD:=cF [] Tryz.f180
theorem BH:SC Tryz.prog 180 OF:=okF Tryz.func180
def IH:jD:=⟨(oR [oQ 2 13 0,oQ 3 8 1,oZ 4 false] (oR [oF 5 4 2,oL 6 5,oM 7 6,oFg 8 5 2 7 true,oLg 9 8 8 7 true,oLg 10 8 3 7 true,oCg 11 178 9 10 7 true,oPa 12 7 11,oM 4 12] .ret)),[(.tmp 4)],2,[]⟩
theorem GU:SC Tryz.prog 188 IH:=okF Tryz.func188
def qJ:jD:=⟨(oR [oS 6 (.mv (.c (.str (ByteArray.mk #[]))))] (oR [oM 8 0,oS 9 (.conv (.some .u64) (.t 8)),oS 10 (.bin .mul false (.c (.int .u64 2)) (.t 9)),oM 7 10] (.seq (oR [oM 11 1] (oD 11 (.reg [oM 12 7,oS 13 (.bin .add false (.t 12) (.c (.int .u64 1))),oM 7 13]) .skip)) (oR [oM 14 7,oC1 15 192 14,oM 16 2,oC1 17 125 16,oB 18 .add 15 17,oM 6 18] .ret)))),[(.tmp 6)],3,[]⟩
theorem nX:SC Tryz.prog 189 qJ:=okF Tryz.func189
def eE:jD:=⟨(oR [oM 5 0,oH 6 5,oM 4 6] (.reg [oM 7 0,oM 8 4,oM 9 4,oS 10 (.conv (.some .u64) (.t 9)),oC1 11 80 10,oM 12 1,oS 13 (.lA 14 (.c (.fn 237 [])) [(.t 7),(.c (.int .i64 0)),(.t 8),(.t 11),(.t 12)])])),[],2,[1000000+237]⟩
theorem PL:SC Tryz.prog 190 eE:=okF Tryz.func190
def ZF:jD:=⟨(oR [oQ 2 2 0,oQ 3 2 1,oJ 4 0] (oR [oF 5 0 2,oL 6 5,oF 7 0 3,oL 8 7,oC2 9 70 6 8,oM 4 9] .ret)),[(.tmp 4)],2,[]⟩
theorem jO:SC Tryz.prog 191 ZF:=okF Tryz.func191
def uN:C:=.seq (oR [oM 5 0,oS 6 (.bin .geq false (.t 5) (.c (.int .u64 128)))] (oD 6 .skip (.exit 0))) (.seq (.block 1 (oR [oM 9 4,oM 10 0,oS 11 (.conv (.some .u8) (.t 10)),oS 12 (.bin .or false (.t 11) (.c (.int .u8 128))),oS 13 (.pB 10 1 (.t 3) (.t 9)),oW 13 12] (.reg [oM 14 4,oC 15 .add 14 1,oM 4 15]))) (.reg [oM 7 0,oS 8 (.bin .shr false (.t 7) (.c (.int .u64 7))),oM 0 8]))
def EN:jD:=⟨(oR [oS 2 (.mv (.c (.str (ByteArray.mk #[]))))] (oR [oY 3 zzj] (oR [oJ 4 0] (.seq (.block 0 (.loop uN)) (oR [oM 16 4,oM 17 0,oS 18 (.conv (.some .u8) (.t 17)),oS 19 (.pB 10 1 (.t 3) (.t 16)),oW 19 18] (oR [oM 20 4,oC 21 .add 20 1,oS 22 (.PB .any 10 1 (.t 3) .none (.some (.t 21))),oS 23 (.xB .any (.t 22)),oM 2 23] .ret)))))),[(.tmp 2)],1,[]⟩
theorem D2:SC Tryz.prog 192 EN:=okF Tryz.func192
noncomputable def tO:jD:=cF [] Tryz.f194
theorem GS:SC Tryz.prog 194 tO:=okF Tryz.func194
noncomputable def SL:jD:=cF [] Tryz.f195
theorem lQ:SC Tryz.prog 195 SL:=okF Tryz.func195
noncomputable def nP:jD:=cF [] Tryz.f196
theorem XU:SC Tryz.prog 196 nP:=okF Tryz.func196
noncomputable def fN:jD:=cF [] Tryz.f197
theorem GR:SC Tryz.prog 197 fN:=okF Tryz.func197
noncomputable def sN:jD:=cF [] Tryz.f198
theorem SR:SC Tryz.prog 198 sN:=okF Tryz.func198
noncomputable def LO:jD:=cF [] Tryz.f199
theorem PT:SC Tryz.prog 199 LO:=okF Tryz.func199
def BE:C:=oR [oB 27 .lss 26 25] (.seq (oD 27 .skip (.exit 2)) (.seq (.block 3 (oR [oI 28 13 24 26,oA 29 13 28,oY 9 zze,oV 13 9 29] (oR [oF 30 4 9,oL 31 30,oM 32 31,oLg 33 1 1 32 true,oFg 34 2 9 32 true,oP 35 34 32 true,oFg 36 5 9 32 true,oLg 37 8 36 32 true,oG 38 (.call .any 27 [(.t 33),(.t 35),(.t 37)]) 32 true,oUg 39 38 32 true,oPa 40 32 39] (oD 40 (oR [oM 41 6,oF 42 0 9,oL 43 42,oM 2 41,oM 3 43,oJ 4 1] .ret) .skip)))) (.reg [oC 44 .add 26 1,oM 26 44])))
def KJ:C:=oR [oB 19 .lss 18 17] (.seq (oD 19 .skip (.exit 0)) (.seq (.block 1 (oR [oM 20 18,oI 21 10 16 18,oA 22 10 21,oY 7 zzb,oM 6 20,oV 10 7 22] (oR [oF 23 6 7,oL 24 23,oH 25 24,oJ 26 0] (.block 2 (.loop BE))))) (.reg [oC 45 .add 18 1,oM 18 45])))
def JH:jD:=⟨(oR [oQ 1 1 0,oJ 2 0,oJ 3 0,oJ 4 0] (.seq (oR [oA 10 1 1,oC1 11 77 10,oM 5 11] (oR [oM 12 5,oC 13 .neq 12 0] (oD 13 (oR [oM 14 5,oJ 2 0,oJ 3 0,oM 4 14] .ret) .skip))) (.seq (oR [oF 15 0 1,oL 16 15,oH 17 16,oJ 18 0] (.block 0 (.loop KJ))) (oR [oJ 2 0,oJ 3 0,oJ 4 0] .ret)))),[(.tmp 2),(.tmp 3),(.tmp 4)],1,[]⟩
theorem tV:SC Tryz.prog 200 JH:=okF Tryz.func200
def bK:C:=oR [oB 55 .lss 54 53] (.seq (oD 55 .skip (.exit 3)) (.seq (.block 4 (oR [oI 56 13 52 54,oA 57 13 56,oY 10 zze,oV 13 10 57] (.reg [oM 58 8,oM 59 1,oF 60 2 10,oL 61 60,oI 62 1 59 61,oL 63 62,oB 64 .add 58 63,oM 8 64]))) (.reg [oC 65 .add 54 1,oM 54 65])))
def nK:C:=oR [oB 36 .lss 35 34] (.seq (oD 36 .skip (.exit 1)) (.seq (.block 2 (oR [oI 37 13 33 35,oA 38 13 37,oY 7 zze,oV 13 7 38] (.reg [oM 39 5,oM 40 1,oF 41 2 7,oL 42 41,oI 43 1 40 42,oL 44 43,oB 45 .mul 39 44,oS 46 (.mm false (.c (.int .i64 2)) (.t 45)),oM 5 46]))) (.reg [oC 47 .add 35 1,oM 35 47])))
def LC:jD:=⟨(oR [oQ 2 10 0,oJ 4 0] (.seq (oR [oF 11 0 2,oL 12 11] (.block 0 (oR [oC 14 .eql 12 2,oM 13 14] (oD 13 (oR [oF 15 2 2,oL 16 15,oF 17 3 2,oL 18 17,oB 19 .eql 16 18] (oD 19 (oR [oJ 4 1] .ret) .skip)) (oR [oC 21 .eql 12 3,oM 20 21] (oD 20 (oR [oF 22 4 2,oL 23 22,oC 24 .eql 23 0] (oD 24 (oR [oJ 4 1] .ret) .skip)) (oR [oC 26 .eql 12 4,oM 25 26] (oD 25 (oR [oF 27 5 2,oL 28 27,oH 29 28,oM 4 29] .ret) (oR [oC 31 .eql 12 5,oM 30 31] (oD 30 (oR [oJ 5 1] (.seq (oR [oF 32 6 2,oL 33 32,oH 34 33,oJ 35 0] (.block 1 (.loop nK))) (oR [oM 48 5,oM 4 48] .ret))) (oR [oC 50 .eql 12 6,oM 49 50] (oD 49 (oR [oJ 8 0] (.seq (oR [oF 51 6 2,oL 52 51,oH 53 52,oJ 54 0] (.block 3 (.loop bK))) (oR [oM 66 8,oM 4 66] .ret))) (oR [oC 68 .eql 12 7,oM 67 68] (oD 67 (oR [oF 69 4 2,oL 70 69,oC 71 .eql 70 0,oM 72 71,oMg 73 1 72 false,oFg 74 8 2 72 false,oP 75 74 72 false,oIg 76 1 73 75 72 false,oP 77 76 72 false,oCi 78 .eql 77 0 72 false,oPo 79 72 78] (oD 79 (oR [oJ 4 1] .ret) .skip)) (oR [oC 81 .eql 12 8,oM 80 81] (oD 80 (oR [oF 82 4 2,oL 83 82,oC 84 .eql 83 0,oM 85 84,oMg 86 1 85 false,oFg 87 8 2 85 false,oP 88 87 85 false,oIg 89 1 86 88 85 false,oP 90 89 85 false,oCi 91 .eql 90 0 85 false,oPo 92 85 91,oM 93 92,oMg 94 1 93 false,oFg 95 7 2 93 false,oP 96 95 93 false,oIg 97 1 94 96 93 false,oP 98 97 93 false,oCi 99 .eql 98 0 93 false,oPo 100 93 99] (oD 100 (oR [oJ 4 1] .ret) .skip)) (oR [oC 102 .eql 12 9,oM 101 102] (oD 101 (oR [oM 103 1,oF 104 8 2,oL 105 104,oI 106 1 103 105,oL 107 106,oS 108 (.bin .add false (.c (.int .i64 1)) (.t 107)),oM 4 108] .ret) .skip)))))))))))))))))) (oR [oJ 4 2] .ret))),[(.tmp 4)],2,[]⟩
theorem sW:SC Tryz.prog 201 LC:=okF Tryz.func201
def jG:C:=oR [oB 20 .lss 19 18] (.seq (oD 20 .skip (.exit 0)) (.seq (.block 1 (oR [oM 21 19,oM 3 21] (oR [oM 22 0,oM 23 3,oS 24 (.index (.t 22) (.t 23)),oC1 25 241 24,oU 26 25,oM 27 26,oMg 28 0 27 true,oMg 29 3 27 true,oG 30 (.index (.t 28) (.t 29)) 27 true,oG 31 (.call .any 242 [(.t 30)]) 27 true,oUg 32 31 27 true,oPa 33 27 32] (oD 33 (oR [oZ 2 false] .ret) .skip)))) (.reg [oC 34 .add 19 1,oM 19 34])))
def FG:jD:=⟨(oR [oZ 2 false] (.seq (oR [oM 4 0,oS 5 (.bin .eql false (.t 4) (.c (.str (ByteArray.mk #[])))),oM 6 5,oMg 7 0 6 false,oG 8 (.len true (.t 7)) 6 false,oCi 9 .gtr 8 24 6 false,oPo 10 6 9,oM 11 10,oMg 12 0 11 false,oG 13 (.index (.t 12) (.c (.int .i64 0))) 11 false,oG 14 (.call .any 241 [(.t 13)]) 11 false,oUg 15 14 11 false,oPo 16 11 15] (oD 16 (oR [oZ 2 false] .ret) .skip)) (.seq (oR [oM 17 0,oS 18 (.len true (.t 17)),oJ 19 0] (.block 0 (.loop jG))) (oR [oZ 2 true] .ret)))),[(.tmp 2)],1,[]⟩
theorem WX:SC Tryz.prog 202 FG:=okF Tryz.func202
def RH:C:=oR [oB 10 .lss 9 8] (.seq (oD 10 .skip (.exit 0)) (.seq (.block 1 (oR [oI 11 2 7 9,oA 12 2 11,oY 6 zzh,oV 2 6 12] (.reg [oM 13 3,oF 14 0 6,oL 15 14,oS 16 (.XA [(.int .i64 0)] 1 [(0,(.t 15))]),oAp 17 3 1 8 13 16,oM 18 4,oF 19 1 6,oL 20 19,oS 21 (.XA [(.str (ByteArray.mk #[]))] 1 [(0,(.t 20))]),oAp 22 9 1 16 18 21,oM 3 17,oM 4 22]))) (.reg [oC 23 .add 9 1,oM 9 23])))
def UJ:jD:=⟨(oR [oZ 2 false] (oR [oS 3 (.mv (.c (.sl true [])))] (oR [oS 4 (.mv (.c (.sl true [])))] (.seq (oR [oM 7 0,oH 8 7,oJ 9 0] (.block 0 (.loop RH))) (oR [oM 24 0,oH 25 24,oC 26 .gtr 25 0,oM 27 26,oMg 28 3 27 true,oMg 29 4 27 true,oCg 30 243 28 29 27 true,oPa 31 27 30,oM 2 31] .ret))))),[(.tmp 2)],1,[]⟩
theorem rV:SC Tryz.prog 203 UJ:=okF Tryz.func203
def EH:C:=oR [oB 11 .lss 10 9] (.seq (oD 11 .skip (.exit 0)) (.seq (.block 1 (oR [oI 12 13 8 10,oA 13 13 12,oY 6 zze,oV 13 6 13] (oR [oM 14 3,oF 15 0 6,oL 16 15,oS 17 (.XA [(.int .i64 0)] 1 [(0,(.t 16))]),oAp 18 3 1 8 14 17,oM 19 4,oF 20 1 6,oL 21 20,oS 22 (.XA [(.str (ByteArray.mk #[]))] 1 [(0,(.t 21))]),oAp 23 9 1 16 19 22,oM 3 18,oM 4 23] (oR [oF 24 0 1,oL 25 24,oC 26 .eql 25 6,oM 27 26,oFg 28 3 6 27 true,oP 29 28 27 true,oMg 30 29 27 true,oFg 31 4 6 30 false,oP 32 31 30 false,oG 33 (.pick (.t 30) (.c (.bool true)) (.t 32)) 27 true,oPa 34 27 33,oM 35 34,oFg 36 3 6 35 false,oP 37 36 35 false,oMg 38 37 35 false,oFg 39 4 6 38 true,oP 40 39 38 true,oPb 41 38 40 35 false,oPo 42 35 41,oM 43 42,oFg 44 4 6 43 false,oP 45 44 43 false,oUg 46 45 43 false,oMg 47 46 43 false,oFg 48 5 6 47 true,oLg 49 8 48 47 true,oG 50 (.call .any 244 [(.t 49)]) 47 true,oUg 51 50 47 true,oPb 52 47 51 43 false,oPo 53 43 52] (oD 53 (oR [oZ 2 false] .ret) .skip))))) (.reg [oC 54 .add 10 1,oM 10 54])))
def TJ:jD:=⟨(oR [oQ 1 10 0,oZ 2 false] (oR [oS 3 (.mv (.c (.sl true [])))] (oR [oS 4 (.mv (.c (.sl true [])))] (.seq (oR [oF 7 6 1,oL 8 7,oH 9 8,oJ 10 0] (.block 0 (.loop EH))) (oR [oF 55 0 1,oL 56 55,oC 57 .eql 56 5,oM 58 57,oMg 59 3 58 false,oHg 60 59 58 false,oCi 61 .gtr 60 0 58 false,oPo 62 58 61,oM 63 62,oMg 64 3 63 true,oMg 65 4 63 true,oCg 66 243 64 65 63 true,oPa 67 63 66,oM 2 67] .ret))))),[(.tmp 2)],1,[]⟩
theorem eV:SC Tryz.prog 204 TJ:=okF Tryz.func204
def wE:jD:=⟨(oR [oQ 2 10 0,oQ 3 10 1,oZ 4 false] (oR [oF 5 0 2,oL 6 5,oF 7 0 3,oL 8 7,oB 9 .eql 6 8,oM 10 9,oFg 11 1 2 10 true,oP 12 11 10 true,oFg 13 1 3 10 true,oP 14 13 10 true,oBg 15 .eql 12 14 10 true,oPa 16 10 15,oM 17 16,oFg 18 2 2 17 true,oP 19 18 17 true,oFg 20 2 3 17 true,oP 21 20 17 true,oBg 22 .eql 19 21 17 true,oPa 23 17 22,oM 24 23,oFg 25 3 2 24 true,oP 26 25 24 true,oFg 27 3 3 24 true,oP 28 27 24 true,oBg 29 .eql 26 28 24 true,oPa 30 24 29,oM 31 30,oFg 32 4 2 31 true,oP 33 32 31 true,oFg 34 4 3 31 true,oP 35 34 31 true,oBg 36 .eql 33 35 31 true,oPa 37 31 36,oM 38 37,oFg 39 7 2 38 true,oP 40 39 38 true,oFg 41 7 3 38 true,oP 42 41 38 true,oBg 43 .eql 40 42 38 true,oPa 44 38 43,oM 45 44,oFg 46 8 2 45 true,oP 47 46 45 true,oFg 48 8 3 45 true,oP 49 48 45 true,oBg 50 .eql 47 49 45 true,oPa 51 45 50,oM 52 51,oFg 53 9 2 52 true,oP 54 53 52 true,oFg 55 9 3 52 true,oP 56 55 52 true,oG 57 (.bin .eql true (.t 54) (.t 56)) 52 true,oPa 58 52 57,oM 59 58,oFg 60 5 2 59 true,oP 61 60 59 true,oFg 62 5 3 59 true,oP 63 62 59 true,oCg 64 245 61 63 59 true,oPa 65 59 64,oM 66 65,oFg 67 6 2 66 true,oP 68 67 66 true,oFg 69 6 3 66 true,oP 70 69 66 true,oG 71 (.call .any 246 [(.t 68),(.t 70),(.c (.fn 247 []))]) 66 true,oPa 72 66 71,oM 4 72] .ret)),[(.tmp 4)],2,[]⟩
theorem ZX:SC Tryz.prog 205 wE:=okF Tryz.func205
def wJ:jD:=⟨(oR [oS 2 (.mv (.c (.int .u64 0)))] (.seq (oR [oM 3 0,oC 4 .geq 3 0] (oD 4 (oR [oM 5 0,oS 6 (.conv (.some .u64) (.t 5)),oS 7 (.bin .mul false (.c (.int .u64 2)) (.t 6)),oM 2 7] .ret) .skip)) (oR [oM 8 0,oC 9 .add 8 1,oS 10 (.un .neg (.t 9)),oS 11 (.conv (.some .u64) (.t 10)),oS 12 (.bin .mul false (.c (.int .u64 2)) (.t 11)),oS 13 (.bin .add false (.t 12) (.c (.int .u64 1))),oM 2 13] .ret))),[(.tmp 2)],1,[]⟩
theorem EX:SC Tryz.prog 213 wJ:=okF Tryz.func213
def GI:C:=.seq (oR [oM 7 6,oF 8 6 2,oL 9 8,oH 10 9,oB 11 .lss 7 10] (oD 11 .skip (.exit 0))) (.seq (.block 1 (oR [oF 14 6 2,oL 15 14,oM 16 6,oI 17 13 15 16,oF 18 0 17,oL 19 18,oM 20 1,oB 21 .eql 19 20] (oD 21 (oR [oM 22 6,oM 4 22,oZ 5 true] .ret) .skip))) (.reg [oM 12 6,oC 13 .add 12 1,oM 6 13]))
def eL:jD:=⟨(oR [oQ 2 10 0,oJ 4 0,oZ 5 false] (.seq (oR [oJ 6 0] (.block 0 (.loop GI))) (oR [oJ 4 0,oZ 5 false] .ret))),[(.tmp 4),(.tmp 5)],2,[]⟩
theorem UX:SC Tryz.prog 214 eL:=okF Tryz.func214
def bN:jD:=⟨(oR [oS 2 (.mv (.c (.str (ByteArray.mk #[]))))] (oR [oM 3 0,oS 4 (.len true (.t 3)),oS 5 (.conv (.some .u64) (.t 4)),oC1 6 93 5,oM 7 0,oB 8 .add 6 7,oM 2 8] .ret)),[(.tmp 2)],1,[]⟩
theorem B1:SC Tryz.prog 215 bN:=okF Tryz.func215
def NJ:jD:=⟨(oR [oS 6 (.mv (.c (.str (ByteArray.mk #[]))))] (oR [oM 8 0,oS 9 (.bin .mul false (.c (.int .i64 2)) (.t 8)),oS 10 (.conv (.some .u64) (.t 9)),oM 7 10] (.seq (oR [oM 11 1] (oD 11 (.reg [oM 12 7,oS 13 (.bin .add false (.t 12) (.c (.int .u64 1))),oM 7 13]) .skip)) (oR [oM 14 7,oC1 15 93 14,oM 16 2,oC1 17 215 16,oB 18 .add 15 17,oM 6 18] .ret)))),[(.tmp 6)],3,[]⟩
theorem PZ:SC Tryz.prog 216 NJ:=okF Tryz.func216
def pE:jD:=⟨(oR [oQ 2 13 0,oQ 3 13 1,oZ 4 false] (oR [oF 5 0 2,oL 6 5,oF 7 0 3,oL 8 7,oB 9 .eql 6 8,oM 10 9,oFg 11 1 2 10 true,oP 12 11 10 true,oFg 13 1 3 10 true,oP 14 13 10 true,oBg 15 .eql 12 14 10 true,oPa 16 10 15,oM 17 16,oFg 18 2 2 17 true,oP 19 18 17 true,oFg 20 2 3 17 true,oP 21 20 17 true,oBg 22 .eql 19 21 17 true,oPa 23 17 22,oM 24 23,oFg 25 3 2 24 true,oP 26 25 24 true,oFg 27 3 3 24 true,oP 28 27 24 true,oG 29 (.bin .eql true (.t 26) (.t 28)) 24 true,oPa 30 24 29,oM 31 30,oFg 32 4 2 31 true,oP 33 32 31 true,oFg 34 4 3 31 true,oP 35 34 31 true,oG 36 (.bin .eql true (.t 33) (.t 35)) 31 true,oPa 37 31 36,oM 38 37,oFg 39 5 2 38 true,oLg 40 8 39 38 true,oFg 41 5 3 38 true,oLg 42 8 41 38 true,oCg 43 36 40 42 38 true,oPa 44 38 43,oM 4 44] .ret)),[(.tmp 4)],2,[]⟩
theorem AS:SC Tryz.prog 217 pE:=okF Tryz.func217
def wL:jD:=⟨(oR [oZ 2 false] (oR [oM 3 0,oS 4 (.bin .geq false (.t 3) (.c (.int .u8 97))),oM 5 4,oMg 6 0 5 true,oG 7 (.bin .leq false (.t 6) (.c (.int .u8 122))) 5 true,oPa 8 5 7,oM 9 8,oMg 10 0 9 false,oG 11 (.bin .geq false (.t 10) (.c (.int .u8 65))) 9 false,oMg 12 11 9 false,oMg 13 0 12 true,oG 14 (.bin .leq false (.t 13) (.c (.int .u8 90))) 12 true,oPb 15 12 14 9 false,oPo 16 9 15,oM 17 16,oMg 18 0 17 false,oG 19 (.bin .eql false (.t 18) (.c (.int .u8 95))) 17 false,oPo 20 17 19,oM 2 20] .ret)),[(.tmp 2)],1,[]⟩
theorem TX:SC Tryz.prog 218 wL:=okF Tryz.func218
def zM:jD:=⟨(oR [oZ 2 false] (oR [oM 3 0,oS 4 (.bin .geq false (.t 3) (.c (.int .u8 48))),oM 5 4,oMg 6 0 5 true,oG 7 (.bin .leq false (.t 6) (.c (.int .u8 57))) 5 true,oPa 8 5 7,oM 2 8] .ret)),[(.tmp 2)],1,[]⟩
theorem WZ:SC Tryz.prog 219 zM:=okF Tryz.func219
def qQ:jD:=⟨(oR [oZ 4 false] (oR [oM 5 1,oM 6 0,oB 7 .gtr 5 6,oM 8 7,oMg 9 1 8 true,oCi 10 .geq 9 1 8 true,oPa 11 8 10,oM 12 11,oMg 13 1 12 true,oCi 14 .leq 13 1000 12 true,oPa 15 12 14,oM 4 15] .ret)),[(.tmp 4)],2,[]⟩
theorem b8:SC Tryz.prog 220 qQ:=okF Tryz.func220
def RC:jD:=⟨(oR [oQ 1 8 0,oZ 2 false] (oR [oF 4 0 1,oL 5 4,oM 3 5] (oR [oM 6 3,oC 7 .eql 6 1,oM 8 7,oFg 9 1 1 8 false,oP 10 9 8 false,oUg 11 10 8 false,oPo 12 8 11,oM 13 12,oMg 14 3 13 true,oCi 15 .eql 14 2 13 true,oMg 16 15 13 true,oFg 17 2 1 16 false,oP 18 17 16 false,oCi 19 .eql 18 0 16 false,oG 20 (.pick (.t 16) (.c (.bool true)) (.t 19)) 13 true,oPa 21 13 20,oM 22 21,oMg 23 3 22 true,oCi 24 .eql 23 3 22 true,oMg 25 24 22 true,oFg 26 3 1 25 false,oP 27 26 25 false,oG 28 (.bin .eql false (.t 27) (.c (.str (ByteArray.mk #[])))) 25 false,oG 29 (.pick (.t 25) (.c (.bool true)) (.t 28)) 22 true,oPa 30 22 29,oM 31 30,oMg 32 3 31 true,oCi 33 .eql 32 4 31 true,oMg 34 33 31 true,oMg 35 3 34 false,oCi 36 .eql 35 6 34 false,oG 37 (.pick (.t 34) (.c (.bool true)) (.t 36)) 31 true,oMg 38 37 31 true,oFg 39 4 1 38 false,oP 40 39 38 false,oCi 41 .eql 40 0 38 false,oG 42 (.pick (.t 38) (.c (.bool true)) (.t 41)) 31 true,oPa 43 31 42,oM 44 43,oMg 45 3 44 true,oCi 46 .eql 45 8 44 true,oMg 47 46 44 true,oFg 48 5 1 47 false,oP 49 48 47 false,oHg 50 49 47 false,oCi 51 .eql 50 0 47 false,oG 52 (.pick (.t 47) (.c (.bool true)) (.t 51)) 44 true,oPa 53 44 52,oM 54 53,oMg 55 3 54 true,oCi 56 .geq 55 5 54 true,oMg 57 56 54 true,oFg 58 6 1 57 false,oP 59 58 57 false,oHg 60 59 57 false,oCi 61 .eql 60 0 57 false,oG 62 (.pick (.t 57) (.c (.bool true)) (.t 61)) 54 true,oPa 63 54 62,oM 64 63,oMg 65 3 64 true,oCi 66 .eql 65 5 64 true,oMg 67 66 64 true,oMg 68 3 67 false,oCi 69 .eql 68 6 67 false,oG 70 (.pick (.t 67) (.c (.bool true)) (.t 69)) 64 true,oMg 71 70 64 true,oFg 72 7 1 71 false,oP 73 72 71 false,oHg 74 73 71 false,oCi 75 .eql 74 0 71 false,oG 76 (.pick (.t 71) (.c (.bool true)) (.t 75)) 64 true,oPa 77 64 76,oM 2 77] .ret))),[(.tmp 2)],1,[]⟩
theorem C1:SC Tryz.prog 221 RC:=okF Tryz.func221
def HI:C:=.seq (oR [oM 7 6,oF 8 5 2,oL 9 8,oH 10 9,oB 11 .lss 7 10] (oD 11 .skip (.exit 0))) (.seq (.block 1 (oR [oF 14 5 2,oL 15 14,oM 16 6,oI 17 2 15 16,oF 18 0 17,oL 19 18,oM 20 1,oB 21 .eql 19 20] (oD 21 (oR [oM 22 6,oM 4 22,oZ 5 true] .ret) .skip))) (.reg [oM 12 6,oC 13 .add 12 1,oM 6 13]))
def rL:jD:=⟨(oR [oQ 2 10 0,oJ 4 0,oZ 5 false] (.seq (oR [oJ 6 0] (.block 0 (.loop HI))) (oR [oJ 4 0,oZ 5 false] .ret))),[(.tmp 4),(.tmp 5)],2,[]⟩
theorem IX:SC Tryz.prog 222 rL:=okF Tryz.func222
noncomputable def mY:jD:=cF [] Tryz.f223
theorem n8:SC Tryz.prog 223 mY:=okF Tryz.func223
def LQ:C:=.seq (oR [oM 8 5,oM 9 1,oH 10 9,oB 11 .lss 8 10] (oD 11 .skip (.exit 0))) (.seq (.block 1 (oR [oA 15 10 2,oM 16 1,oM 17 5,oI 18 2 16 17,oF 19 0 18,oL 20 19,oC2 21 214 15 20,oM 14 21,oX 22 14 0,oX 23 14 1,oM 6 22,oM 7 23] (oR [oM 24 1,oM 25 5,oI 26 2 24 25,oF 27 0 26,oL 28 27,oM 29 7,oC2 30 223 28 29,oU 31 30,oM 32 31,oMg 33 5 32 false,oCi 34 .gtr 33 0 32 false,oMg 35 34 32 false,oMg 36 1 35 true,oMg 37 5 35 true,oIg 38 2 36 37 35 true,oFg 39 0 38 35 true,oP 40 39 35 true,oMg 41 1 35 true,oMg 42 5 35 true,oCi 43 .sub 42 1 35 true,oIg 44 2 41 43 35 true,oFg 45 0 44 35 true,oP 46 45 35 true,oBg 47 .leq 40 46 35 true,oPb 48 35 47 32 false,oPo 49 32 48] (oD 49 (oR [oZ 4 false] .ret) .skip)))) (.reg [oM 12 5,oC 13 .add 12 1,oM 5 13]))
def cN:jD:=⟨(oR [oQ 2 10 0,oZ 4 false] (.seq (oR [oJ 5 0] (.block 0 (.loop LQ))) (oR [oZ 4 true] .ret))),[(.tmp 4)],2,[]⟩
theorem X1:SC Tryz.prog 224 cN:=okF Tryz.func224
def tL:C:=.seq (oR [oM 10 9,oM 11 2,oH 12 11,oB 13 .lss 10 12] (oD 13 .skip (.exit 0))) (.seq (.block 1 (oR [oA 16 1 4,oM 17 1,oM 18 2,oM 19 9,oI 20 8 18 19,oA 21 8 20,oM 22 3,oC4 23 161 16 17 21 22,oU 24 23] (oD 24 (oR [oZ 8 false] .ret) .skip))) (.reg [oM 14 9,oC 15 .add 14 1,oM 9 15]))
def CO:jD:=⟨(oR [oQ 4 1 0,oZ 8 false] (.seq (oR [oJ 9 0] (.block 0 (.loop tL))) (oR [oZ 8 true] .ret))),[(.tmp 8)],4,[]⟩
theorem X5:SC Tryz.prog 225 CO:=okF Tryz.func225
def fD:jD:=⟨(oR [oQ 2 8 0,oQ 3 8 1,oJ 4 0] (.seq (oR [oF 5 0 2,oL 6 5,oF 7 0 3,oL 8 7,oB 9 .neq 6 8] (oD 9 (oR [oJ 4 0] .ret) .skip)) (.seq (oR [oF 10 0 2,oL 11 10] (.block 0 (oR [oC 13 .eql 11 1,oM 12 13] (oD 12 (oR [oF 14 1 3,oL 15 14,oF 16 1 2,oL 17 16,oF 18 1 3,oL 19 18,oS 20 (.bin .eql true (.t 17) (.t 19)),oC2 21 251 15 20,oM 4 21] .ret) (oR [oC 23 .eql 11 2,oM 22 23] (oD 22 (oR [oF 24 2 2,oL 25 24,oC1 26 213 25,oF 27 2 3,oL 28 27,oC1 29 213 28,oB 30 .lss 26 29,oF 31 2 2,oL 32 31,oF 33 2 3,oL 34 33,oB 35 .eql 32 34,oC2 36 251 30 35,oM 4 36] .ret) (oR [oC 38 .eql 11 3,oM 37 38] (oD 37 (.seq (oR [oF 39 3 2,oL 40 39,oS 41 (.len true (.t 40)),oF 42 3 3,oL 43 42,oS 44 (.len true (.t 43)),oB 45 .neq 41 44] (oD 45 (oR [oF 46 3 2,oL 47 46,oS 48 (.len true (.t 47)),oF 49 3 3,oL 50 49,oS 51 (.len true (.t 50)),oB 52 .lss 48 51,oS 53 (.call .any 251 [(.t 52),(.c (.bool false))]),oM 4 53] .ret) .skip)) (oR [oF 54 3 2,oL 55 54,oF 56 3 3,oL 57 56,oB 58 .lss 55 57,oF 59 3 2,oL 60 59,oF 61 3 3,oL 62 61,oB 63 .eql 60 62,oC2 64 251 58 63,oM 4 64] .ret)) (oR [oC 66 .eql 11 4,oM 65 66] (oD 65 (oR [oF 67 4 2,oL 68 67,oF 69 4 3,oL 70 69,oB 71 .lss 68 70,oF 72 4 2,oL 73 72,oF 74 4 3,oL 75 74,oB 76 .eql 73 75,oC2 77 251 71 76,oM 4 77] .ret) .skip)))))))))) (oR [oJ 4 0] .ret)))),[(.tmp 4)],2,[]⟩
theorem mW:SC Tryz.prog 226 fD:=okF Tryz.func226
def jH:jD:=⟨(oR [oJ 4 0] (.seq (.block 0 (oR [oM 6 0,oC 7 .gtr 6 0,oM 5 7] (oD 5 (oR [oM 8 0,oM 4 8] .ret) (oR [oM 10 1,oC 11 .lss 10 0,oM 9 11] (oD 9 (oR [oM 12 1,oM 4 12] .ret) .skip))))) (oR [oJ 4 0] .ret))),[(.tmp 4)],2,[]⟩
theorem ET:SC Tryz.prog 227 jH:=okF Tryz.func227
def PG:jD:=⟨(oR [oQ 3 1 0,oQ 5 8 2,oY 6 zzg] (oR [oA 10 1 3,oM 11 1,oA 12 8 5,oS 13 (.call .any 29 [(.t 10),(.t 11),(.t 12)]),oM 9 13,oX 14 9 0,oX 15 9 1,oM 7 14,oM 8 15] (.seq (oR [oM 16 8,oC 17 .neq 16 0,oM 18 17,oMg 19 7 18 false,oCi 20 .gtr 19 4096 18 false,oPo 21 18 20] (oD 21 (oR [oS 22 (.build zzg [(0,(1,(.c (.bool true)))),(1,(1,(.c (.bool true))))]),oV 11 6 22] .ret) .skip)) (oR [oS 23 (.load (.root 3) true 1 (.t 3)),oM 24 1,oS 25 (.load (.root 5) true 8 (.t 5)),oS 26 (.call .RB 252 [(.t 23),(.t 24),(.t 25)]),oS 27 (.load (.root 5) true 8 (.t 5)),oS 28 (.build zzg [(0,(1,(.c (.bool true)))),(2,(1,(.t 26))),(3,(8,(.t 27)))]),oN (.store (.root 6) true 11 (.t 6) (.t 28))] .ret)))),[(.cell 6 true 11)],3,[]⟩
theorem LU:SC Tryz.prog 228 PG:=okF Tryz.func228
def TE:C:=oR [oB 9 .lss 8 7] (.seq (oD 9 .skip (.exit 0)) (.seq (.block 1 (oR [oM 10 8,oM 5 10] (oR [oM 11 1,oM 12 0,oM 13 5,oI 14 8 12 13,oA 15 8 14,oS 16 (.RA .any (.t 11) [(.t 15)])] (oD 16 (oR [oM 17 5,oM 4 17] .ret) .skip)))) (.reg [oC 18 .add 8 1,oM 8 18])))
def dF:jD:=⟨(oR [oJ 4 0] (.seq (oR [oM 6 0,oH 7 6,oJ 8 0] (.block 0 (.loop TE))) (oR [oJ 4 (-1)] .ret))),[(.tmp 4)],2,[]⟩
theorem NM:SC Tryz.prog 230 dF:=okF Tryz.func230
noncomputable def bR:jD:=cF [] Tryz.f231
theorem FX:SC Tryz.prog 231 bR:=okF Tryz.func231
def oE:C:=oR [oB 14 .lss 13 12] (.seq (oD 14 .skip (.exit 0)) (.seq (.block 1 (oR [oM 15 13,oM 5 15] (oR [oM 16 0,oM 17 5,oI 18 2 16 17,oA 19 2 18,oM 20 1,oM 21 5,oI 22 2 20 21,oA 23 2 22,oS 24 (.iC true [0,1] (.t 19) (.t 23))] (oD 24 (oR [oZ 4 false] .ret) .skip)))) (.reg [oC 25 .add 13 1,oM 13 25])))
def IF:jD:=⟨(oR [oZ 4 false] (.seq (oR [oM 6 0,oH 7 6,oM 8 1,oH 9 8,oB 10 .neq 7 9] (oD 10 (oR [oZ 4 false] .ret) .skip)) (.seq (oR [oM 11 0,oH 12 11,oJ 13 0] (.block 0 (.loop oE))) (oR [oZ 4 true] .ret)))),[(.tmp 4)],2,[]⟩
theorem HP:SC Tryz.prog 232 IF:=okF Tryz.func232
def XD:C:=oR [oB 18 .lss 17 16] (.seq (oD 18 .skip (.exit 0)) (.seq (.block 1 (oR [oM 19 17,oI 20 8 15 17,oA 21 8 20,oY 8 zza,oM 7 19,oV 8 8 21] (oR [oM 22 1,oM 23 7,oI 24 8 22 23,oA 25 8 24,oY 9 zza,oV 8 9 25] (oR [oM 26 2,oA 27 8 8,oA 28 8 9,oS 29 (.RA .any (.t 26) [(.t 27),(.t 28)]),oU 30 29] (oD 30 (oR [oZ 6 false] .ret) .skip))))) (.reg [oC 31 .add 17 1,oM 17 31])))
def jE:jD:=⟨(oR [oZ 6 false] (.seq (oR [oM 10 0,oH 11 10,oM 12 1,oH 13 12,oB 14 .neq 11 13] (oD 14 (oR [oZ 6 false] .ret) .skip)) (.seq (oR [oM 15 0,oH 16 15,oJ 17 0] (.block 0 (.loop XD))) (oR [oZ 6 true] .ret)))),[(.tmp 6)],3,[]⟩
theorem BM:SC Tryz.prog 233 jE:=okF Tryz.func233
def iG:C:=.block 1 (oR [oM 21 2,oM 22 1,oB 23 .sub 21 22,oM 12 23] (.seq (oR [oM 24 12,oC 25 .leq 24 12] (oD 25 (oR [oM 26 0,oM 27 1,oM 28 2,oM 29 4,oS 30 (.lA 148 (.c (.fn 254 [])) [(.t 26),(.t 27),(.t 28),(.t 29)])] .ret) .skip)) (.seq (oR [oM 31 3,oC 32 .eql 31 0] (oD 32 (oR [oM 33 0,oM 34 1,oM 35 2,oM 36 4,oC4 37 255 33 34 35 36] .ret) .skip)) (.seq (oR [oM 38 10,oU 39 38] (oD 39 (oR [oM 40 0,oM 41 1,oM 42 2,oM 43 4,oC4 44 256 40 41 42 43] (.reg [oM 45 3,oC 46 .sub 45 1,oM 3 46])) .skip)) (oR [oM 48 0,oM 49 1,oM 50 2,oM 51 4,oC4 52 257 48 49 50 51,oM 47 52,oX 53 47 0,oX 54 47 1,oM 13 53,oM 14 54] (.seq (oR [oM 55 14,oC 56 .eql 55 2] (oD 56 (oR [oM 57 0,oM 58 1,oM 59 2,oM 60 4,oC4 61 258 57 58 59 60] (oR [oM 62 2,oC 63 .sub 62 1,oM 64 13,oM 65 1,oB 66 .sub 64 65,oB 67 .sub 63 66,oM 13 67] (.reg [oJ 14 1]))) .skip)) (.seq (oR [oM 68 10,oM 69 68,oMg 70 11 69 true,oPa 71 69 70,oM 72 71,oMg 73 14 72 true,oCi 74 .eql 73 1 72 true,oPa 75 72 74] (oD 75 (oR [oM 76 0,oM 77 1,oM 78 2,oM 79 4,oC4 80 259 76 77 78 79] (oD 80 .ret .skip)) .skip)) (.seq (oR [oM 81 1,oC 82 .gtr 81 0,oM 83 82,oMg 84 4 83 true,oMg 85 0 83 true,oMg 86 1 83 true,oCi 87 .sub 86 1 83 true,oIg 88 2 85 87 83 true,oLg 89 2 88 83 true,oMg 90 0 83 true,oMg 91 13 83 true,oIg 92 2 90 91 83 true,oLg 93 2 92 83 true,oG 94 (.RA .any (.t 84) [(.t 89),(.t 93)]) 83 true,oCi 95 .lss 94 0 83 true,oUg 96 95 83 true,oPa 97 83 96] (oD 97 (oR [oM 98 0,oM 99 1,oM 100 2,oM 101 13,oM 102 4,oS 103 (.call .any 260 [(.t 98),(.t 99),(.t 100),(.t 101),(.t 102)]),oM 15 103] (oR [oM 104 15,oM 1 104] (.exit 1))) .skip)) (oR [oM 106 0,oM 107 1,oM 108 2,oM 109 13,oM 110 4,oS 111 (.call .any 261 [(.t 106),(.t 107),(.t 108),(.t 109),(.t 110)]),oM 105 111,oX 112 105 0,oX 113 105 1,oM 16 112,oM 17 113] (oR [oM 114 17,oM 11 114] (oR [oM 115 16,oM 116 1,oB 117 .sub 115 116,oM 118 2,oM 119 16,oB 120 .sub 118 119,oM 18 117,oM 19 120] (oR [oM 121 12,oC 122 .quo 121 8,oM 20 122] (oR [oM 123 18,oM 124 19,oB 125 .lss 123 124] (oD 125 (oR [oM 126 18,oM 127 20,oB 128 .geq 126 127,oM 10 128] (oR [oM 129 0,oM 130 1,oM 131 16,oM 132 3,oM 133 4,oS 134 (.call .any 237 [(.t 129),(.t 130),(.t 131),(.t 132),(.t 133)])] (.reg [oM 135 16,oC 136 .add 135 1,oM 1 136]))) (oR [oM 137 19,oM 138 20,oB 139 .geq 137 138,oM 10 139] (oR [oM 140 0,oM 141 16,oC 142 .add 141 1,oM 143 2,oM 144 3,oM 145 4,oS 146 (.call .any 237 [(.t 140),(.t 142),(.t 143),(.t 144),(.t 145)])] (.reg [oM 147 16,oM 2 147])))))))))))))))))
def qE:jD:=⟨(oR [oZ 10 true] (oR [oZ 11 true] (.block 0 (.loop iG)))),[],5,[1000000+254]⟩
theorem AJ:SC Tryz.prog 237 qE:=okF Tryz.func237
noncomputable def zR:jD:=cF [] Tryz.f239
theorem bX:SC Tryz.prog 239 zR:=okF Tryz.func239
noncomputable def KQ:jD:=cF [] Tryz.f240
theorem xW:SC Tryz.prog 240 KQ:=okF Tryz.func240
def QJ:jD:=⟨(oR [oZ 2 false] (oR [oM 3 0,oS 4 (.bin .eql false (.t 3) (.c (.int .u8 95))),oM 5 4,oMg 6 0 5 false,oG 7 (.bin .geq false (.t 6) (.c (.int .u8 97))) 5 false,oMg 8 7 5 false,oMg 9 0 8 true,oG 10 (.bin .leq false (.t 9) (.c (.int .u8 122))) 8 true,oPb 11 8 10 5 false,oPo 12 5 11,oM 13 12,oMg 14 0 13 false,oG 15 (.bin .geq false (.t 14) (.c (.int .u8 65))) 13 false,oMg 16 15 13 false,oMg 17 0 16 true,oG 18 (.bin .leq false (.t 17) (.c (.int .u8 90))) 16 true,oPb 19 16 18 13 false,oPo 20 13 19,oM 2 20] .ret)),[(.tmp 2)],1,[]⟩
theorem ZU:SC Tryz.prog 241 QJ:=okF Tryz.func241
def sK:jD:=⟨(oR [oZ 2 false] (oR [oM 3 0,oS 4 (.bin .geq false (.t 3) (.c (.int .u8 48))),oM 5 4,oMg 6 0 5 true,oG 7 (.bin .leq false (.t 6) (.c (.int .u8 57))) 5 true,oPa 8 5 7,oM 2 8] .ret)),[(.tmp 2)],1,[]⟩
theorem kW:SC Tryz.prog 242 sK:=okF Tryz.func242
def AD:C:=oR [oB 12 .lss 11 10] (.seq (oD 12 .skip (.exit 0)) (.seq (.block 1 (oR [oM 13 11,oI 14 1 9 11,oL 15 14,oM 6 13,oM 7 15] (.seq (oR [oM 16 7,oC 17 .lss 16 1,oM 18 17,oMg 19 7 18 false,oCi 20 .gtr 19 1000 18 false,oPo 21 18 20,oM 22 21,oMg 23 6 22 false,oCi 24 .gtr 23 0 22 false,oMg 25 24 22 false,oMg 26 7 25 true,oMg 27 0 25 true,oMg 28 6 25 true,oCi 29 .sub 28 1 25 true,oIg 30 1 27 29 25 true,oP 31 30 25 true,oBg 32 .leq 26 31 25 true,oPb 33 25 32 22 false,oPo 34 22 33,oM 35 34,oMg 36 5 35 false,oMg 37 1 35 false,oMg 38 6 35 false,oIg 39 1 37 38 35 false,oP 40 39 35 false,oG 41 (.OB false .none (.bool false) (.t 36) (.t 40)) 35 false,oPo 42 35 41,oM 43 42,oMg 44 1 43 false,oMg 45 6 43 false,oIg 46 1 44 45 43 false,oP 47 46 43 false,oG 48 (.call .any 202 [(.t 47)]) 43 false,oUg 49 48 43 false,oPo 50 43 49] (oD 50 (oR [oZ 4 false] .ret) .skip)) (.reg [oM 51 5,oM 52 1,oM 53 6,oI 54 1 52 53,oL 55 54,oN (.SB .none (.t 51) (.t 55) (.c (.bool true)))])))) (.reg [oC 56 .add 11 1,oM 11 56])))
def nN:jD:=⟨(oR [oZ 4 false] (oR [oS 8 (.fC),oM 5 8] (.seq (oR [oM 9 0,oH 10 9,oJ 11 0] (.block 0 (.loop AD))) (oR [oM 57 0,oH 58 57,oC 59 .leq 58 16,oM 4 59] .ret)))),[(.tmp 4)],2,[]⟩
theorem W2:SC Tryz.prog 243 nN:=okF Tryz.func243
def jL:jD:=⟨(oR [oQ 1 8 0,oZ 2 false] (oR [oA 3 8 1,oS 4 (.build zza []),oC2 5 248 3 4,oM 2 5] .ret)),[(.tmp 2)],1,[]⟩
theorem LX:SC Tryz.prog 244 jL:=okF Tryz.func244
def SD:C:=oR [oB 14 .lss 13 12] (.seq (oD 14 .skip (.exit 0)) (.seq (.block 1 (oR [oM 15 13,oM 5 15] (oR [oM 16 0,oM 17 5,oI 18 2 16 17,oA 19 2 18,oM 20 1,oM 21 5,oI 22 2 20 21,oA 23 2 22,oS 24 (.iC true [0,1] (.t 19) (.t 23))] (oD 24 (oR [oZ 4 false] .ret) .skip)))) (.reg [oC 25 .add 13 1,oM 13 25])))
def ZE:jD:=⟨(oR [oZ 4 false] (.seq (oR [oM 6 0,oH 7 6,oM 8 1,oH 9 8,oB 10 .neq 7 9] (oD 10 (oR [oZ 4 false] .ret) .skip)) (.seq (oR [oM 11 0,oH 12 11,oJ 13 0] (.block 0 (.loop SD))) (oR [oZ 4 true] .ret)))),[(.tmp 4)],2,[]⟩
theorem kO:SC Tryz.prog 245 ZE:=okF Tryz.func245
def HD:C:=oR [oB 18 .lss 17 16] (.seq (oD 18 .skip (.exit 0)) (.seq (.block 1 (oR [oM 19 17,oI 20 13 15 17,oA 21 13 20,oY 8 zze,oM 7 19,oV 13 8 21] (oR [oM 22 1,oM 23 7,oI 24 13 22 23,oA 25 13 24,oY 9 zze,oV 13 9 25] (oR [oM 26 2,oA 27 13 8,oA 28 13 9,oS 29 (.RA .any (.t 26) [(.t 27),(.t 28)]),oU 30 29] (oD 30 (oR [oZ 6 false] .ret) .skip))))) (.reg [oC 31 .add 17 1,oM 17 31])))
def tE:jD:=⟨(oR [oZ 6 false] (.seq (oR [oM 10 0,oH 11 10,oM 12 1,oH 13 12,oB 14 .neq 11 13] (oD 14 (oR [oZ 6 false] .ret) .skip)) (.seq (oR [oM 15 0,oH 16 15,oJ 17 0] (.block 0 (.loop HD))) (oR [oZ 6 true] .ret)))),[(.tmp 6)],3,[]⟩
theorem iM:SC Tryz.prog 246 tE:=okF Tryz.func246
def bE:jD:=⟨(oR [oQ 2 13 0,oQ 3 13 1,oZ 4 false] (oR [oF 5 0 2,oL 6 5,oF 7 0 3,oL 8 7,oB 9 .eql 6 8,oM 10 9,oFg 11 1 2 10 true,oP 12 11 10 true,oFg 13 1 3 10 true,oP 14 13 10 true,oBg 15 .eql 12 14 10 true,oPa 16 10 15,oM 17 16,oFg 18 2 2 17 true,oP 19 18 17 true,oFg 20 2 3 17 true,oP 21 20 17 true,oBg 22 .eql 19 21 17 true,oPa 23 17 22,oM 24 23,oFg 25 3 2 24 true,oP 26 25 24 true,oFg 27 3 3 24 true,oP 28 27 24 true,oG 29 (.bin .eql true (.t 26) (.t 28)) 24 true,oPa 30 24 29,oM 31 30,oFg 32 4 2 31 true,oP 33 32 31 true,oFg 34 4 3 31 true,oP 35 34 31 true,oG 36 (.bin .eql true (.t 33) (.t 35)) 31 true,oPa 37 31 36,oM 38 37,oFg 39 5 2 38 true,oLg 40 8 39 38 true,oFg 41 5 3 38 true,oLg 42 8 41 38 true,oCg 43 248 40 42 38 true,oPa 44 38 43,oM 4 44] .ret)),[(.tmp 4)],2,[]⟩
theorem DT:SC Tryz.prog 247 bE:=okF Tryz.func247
def uF:jD:=⟨(oR [oQ 2 8 0,oQ 3 8 1,oZ 4 false] (oR [oF 5 0 2,oL 6 5,oF 7 0 3,oL 8 7,oB 9 .eql 6 8,oM 10 9,oFg 11 1 2 10 true,oP 12 11 10 true,oFg 13 1 3 10 true,oP 14 13 10 true,oG 15 (.bin .eql true (.t 12) (.t 14)) 10 true,oPa 16 10 15,oM 17 16,oFg 18 2 2 17 true,oP 19 18 17 true,oFg 20 2 3 17 true,oP 21 20 17 true,oBg 22 .eql 19 21 17 true,oPa 23 17 22,oM 24 23,oFg 25 3 2 24 true,oP 26 25 24 true,oFg 27 3 3 24 true,oP 28 27 24 true,oBg 29 .eql 26 28 24 true,oPa 30 24 29,oM 31 30,oFg 32 4 2 31 true,oP 33 32 31 true,oFg 34 4 3 31 true,oP 35 34 31 true,oBg 36 .eql 33 35 31 true,oPa 37 31 36,oM 38 37,oFg 39 7 2 38 true,oP 40 39 38 true,oFg 41 7 3 38 true,oP 42 41 38 true,oCg 43 232 40 42 38 true,oPa 44 38 43,oM 45 44,oFg 46 5 2 45 true,oP 47 46 45 true,oFg 48 5 3 45 true,oP 49 48 45 true,oG 50 (.call .any 233 [(.t 47),(.t 49),(.c (.fn 248 []))]) 45 true,oPa 51 45 50,oM 52 51,oFg 53 6 2 52 true,oP 54 53 52 true,oFg 55 6 3 52 true,oP 56 55 52 true,oG 57 (.call .any 233 [(.t 54),(.t 56),(.c (.fn 248 []))]) 52 true,oPa 58 52 57,oM 4 58] .ret)),[(.tmp 4)],2,[]⟩
theorem CZ:SC Tryz.prog 248 uF:=okF Tryz.func248
def bM:jD:=⟨(oR [oJ 4 0] (.seq (oR [oM 5 1] (oD 5 (oR [oJ 4 0] .ret) .skip)) (.seq (oR [oM 6 0] (oD 6 (oR [oJ 4 (-1)] .ret) .skip)) (oR [oJ 4 1] .ret)))),[(.tmp 4)],2,[]⟩
theorem OZ:SC Tryz.prog 251 bM:=okF Tryz.func251
def FI:jD:=⟨(oR [oQ 3 1 0,oQ 5 8 2,oS 6 (.mv (.c (.str (ByteArray.mk #[]))))] (oR [oA 10 1 3,oM 11 1,oA 12 8 5,oS 13 (.call .any 30 [(.t 10),(.t 11),(.t 12)]),oM 9 13,oX 14 9 0,oX 15 9 1,oM 7 14,oM 8 15] (.seq (oR [oM 16 8,oC 17 .eql 16 0] (oD 17 (oR [oM 18 7,oM 6 18] .ret) .skip)) (oR [oS 6 (.mv (.c (.str (ByteArray.mk #[]))))] .ret)))),[(.tmp 6)],3,[]⟩
theorem RT:SC Tryz.prog 252 FI:=okF Tryz.func252
def fF:C:=.seq (oR [oM 18 9,oM 19 1,oB 20 .gtr 18 19,oM 21 20,oMg 22 3 21 true,oMg 23 0 21 true,oMg 24 9 21 true,oIg 25 2 23 24 21 true,oLg 26 2 25 21 true,oMg 27 0 21 true,oMg 28 9 21 true,oCi 29 .sub 28 1 21 true,oIg 30 2 27 29 21 true,oLg 31 2 30 21 true,oG 32 (.RA .any (.t 22) [(.t 26),(.t 31)]) 21 true,oCi 33 .lss 32 0 21 true,oPa 34 21 33] (oD 34 .skip (.exit 2))) (.seq (.block 3 (.reg [oM 37 0,oM 38 9,oM 39 0,oM 40 9,oC 41 .sub 40 1,oM 42 0,oM 43 9,oC 44 .sub 43 1,oI 45 2 42 44,oS 46 (.load .RB true 2 (.t 45)),oM 47 0,oM 48 9,oI 49 2 47 48,oS 50 (.load .RB true 2 (.t 49)),oI 51 2 37 38,oV 2 51 46,oI 52 2 39 41,oV 2 52 50])) (.reg [oM 35 9,oC 36 .sub 35 1,oM 9 36]))
def ND:C:=.seq (oR [oM 12 8,oM 13 2,oB 14 .lss 12 13] (oD 14 .skip (.exit 0))) (.seq (.block 1 (oR [oM 17 8,oM 9 17] (.block 2 (.loop fF)))) (.reg [oM 15 8,oC 16 .add 15 1,oM 8 16]))
def ED:jD:=⟨(oR [oM 10 1,oC 11 .add 10 1,oM 8 11] (.block 0 (.loop ND))),[],4,[]⟩
theorem CH:SC Tryz.prog 254 ED:=okF Tryz.func254
section
def Det {α:Type}(f:(α->OC->Option RV)->Option RV):Prop:=(∀k,f k=none)\/∃e s',∀k,f k=k e s'
theorem Det.bind {α β:Type}{f:(α->OC->Option RV)->Option RV}(h:Det f){g:(β->OC->Option RV)->α->OC->Option RV}(hg:∀e s,Det fun k=>g k e s):Det fun k=>f (g k):=by
 rcases h with h|⟨e,s,h⟩
 ·exact .inl fun k=>h _
 ·rcases hg e s with h2 | ⟨e',s',h2⟩
  ·exact .inl fun k=>(h _).trans (h2 k)
  ·exact .inr ⟨e',s',fun k=>(h _).trans (h2 k)⟩
theorem Det.no {α:Type}:Det fun(_:α->OC->Option RV)=>none:=.inl fun _=>rfl
section
variable {call:DD} {lh:LH}
end
section
variable {T:Nat->Option jD} {ext:DD}
end
end
noncomputable def allL:List (Nat×jD):=[(4,FD),(5,ZS),(6,AH),(8,lM),(9,QI),(10,HF),(11,WI),(12,RJ),(13,SH),(14,GQ),(15,eU),(16,wU),(17,XS),(18,DH),(19,rO),(20,fL),(23,HM),(24,MJ),(25,qK),(26,lG),(27,EI),(28,nM),(29,kM),(30,pK),(31,sG),(32,ZQ),(33,cR),(34,KO),(35,HG),(36,rE),(37,jI),(38,QR),(39,mM),(40,ZL),(41,BO),(42,dL),(44,xN),(51,ZO),(54,zN),(55,CJ),(56,PH),(57,rJ),(58,GF),(59,FL),(60,OG),(61,GE),(63,UC),(64,xR),(65,WH),(66,HH),(67,bJ),(68,AC),(69,lN),(70,gH),(71,lF),(72,eK),(73,kL),(74,JQ),(75,gN),(76,OH),(77,uJ),(78,uO),(79,KI),(80,HQ),(81,mR),(82,nR),(83,uU),(84,UK),(85,BS),(86,CQ),(87,JM),(88,QP),(89,GL),(93,XO),(94,CC),(95,xM),(96,dK),(97,cM),(98,pL),(99,iH),(100,aK),(101,sF),(102,aG),(103,xI),(106,AE),(107,xK),(108,iU),(109,zK),(110,IJ),(111,wK),(112,zG),(113,xE),(114,IK),(115,HL),(116,LL),(117,KM),(118,EG),(119,nJ),(120,QN),(121,WN),(122,UG),(123,NG),(125,MK),(127,iK),(128,rI),(129,mP),(130,dN),(131,DL),(132,GM),(133,FM),(134,kI),(135,mJ),(136,FC),(137,wH),(138,zI),(143,lR),(146,FO),(147,GO),(148,MS),(149,JO),(150,XL),(151,gL),(152,CS),(153,XQ),(155,rD),(156,bD),(157,BJ),(158,GG),(159,lK),(160,fK),(161,GC),(162,tD),(163,qF),(164,lE),(165,tI),(167,nD),(168,eF),(169,aI),(170,wF),(171,pI),(172,WD),(173,pH),(174,BQ),(175,JL),(176,NS),(177,tJ),(178,iF),(179,WP),(180,OF),(188,IH),(189,qJ),(190,eE),(191,ZF),(192,EN),(194,tO),(195,SL),(196,nP),(197,fN),(198,sN),(199,LO),(200,JH),(201,LC),(202,FG),(203,UJ),(204,TJ),(205,wE),(213,wJ),(214,eL),(215,bN),(216,NJ),(217,pE),(218,wL),(219,zM),(220,qQ),(221,RC),(222,rL),(223,mY),(224,cN),(225,CO),(226,fD),(227,jH),(228,PG),(230,dF),(231,bR),(232,IF),(233,jE),(237,qE),(239,zR),(240,KQ),(241,QJ),(242,sK),(243,nN),(244,jL),(245,ZE),(246,tE),(247,bE),(248,uF),(251,bM),(252,FI),(254,ED)]
noncomputable def dD (f:Nat):Option jD:=allL.lookup f
def okL:List (Nat×jD)->Prop
 | []=>True
 |x::r=>SC Tryz.prog x.1 x.2/\okL r
theorem Tj:∀{l:List (Nat×jD)},okL l->∀{f:Nat}{c:jD},l.lookup f=some c->SC Tryz.prog f c
 | [],_,_,_,h=>by cases h
 |(g,d)::r,hl,f,c,h=>by
  rw[List.lookup_cons]at h;cases e:f==g with
  |true=>rw[e]at h;cases h;cases of_decide_eq_true e;exact hl.1
  |false=>rw[e]at h;exact Tj hl.2 h
theorem Gz (f:Nat)(c:jD)(h:dD f=some c):SC Tryz.prog f c:=Tj (l:=allL) ⟨tR,mZ,AX,QZ,FZ,WW,GZ,M1,SX,jW,N1,J1,UZ,GX,DS,SP,L5,AZ,SZ,pP,MZ,JZ,nZ,uW,ZI,EW,DX,OT,PS,AT,pW,XX,BZ,QQ,FT,AP,Z1,J5,K1,RZ,MU,PX,iW,xQ,LJ,PW,I2,QX,KR,AL,DU,iP,G1,QT,eR,TO,GP,zW,HR,HU,KX,HS,aN,lW,JX,HX,Q2,aP,KZ,TW,pR,qV,cQ,K5,Z5,EZ,cW,IZ,OX,dW,fW,aW,rR,SW,CX,OW,O2,IW,U2,RO,dP,JR,sP,bQ,mQ,aR,SJ,FU,E2,P2,PP,kQ,mX,tW,IS,CU,DR,zQ,iR,uR,gW,KU,XZ,RK,MM,cX,TT,UT,ZZ,IT,WQ,DP,HZ,RW,QW,NU,TZ,RX,nW,bW,C5,DZ,WT,JU,OS,T2,aM,FS,pM,SS,WL,AW,UW,nQ,LZ,ON,NZ,wV,BH,GU,nX,PL,jO,D2,GS,lQ,XU,GR,SR,PT,tV,sW,WX,rV,eV,ZX,EX,UX,B1,PZ,AS,TX,WZ,b8,C1,IX,n8,X1,X5,mW,ET,LU,NM,FX,HP,BM,AJ,bX,xW,ZU,kW,W2,LX,kO,iM,DT,CZ,OZ,RT,CH,trivial⟩ h
section
mutual
def AV.beq:AV->AV->Bool
 |.int k n,.int k' n'=>decide (k=k')&&decide (n=n')
 |.bool a,.bool b=>a == b
 |.str a,.str b=>decide (a=b)
 |.QA,.QA=>true
 |.ptr t n o,.ptr t' n' o'=>Nat.beq t t'&&Nat.beq n n'&&Nat.beq o o'
 |.ip l,.ip m=>AV.IB l m
 |.bp l,.bp m=>AV.IB l m
 |.sl b l,.sl b' m=>(b == b')&&AV.GB l m
 |.bl l,.bl m=>AV.GB l m
 |.fn f l,.fn g m=>Nat.beq f g&&AV.IB l m
 |.agg l,.agg m=>AV.IB l m
 |.sA l,.sA m=>AV.IB l m
 |.undef,.undef=>true
 |_,_=>false
def AV.IB:List AV->List AV->Bool
 | [],[]=>true
 |x::l,y::m=>AV.beq x y&&AV.IB l m
 |_,_=>false
def AV.GB:List (List AV)->List (List AV)->Bool
 | [],[]=>true
 |x::l,y::m=>AV.IB x y&&AV.GB l m
 |_,_=>false
end
mutual
theorem AV.beq_eq:∀(x y:AV),AV.beq x y=true->x=y
 |.int k n,y,h=>by cases y<;>simp[AV.beq]at h<;>simp[h]
 |.bool a,y,h=>by cases y<;>simp[AV.beq]at h<;>simp[h]
 |.str a,y,h=>by cases y<;>simp[AV.beq]at h<;>simp[h]
 |.QA,y,h=>by cases y<;>simp[AV.beq]at h<;>rfl
 |.ptr t n o,y,h=>by cases y<;>simp[AV.beq]at h<;>simp[h]
 |.ip l,y,h=>by cases y<;>simp only[AV.beq]at h<;>first|cases h|rw[AV.BA l _ h]
 |.bp l,y,h=>by cases y<;>simp only[AV.beq]at h<;>first|cases h|rw[AV.BA l _ h]
 |.sl b l,y,h=>by
  cases y<;>simp only[AV.beq]at h<;>first|cases h|skip
  rw[y9]at h
  rw[AV.FB l _ h.2,show b=_ from by simpa using h.1]
 |.bl l,y,h=>by cases y<;>simp only[AV.beq]at h<;>first|cases h|rw[AV.FB l _ h]
 |.ref ..,y,h=>by cases y<;>simp[AV.beq]at h
 |.mp ..,y,h=>by cases y<;>simp[AV.beq]at h
 |.fn f l,y,h=>by
  cases y<;>simp only[AV.beq]at h<;>first|cases h|skip
  rw[y9]at h
  rw[AV.BA l _ h.2,show f=_ from by simpa using h.1]
 |.agg l,y,h=>by cases y<;>simp only[AV.beq]at h<;>first|cases h|rw[AV.BA l _ h]
 |.sA l,y,h=>by cases y<;>simp only[AV.beq]at h<;>first|cases h|rw[AV.BA l _ h]
 |.undef,y,h=>by cases y<;>simp[AV.beq]at h<;>rfl
theorem AV.BA:∀(x y:List AV),AV.IB x y=true->x=y
 | [],[],_=>rfl
 | [],_::_,h=>by simp[AV.IB]at h
 |_::_,[],h=>by simp[AV.IB]at h
 |x::l,y::m,h=>by
  simp only[AV.IB,y9]at h
  rw[AV.beq_eq x y h.1,AV.BA l m h.2]
theorem AV.FB:∀(x y:List (List AV)),AV.GB x y=true->x=y
 | [],[],_=>rfl
 | [],_::_,h=>by simp[AV.GB]at h
 |_::_,[],h=>by simp[AV.GB]at h
 |x::l,y::m,h=>by
  simp only[AV.GB,y9]at h
  rw[AV.BA x y h.1,AV.FB l m h.2]
end
def AV.beqO:Option AV->Option AV->Bool
 |none,none=>true
 |some x,some y=>AV.beq x y
 |_,_=>false
theorem AV.beqO_eq:∀(x y:Option AV),AV.beqO x y=true->x=y
 |none,none,_=>rfl
 |none,some _,h=>by cases h
 |some _,none,h=>by cases h
 |some x,some y,h=>by rw[AV.beq_eq x y h]
structure ME where
 f:Nat
 args:List AV
 S:Option AV
 r:RV
def Kh:List ME->DD
 | [],_,_,_=>none
 |e::l,f,args,S=>if Nat.beq e.f f&&(AV.IB e.args args&&AV.beqO e.S S)then some e.r else Kh l f args S
mutual
noncomputable def qT (M:List ME)(T:Nat->Option jD)(ext:DD):Nat->DD
 |0,f,args,S0=>match T f with
  |none=>ext f args S0
  |some _=>none
 |n+1,f,args,S0=>match Kh M f args S0 with
  |some r=>some r
  |none=>match T f with
   |none=>ext f args S0
   |some c=>match oT args,S0 with
    |some rest,some (.agg cs)=>if rest.length=c.np/\PI rest=false then c.code.run (qT M T ext n) ⟨Ni M T ext n,Ra M T ext n⟩ (OC.TB rest cs) (tM c cs.length)else none
    |some _,_=>none
    |none,_=>if args.length=c.np/\PI args=false/\Qj S0=true then c.code.run (qT M T ext n) ⟨Ni M T ext n,Ra M T ext n⟩ (OC.init args S0) (fin c S0)
     else if args.length=c.np+1/\PI args=true/\PI args.tail=false/\S0.isNone=true then c.code.run (qT M T ext n) ⟨Ni M T ext n,Ra M T ext n⟩ (OC.init args.tail none) (W5 c)else none
noncomputable def Ni (M:List ME)(T:Nat->Option jD)(ext:DD):Nat->Oz
 |0,_,_,_=>none
 |n+1,b,s,k=>b.run (qT M T ext n) ⟨Ni M T ext n,Ra M T ext n⟩ s (XN (Ni M T ext n) b k)
noncomputable def Ra (M:List ME)(T:Nat->Option jD)(ext:DD):Nat->HpT
 |0,_,_,_,_=>none
 |n+1,f,args,s,k=>match T f with
  |none=>none
  |some c=>if args.length=c.np then c.code.run (qT M T ext n) ⟨Ni M T ext n,Ra M T ext n⟩ (s.UB args) (pO c k)else none
end
variable {T:Nat->Option jD} {ext:DD} {M:List ME}
def OD (T:Nat->Option jD)(ext:DD)(M:List ME):Prop:=∀f args S r,Kh M f args S=some r->jU T ext f args S=some r
theorem Aa (hM:OD T ext M):∀N,(∀f args S r,qT M T ext N f args S=some r->BD fun m=>RG T ext m f args S=some r) ∧
  (∀b s k r (km:Nat->Ex->OC->Option RV),(∀e s' r',k e s'=some r'->BD fun m=>km m e s'=some r')->Ni M T ext N b s k=some r->BD fun m=>QO T ext m b s (km m)=some r) ∧
  LW (Ra M T ext N) (lP T ext)
 |0=>by
  refine⟨fun f args S r h=>⟨0,fun m _=>?_⟩,fun b s k r km _ h=>(by cases h),fun f xs s k r km _ h=>(by cases h)⟩;unfold qT at h;cases hT:T f with
  |none=>rw[hT]at h;cases m<;>(unfold RG;rw[hT];exact h)
  |some c=>rw[hT]at h;cases h
 |N+1=>by
  obtain⟨uk,wi,wk⟩:=Aa hM N;refine⟨?_,?_,?_⟩
  ·intro f args S0 r h;unfold qT at h;cases hl:Kh M f args S0 with
   |some r' =>
    rw[hl]at h;injection h with h;subst h;exact E7 f args S0 _ (hM f args S0 _ hl)
   |none =>
   rw[hl]at h;simp only at h;cases hT:T f with
   |none=>rw[hT]at h;exact⟨0,fun m _=>by cases m<;>(unfold RG;rw[hT];exact h)⟩
   |some c =>
    rw[hT]at h;cases hm:oT args with
    |some rest =>
     cases S0 with
     |none=>rw[hm]at h;cases h
     |some S =>
      cases S with
      |agg cs =>
       rw[hm]at h;simp only at h;split at h
       ·rename_i hl;refine BD.pred ((FF (lpA:=⟨Ni M T ext N,Ra M T ext N⟩) (lpB:=fun m=>⟨QO T ext m,lP T ext m⟩) uk wk wi c.code _ _ r (fun _=>tM c cs.length) (fun e s' r' h'=>BD.now h') h).imp fun m jb=>?_);unfold RG;rw[hT];simp only[hm];rw[if_pos hl];exact jb
       ·cases h
      |_=>rw[hm]at h;cases h
    |none =>
     rw[hm]at h;simp only at h;split at h
     ·rename_i hl;refine BD.pred ((FF (lpA:=⟨Ni M T ext N,Ra M T ext N⟩) (lpB:=fun m=>⟨QO T ext m,lP T ext m⟩) uk wk wi c.code _ _ r (fun _=>fin c S0) (fun e s' r' h'=>BD.now h') h).imp fun m jb=>?_);unfold RG;rw[hT];simp only[hm];rw[if_pos hl];exact jb
     ·rename_i hl;split at h
      ·rename_i oj;refine BD.pred ((FF (lpA:=⟨Ni M T ext N,Ra M T ext N⟩) (lpB:=fun m=>⟨QO T ext m,lP T ext m⟩) uk wk wi c.code _ _ r (fun _=>W5 c) (fun e s' r' h'=>BD.now h') h).imp fun m jb=>?_);unfold RG;rw[hT];simp only[hm];rw[if_neg hl,if_pos oj];exact jb
      ·cases h
  ·intro b s k r km hk h;unfold Ni at h;refine BD.pred ((FF (lpA:=⟨Ni M T ext N,Ra M T ext N⟩) (lpB:=fun m=>⟨QO T ext m,lP T ext m⟩) uk wk wi b s _ r (fun m=>XN (QO T ext m) b (km (m + 1))) (fun e s' r' h'=>?_) h).imp fun m hm=>?_)
   ·cases e with
    |nrm=>exact wi b s' k r' (fun m=>km (m+1)) (fun e s'' r'' h''=>(hk e s'' r'' h'').succ) h'
    |exit id=>exact(hk _ _ _ h').succ
    |ret=>exact(hk _ _ _ h').succ
   ·unfold QO;exact hm
  ·intro f xs s k r km hk h;unfold Ra at h;cases hT:T f with
   |none=>rw[hT]at h;cases h
   |some c =>
    rw[hT]at h;simp only at h;split at h
    ·rename_i hl;refine BD.pred ((FF (lpA:=⟨Ni M T ext N,Ra M T ext N⟩) (lpB:=fun m=>⟨QO T ext m,lP T ext m⟩) uk wk wi c.code _ _ r (fun m=>pO c (km (m + 1))) (fun e s' r' h'=>?_) h).imp fun m hm=>?_)
     ·cases e with
      |exit id=>cases h'
      |nrm =>
       simp only[pO]at h' ⊢;obtain⟨y,hy,h'⟩:=y5.1 h';simp only[hy,J];exact(hk _ _ _ h').succ
      |ret =>
       simp only[pO]at h' ⊢;obtain⟨y,hy,h'⟩:=y5.1 h';simp only[hy,J];exact(hk _ _ _ h').succ
     ·unfold lP;rw[hT];simp only;rw[if_pos hl];exact hm
    ·cases h
theorem OD.nil:OD T ext []:=fun f args S r h=>by cases h
theorem OD.run (hM:OD T ext M){f:Nat}{args:List AV}{S:Option AV}{r:RV}(N:Nat)(h:qT M T ext N f args S=some r):jU T ext f args S=some r:=by
 obtain⟨m,hm⟩:=((Aa hM N).1 f args S r h).some;exact RP.2 ⟨m,hm⟩
theorem OD.cons (hM:OD T ext M){e:ME}(h:jU T ext e.f e.args e.S=some e.r):OD T ext (e::M):=fun f args S r hl=>by
 unfold Kh at hl;split at hl
 ·rename_i hc;simp only [y9] at hc;obtain ⟨h1,h2,h3⟩:=hc;injection hl with hl;have h1:e.f=f:=by simpa using h1
  rw[<- h1,<- AV.BA _ _ h2,<- AV.beqO_eq _ _ h3,<- hl];exact h
 ·exact hM f args S r hl
theorem OD.more (hM:OD T ext M)(N:Nat)(e:ME)(h:qT M T ext N e.f e.args e.S=some e.r):OD T ext (e::M):=hM.cons (hM.run N h)
end
section
def putE (e:Nat->WC)(d:Nat)(x:WC):Nat->WC:=fun t=>if t=d then x else e t
theorem dI (e:Nat->WC)(d:Nat)(x:WC)(t:Nat):putE e d x t=if t=d then x else e t:=(rfl)
def Pm (m:Nat->Nat->Option (List WC))(t n:Nat)(r:List WC):Nat->Nat->Option (List WC):=fun t' n'=>if t'=t/\n'=n then some r else m t' n'
theorem jV (m:Nat->Nat->Option (List WC))(t n:Nat)(r:List WC)(t' n':Nat):Pm m t n r t' n'=if t'=t/\n'=n then some r else m t' n':=(rfl)
def setO (m:Nat->Nat->Option AV)(t n:Nat)(r:AV):Nat->Nat->Option AV:=fun t' n'=>if t'=t/\n'=n then some r else m t' n'
theorem Am (m:Nat->Nat->Option AV)(t n:Nat)(r:AV)(t' n':Nat):setO m t n r t' n'=if t'=t/\n'=n then some r else m t' n':=(rfl)
def b6 (k:Nat)(e:Nat->WC):Nat->WC:=fun t=>(e t).strip k
theorem Hp (k:Nat)(e:Nat->WC)(t:Nat):b6 k e t=(e t).strip k:=(rfl)
def Ul (k:Nat)(m:Nat->Nat->Option (List WC)):Nat->Nat->Option (List WC):=fun t n=>(m t n).map (·.map (WC.strip k))
theorem Jp (k:Nat)(m:Nat->Nat->Option (List WC))(t n:Nat):Ul k m t n=(m t n).map (·.map (WC.strip k)):=(rfl)
theorem WC.strip_v (k:Nat)(x:WC):(x.strip k).v=x.v:=(rfl)
theorem WC.strip_a (k:Nat)(x:WC):(x.strip k).a=x.a.strip k:=(rfl)
theorem WC.cC (k:Nat)(v:AV)(a:An):WC.strip k ⟨v,a⟩=⟨v,a.strip k⟩:=(rfl)
def Jz (args:List AV):Nat->WC:=fun t=>⟨args.getD t .undef,.no⟩
theorem Gw (args:List AV)(t:Nat):Jz args t=⟨args.getD t .undef,.no⟩:=(rfl)
def noM:Nat->Nat->Option (List WC):=fun _ _=>none
theorem noM_at (t n:Nat):noM t n=none:=(rfl)
def Ej (S0:Option AV):Nat->Nat->Option AV:=fun t n=>if t=0/\n=0 then S0 else none
theorem Cb (S0:Option AV)(t n:Nat):Ej S0 t n=if t=0/\n=0 then S0 else none:=(rfl)
def undE:Nat->WC:=fun _=>⟨.undef,.no⟩
theorem Zm (t:Nat):undE t=⟨.undef,.no⟩:=(rfl)
theorem O9 {α β:Type}(a:α)(f:α->Option β):(some a).bind f=f a:=(rfl)
theorem T6 {α β:Type}(f:α->β)(l:List α):(l.map f).take l.length=l.map f:=yB (by simp)
theorem m_init (args:List AV)(S0:Option AV):OC.init args S0=⟨Jz args,noM,1,Ej S0,undE⟩:=(rfl)
theorem m_put (s:OC)(d:Nat)(x:WC):s.put (some d) x=⟨putE s.env d x,s.mem,s.next,s.obj,s.gh⟩:=(rfl)
theorem m_put0 (s:OC)(x:WC):s.put none x=s:=(rfl)
theorem m_row (s:OC)(t n:Nat)(r:List WC):s.setRow t n r=⟨s.env,Pm s.mem t n r,s.next,s.obj,s.gh⟩:=(rfl)
theorem m_obj (s:OC)(t n:Nat)(r:AV):s.setObj t n r=⟨s.env,s.mem,s.next,setO s.obj t n r,s.gh⟩:=(rfl)
theorem Lb (s:OC)(k:Nat):s.strip k=⟨b6 k s.env,Ul k s.mem,s.next,s.obj,b6 k s.gh⟩:=(rfl)
theorem Zh (s:OC)(k:Nat)(e:TypeId):s.lB (.own k e)=s.strip k:=(rfl)
theorem Xh (s:OC):s.lB .ex=s:=(rfl)
def H7 (t n:Nat)(e:Nat->WC):Nat->WC:=fun j=>(e j).kill t n
theorem tZ (t n:Nat)(e:Nat->WC)(j:Nat):H7 t n e j=(e j).kill t n:=(rfl)
def Hr (t n:Nat)(m:Nat->Nat->Option (List WC)):Nat->Nat->Option (List WC):=fun t' n'=>if t'=t/\n'=n then none else(m t' n').map (·.map (WC.kill t n))
theorem uZ (t n:Nat)(m:Nat->Nat->Option (List WC))(t' n':Nat):Hr t n m t' n'=if t'=t/\n'=n then none else(m t' n').map (·.map (WC.kill t n)):=(rfl)
theorem WC.rC (t n:Nat)(x:WC):(x.kill t n).v=x.v.kill t n:=(rfl)
theorem WC.kill_a (t n:Nat)(x:WC):(x.kill t n).a=x.a:=(rfl)
theorem WC.kill_mk (t n:Nat)(v:AV)(a:An):WC.kill t n ⟨v,a⟩=⟨v.kill t n,a⟩:=(rfl)
theorem m_kill (s:OC)(t n:Nat):s.kA (some (t,n))=⟨H7 t n s.env,Hr t n s.mem,s.next,s.obj,H7 t n s.gh⟩:=(rfl)
def rowE (cs:List AV):Nat->Nat->Option (List WC):=fun t n=>if t=0/\n=0 then some (cs.map fun v=>⟨v,lD v⟩)else none
theorem Em (cs:List AV)(t n:Nat):rowE cs t n=if t=0/\n=0 then some (cs.map fun v=>⟨v,lD v⟩)else none:=(rfl)
theorem Hb (args cs:List AV):OC.TB args cs=⟨Jz args,rowE cs,1,Ej none,undE⟩:=by
 have:Ej none=fun _ _=>none:=by funext t n;simp[Ej]
 rw[this];rfl
def Qf (m:Nat->Nat->Option (List WC)):Nat->Nat->Option (List WC):=fun t n=>if t=0/\n=0 then none else m t n
theorem Ou (m:Nat->Nat->Option (List WC))(t n:Nat):Qf m t n=if t=0/\n=0 then none else m t n:=(rfl)
theorem Db (s:OC):s.ZA=⟨s.env,Qf s.mem,s.next,s.obj,s.gh⟩:=(rfl)
def Rl (xs:List WC):Nat->WC:=fun t=>xs.getD t ⟨.undef,.no⟩
theorem r9 (xs:List WC)(t:Nat):Rl xs t=xs.getD t ⟨.undef,.no⟩:=(rfl)
def Py (nt:Nat)(e g:Nat->WC):Nat->WC:=fun t=>if t<nt then e t else g (t-nt)
theorem aS (nt:Nat)(e g:Nat->WC)(t:Nat):Py nt e g t=if t<nt then e t else g (t-nt):=(rfl)
def backE (nt:Nat)(g:Nat->WC):Nat->WC:=fun t=>if t<nt then g t else⟨.undef,.no⟩
theorem Gs (nt:Nat)(g:Nat->WC)(t:Nat):backE nt g t=if t<nt then g t else⟨.undef,.no⟩:=(rfl)
def Wk (nt:Nat)(g:Nat->WC):Nat->WC:=fun t=>g (t+nt)
theorem U0 (nt:Nat)(g:Nat->WC)(t:Nat):Wk nt g t=g (t+nt):=(rfl)
theorem Gb (s:OC)(xs:List WC):s.UB xs=⟨Rl xs,s.mem,s.next,s.obj,s.gh⟩:=(rfl)
theorem Fb (s:OC)(nt:Nat):s.enter nt=⟨s.env,s.mem,s.next+1,s.obj,Py nt s.env s.gh⟩:=(rfl)
theorem Kb (s:OC)(nt:Nat):s.leave nt=⟨backE nt s.gh,s.mem,s.next,s.obj,Wk nt s.gh⟩:=(rfl)
theorem Jb (s:OC):s.kA none=s:=(rfl)
theorem rZ {v:AV}(h:v.iA=true)(t n:Nat):v.eA t n=v:=by
 cases v<;>first|rfl|(simp[AV.iA]at h;done)
theorem J7 {cs:List AV}(h:cs.all AV.iA=true)(t n:Nat):cs.map (AV.eA t n)=cs:=by
 have h1:cs.map (AV.eA t n)=cs.map id:=yw fun x hx=>rZ (y6.1 h x hx) t n
 rwa [List.map_id]at h1
theorem Si {v:AV}(h:v.free=true)(t n:Nat):v.kill t n=v:=by
 cases v with
 |agg cs=>exact congrArg AV.agg (J7 h t n)
 |_=>first|rfl|(simp[AV.free,AV.iA]at h;done)
theorem Cu {s:OC}{v:AV}(h:v.iA=true):v.DA s=v:=by
 cases v<;>first|rfl|(simp[AV.iA]at h;done)
theorem Pr {s:OC}{cs:List AV}(h:cs.all AV.iA=true):cs.map (AV.DA s)=cs:=by
 have h1:cs.map (AV.DA s)=cs.map id:=yw fun x hx=>Cu (y6.1 h x hx)
 rwa [List.map_id]at h1
theorem Kg {s:OC}{v:AV}(h:v.free=true):v.uB s=v:=by
 cases v with
 |agg cs=>exact congrArg AV.agg (Pr h)
 |_=>first|rfl|(simp[AV.free,AV.iA]at h;done)
section
variable {sz:Nat} {l:List (List AV)}
theorem IQ (l m:List (List AV)):HC (l++m)=HC l++HC m:=by simp[HC]
theorem JP (h:PD sz l=true):(HC l).length=l.length*sz:=by
 induction l with
 |nil=>simp[HC]
 |cons c r ih =>
  rw[pQ]at h;simp only[y9,decide_eq_true_eq]at h;have:=ih h.2;simp only[HC,yA,List.map_append,yC,yo,yE]at this ⊢;rw[this,h.1,yu];omega
theorem qS (h:PD sz l=true){k:Nat}(hk:k<=l.length):HC l=HC (l.take k)++HC (l.drop k)/\(HC (l.take k)).length=k*sz:=by
 refine⟨by rw[<- IQ,yR],?_⟩;rw[JP (UY h k),yM,Nat.min_eq_left hk]
theorem P0 (h:PD sz l=true){k:Nat}(hk:k<=l.length):(HC l).take (k*sz)=HC (l.take k):=by
 obtain⟨h1,h2⟩:=qS h hk;rw[h1,<- h2,List.take_left]
theorem OQ (h:PD sz l=true){k:Nat}(hk:k<=l.length):(HC l).drop (k*sz)=HC (l.drop k):=by
 obtain⟨h1,h2⟩:=qS h hk;rw[h1,<- h2,List.drop_left]
theorem zO (c:List AV)(r:List (List AV)):HC (c::r)=c.map (⟨·,.no⟩)++HC r:=by simp[HC]
theorem S3 (h:PD sz l=true){k:Nat}{c:List AV}(hk:l[k]?=some c):c.length=sz:=by
 simp only[PD,y6]at h;simpa using h c (yQ hk)
theorem dM (h:PD sz l=true){k:Nat}{c:List AV}(hk:l[k]?=some c):kD true sz (k*sz) (HC l)=some ⟨.agg c,.no⟩:=by
 have fa:=(yn.1 hk).1;have hc:=S3 h hk;have hd:l.drop k=c::l.drop (k+1):=by rw[yc fa,(yn.1 hk).2]
 simp only[kD,if_true,JP h];rw[if_pos (by rw[<- yu];exact yS _ fa),OQ h (by omega),hd,zO,<- hc,List.take_left' (by simp)];simp[Function.comp_def]
theorem K8 (h:PD 1 l=true){k:Nat}{x:AV}(hk:l[k]?=some [x]):(HC l)[k]?=some ⟨x,.no⟩:=by
 have fa:=(yn.1 hk).1;obtain⟨h1,h2⟩:=qS h (k:=k) (by omega);have hd:l.drop k=[x]::l.drop (k+1):=by rw[yc fa,(yn.1 hk).2]
 rw[h1,yN (by omega),h2,hd,zO];simp
theorem L8 (h:PD 1 l=true){k:Nat}{x:AV}(hk:l[k]?=some [x])(sz:Nat):kD false sz k (HC l)=some ⟨x,.no⟩:=by
 simp only[kD,yr,if_false];exact K8 h hk
theorem wS (h:PD sz l=true){k:Nat}(hk:k<l.length){c:List AV}(hc:c.length=sz)(a:An):MC true sz (k*sz) (HC l) (.agg c) a=some (HC (l.set k c)):=by
 simp only[MC,if_true,JP h];rw[if_pos ⟨hc,by rw[<- yu];exact yS _ hk⟩,P0 h (by omega),<- yu,OQ h hk,List.set_eq_take_append_cons_drop,if_pos hk,IQ,zO,List.append_assoc]
theorem SN (h:PD 1 l=true){k:Nat}(hk:k<l.length){x:AV}(hx:x.leaf=true)(sz:Nat):MC false sz k (HC l) x .no=some (HC (l.set k [x])):=by
 have ja:=JP h;simp only[MC,yr,if_false];rw[if_pos ⟨hx,by omega⟩];congr 1;have e1:=P0 h (k:=k) (by omega);have e2:=OQ h (k:=k+1) (by omega);simp only[Nat.mul_one]at e1 e2;rw[List.set_eq_take_append_cons_drop,if_pos (by omega),e1,e2,List.set_eq_take_append_cons_drop,if_pos hk,IQ,zO];simp
theorem zD (z off:Nat)(r:List WC):kD false z off r=r[off]?:=by simp[kD]
theorem xD (z off:Nat)(x:WC)(r:List WC):kD true z off (x::r)=if off+z<=(x::r).length then some ⟨.agg ((((x::r).drop off).take z).map (·.v)),.no⟩else none:=by simp[kD]
theorem wD (z off:Nat)(y:WC)(r:List WC)(x:AV)(a:An):MC false z off (y::r) x a=if x.leaf/\off<(y::r).length then some ((y::r).set off ⟨x,a⟩)else none:=by simp[MC]
theorem eD (z off:Nat)(y:WC)(r:List WC)(cs:List AV)(a:An):MC true z off (y::r) (.agg cs) a=if cs.length=z/\off+z<=(y::r).length then some ((y::r).take off++cs.map (⟨·,.no⟩)++(y::r).drop (off+z))else none:=by simp[MC]
def WM (l:List (List AV)):Bool:=l.all fun c=>c.all AV.iA
theorem qP {α:Type}(f:α->List AV)(l:List α)(h:∀x,(f x).all AV.iA=true):WM (l.map f)=true:=by
 simp only[WM,List.all_map,y6];exact fun x _=>h x
theorem WS (h:PD sz l=true)(hf:WM l=true):bH (HC l) sz 0 l.length=some l:=by
 unfold bH;rw[if_pos]
 ·congr 1;refine List.ext_getElem (by simp) fun i h1 h2=>?_
  simp only[List.getElem_map,List.getElem_range,yy];rw[OQ h (by omega),yc h2,zO];have hc:=S3 h (y7 h2);rw[<- hc,List.take_left' (by simp)];simp[Function.comp_def]
 ·refine⟨by rw[JP h];omega,?_⟩;simp only[HC,List.all_map,List.all_flatten,Function.comp_def];exact hf
end
section
variable {call:DD} {lp:LH} {T:Nat->Option jD} {ext:DD}
noncomputable def Om (call:DD)(lp:LH)(b:C)(k:Ex->OC->Option RV):Ex->OC->Option RV:=fun e s=>match e with
 |.nrm=>b.run call lp s k
 |e=>k e s
def regK (k:Ex->OC->Option RV):OC->Option RV:=fun s=>k .nrm { s with next:=s.next+1 }
noncomputable def opK (call:DD)(lp:LH)(r:List JC)(k:OC->Option RV):OC->Option RV:=fun s=>lJ call lp r s k
def wX (d:Option Nat)(nt:Nat)(k:OC->Option RV):WC->OC->Option RV:=fun y s'=>k ((s'.leave nt).put d y)
def Wc (id:Nat)(k:Ex->OC->Option RV):Ex->OC->Option RV:=fun e s=>match e with
 |.exit j=>if j=id then k .nrm s else k (.exit j) s
 |e=>k e s
def x7 (v:AV)(a b:Option RV):Option RV:=match v with
 |.bool t=>if t then a else b
 |_=>none
def FV (v:AV)(w:Bool)(a b:Option OC):Option OC:=match v with
 |.bool t=>if t=w then a else b
 |.sA []=>b
 |_=>none
def GV (v:AV)(w:Bool)(a b:Option RV):Option RV:=match v with
 |.bool t=>if t=w then a else b
 |.sA []=>b
 |_=>none
def fnC (v:AV)(h:Nat->List AV->Option RV):Option RV:=match v with
 |.fn f cs=>h f cs
 |_=>none
variable (b c:C) (s:OC) (k:Ex->OC->Option RV) (j id:Nat)
theorem Kk:Om call lp b k .nrm s=b.run call lp s k:=(rfl)
theorem Ap:Om call lp b k (.exit j) s=k (.exit j) s:=(rfl)
theorem Zk:Om call lp b k .ret s=k .ret s:=(rfl)
theorem Qm:regK k s=k .nrm ⟨s.env,s.mem,s.next+1,s.obj,s.gh⟩:=(rfl)
theorem opK_at (r:List JC)(k:OC->Option RV):opK call lp r k s=lJ call lp r s k:=(rfl)
theorem Sd (d:Option Nat)(nt:Nat)(k:OC->Option RV)(y:WC):wX d nt k y s=k ((s.leave nt).put d y):=(rfl)
theorem Td:Wc id k .nrm s=k .nrm s:=(rfl)
theorem My:Wc id k (.exit j) s=if j=id then k .nrm s else k (.exit j) s:=(rfl)
theorem Ud:Wc id k .ret s=k .ret s:=(rfl)
theorem G9 (x y:Option RV):x7 (.bool true) x y=x:=(rfl)
theorem c7 (x y:Option RV):x7 (.bool false) x y=y:=(rfl)
theorem P7 (t w:Bool)(x y:Option OC):FV (.bool t) w x y=if t=w then x else y:=(rfl)
theorem Z9 (w:Bool)(x y:Option OC):FV (.sA []) w x y=y:=(rfl)
theorem A7 (t w:Bool)(x y:Option RV):GV (.bool t) w x y=if t=w then x else y:=(rfl)
theorem X9 (w:Bool)(x y:Option RV):GV (.sA []) w x y=y:=(rfl)
theorem fnC_fn (f:Nat)(cs:List AV)(h:Nat->List AV->Option RV):fnC (.fn f cs) h=h f cs:=(rfl)
theorem r_skip:C.run call lp .skip s k=k .nrm s:=(rfl)
theorem r_seq:C.run call lp (.seq b c) s k=b.run call lp s (Om call lp c k):=(rfl)
theorem r_reg (ops:List JC):C.run call lp (.reg ops) s k=lJ call lp ops s (regK k):=(rfl)
theorem r_cond (x:KD):C.run call lp (.cond x b c) s k=x7 (x.get s) (b.run call lp s k) (c.run call lp s k):=(rfl)
theorem Nn:C.run call lp (.block id b) s k=b.run call lp s (Wc id k):=(rfl)
theorem r_loop:C.run call (Hu T ext) (.loop b) s k=OL T ext b s k:=(rfl)
theorem r_exit:C.run call lp (.exit id) s k=k (.exit id) s:=(rfl)
theorem r_ret:C.run call lp .ret s k=k .ret s:=(rfl)
theorem a_nrm:XN lp b k .nrm s=lp b s k:=(rfl)
theorem a_exit:XN lp b k (.exit j) s=k (.exit j) s:=(rfl)
theorem a_ret:XN lp b k .ret s=k .ret s:=(rfl)
theorem o_nil (k:OC->Option RV):lJ call lp [] s k=k s:=(rfl)
theorem o_cons (o:JC)(r:List JC)(k:OC->Option RV):lJ call lp (o::r) s k=o.rA call lp s (opK call lp r k):=(rfl)
theorem Im (d:Option Nat)(op:K):JC.step call ⟨d,op,none⟩ s=(op.run call s).bind (JC.eff ⟨d,op,none⟩ s):=(rfl)
theorem Um (d:Option Nat)(op:K)(t:Nat)(w:Bool):JC.step call ⟨d,op,some (t,w)⟩ s=FV (s.env t).v w ((op.run call s).bind (JC.eff ⟨d,op,none⟩ s)) (some (s.put d ⟨.sA [],.no⟩)):=by
 simp only[JC.step,FV];generalize(s.env t).v=v;cases v with
 |sA l=>cases l<;>rfl
 |_=>rfl
theorem Lv (d:Option Nat)(nt:Nat)(x:KD)(xs:List KD)(g:Option (Nat×Bool))(k:OC->Option RV):JC.rA call lp ⟨d,.lA nt x xs,g⟩ s k=sO s d g (rT lp d nt x xs s k) k:=(rfl)
theorem Ev (d:Option Nat)(a:Option RV)(k:OC->Option RV):sO s d none a k=a:=(rfl)
theorem Rv (d:Option Nat)(t:Nat)(w:Bool)(a:Option RV)(k:OC->Option RV):sO s d (some (t,w)) a k=GV (s.env t).v w a (k (s.put d ⟨.sA [],.no⟩)):=by
 simp only[sO,GV];generalize(s.env t).v=v;cases v with
 |sA l=>cases l<;>rfl
 |_=>rfl
theorem h_step (d:Option Nat)(nt:Nat)(x:KD)(xs:List KD)(k:OC->Option RV):rT (Hu T ext) d nt x xs s k=fnC (x.get s) fun f cs=>Gu T ext f (SM s xs++cs.map (⟨·,.no⟩)) (s.enter nt) (wX d nt k):=by
 simp only[rT,fnC];generalize x.get s=v;cases v<;>rfl
section
variable (d:Option Nat) (g:Option (Nat × Bool)) (k:OC->Option RV)
section
variable {x0}
include x0
theorem k_mv:JC.rA call lp ⟨d,.mv x0,g⟩ s k=(JC.step call ⟨d,.mv x0,g⟩ s).bind k:=(rfl)
theorem k_pick {x1} {x2}:JC.rA call lp ⟨d,.pick x0 x1 x2,g⟩ s k=(JC.step call ⟨d,.pick x0 x1 x2,g⟩ s).bind k:=(rfl)
theorem Hv:JC.rA call lp ⟨d,.alloc x0,g⟩ s k=(JC.step call ⟨d,.alloc x0,g⟩ s).bind k:=(rfl)
theorem k_box {x1}:JC.rA call lp ⟨d,.box x0 x1,g⟩ s k=(JC.step call ⟨d,.box x0 x1,g⟩ s).bind k:=(rfl)
theorem Jv {x1}:JC.rA call lp ⟨d,.build x0 x1,g⟩ s k=(JC.step call ⟨d,.build x0 x1,g⟩ s).bind k:=(rfl)
theorem k_bsl {x1} {x2}:JC.rA call lp ⟨d,.XA x0 x1 x2,g⟩ s k=(JC.step call ⟨d,.XA x0 x1 x2,g⟩ s).bind k:=(rfl)
theorem k_bslr {x1} {x2} {x3}:JC.rA call lp ⟨d,.AB x0 x1 x2 x3,g⟩ s k=(JC.step call ⟨d,.AB x0 x1 x2 x3,g⟩ s).bind k:=(rfl)
theorem k_load {x1} {x2} {x3}:JC.rA call lp ⟨d,.load x0 x1 x2 x3,g⟩ s k=(JC.step call ⟨d,.load x0 x1 x2 x3,g⟩ s).bind k:=(rfl)
theorem Rb {x1} {x2} {x3} {x4}:JC.rA call lp ⟨d,.store x0 x1 x2 x3 x4,g⟩ s k=(JC.step call ⟨d,.store x0 x1 x2 x3 x4,g⟩ s).bind k:=(rfl)
theorem k_bin {x1} {x2} {x3}:JC.rA call lp ⟨d,.bin x0 x1 x2 x3,g⟩ s k=(JC.step call ⟨d,.bin x0 x1 x2 x3,g⟩ s).bind k:=(rfl)
theorem k_mm {x1} {x2}:JC.rA call lp ⟨d,.mm x0 x1 x2,g⟩ s k=(JC.step call ⟨d,.mm x0 x1 x2,g⟩ s).bind k:=(rfl)
theorem k_eqa {x1} {x2} {x3}:JC.rA call lp ⟨d,.iC x0 x1 x2 x3,g⟩ s k=(JC.step call ⟨d,.iC x0 x1 x2 x3,g⟩ s).bind k:=(rfl)
theorem k_eqn {x1} {x2} {x3}:JC.rA call lp ⟨d,.gC x0 x1 x2 x3,g⟩ s k=(JC.step call ⟨d,.gC x0 x1 x2 x3,g⟩ s).bind k:=(rfl)
theorem k_un {x1}:JC.rA call lp ⟨d,.un x0 x1,g⟩ s k=(JC.step call ⟨d,.un x0 x1,g⟩ s).bind k:=(rfl)
theorem k_conv {x1}:JC.rA call lp ⟨d,.conv x0 x1,g⟩ s k=(JC.step call ⟨d,.conv x0 x1,g⟩ s).bind k:=(rfl)
theorem k_rstr:JC.rA call lp ⟨d,.BB x0,g⟩ s k=(JC.step call ⟨d,.BB x0,g⟩ s).bind k:=(rfl)
theorem k_bstr {x1}:JC.rA call lp ⟨d,.xB x0 x1,g⟩ s k=(JC.step call ⟨d,.xB x0 x1,g⟩ s).bind k:=(rfl)
theorem k_clr {x1} {x2}:JC.rA call lp ⟨d,.dC x0 x1 x2,g⟩ s k=(JC.step call ⟨d,.dC x0 x1 x2,g⟩ s).bind k:=(rfl)
theorem k_mks {x1} {x2} {x3} {x4}:JC.rA call lp ⟨d,.wC x0 x1 x2 x3 x4,g⟩ s k=(JC.step call ⟨d,.wC x0 x1 x2 x3 x4,g⟩ s).bind k:=(rfl)
theorem k_slc {x1} {x2} {x3} {x4} {x5}:JC.rA call lp ⟨d,.slc x0 x1 x2 x3 x4 x5,g⟩ s k=(JC.step call ⟨d,.slc x0 x1 x2 x3 x4 x5,g⟩ s).bind k:=(rfl)
theorem k_aslc {x1} {x2} {x3} {x4} {x5}:JC.rA call lp ⟨d,.PB x0 x1 x2 x3 x4 x5,g⟩ s k=(JC.step call ⟨d,.PB x0 x1 x2 x3 x4 x5,g⟩ s).bind k:=(rfl)
theorem Mv {x1}:JC.rA call lp ⟨d,.tB x0 x1,g⟩ s k=(JC.step call ⟨d,.tB x0 x1,g⟩ s).bind k:=(rfl)
theorem Qb {x1} {x2} {x3}:JC.rA call lp ⟨d,.field x0 x1 x2 x3,g⟩ s k=(JC.step call ⟨d,.field x0 x1 x2 x3,g⟩ s).bind k:=(rfl)
theorem Wb {x1} {x2}:JC.rA call lp ⟨d,.nA x0 x1 x2,g⟩ s k=(JC.step call ⟨d,.nA x0 x1 x2,g⟩ s).bind k:=(rfl)
theorem Gv {x1} {x2} {x3}:JC.rA call lp ⟨d,.pB x0 x1 x2 x3,g⟩ s k=(JC.step call ⟨d,.pB x0 x1 x2 x3,g⟩ s).bind k:=(rfl)
theorem Eb {x1}:JC.rA call lp ⟨d,.index x0 x1,g⟩ s k=(JC.step call ⟨d,.index x0 x1,g⟩ s).bind k:=(rfl)
theorem k_ext {x1}:JC.rA call lp ⟨d,.ext x0 x1,g⟩ s k=(JC.step call ⟨d,.ext x0 x1,g⟩ s).bind k:=(rfl)
theorem k_call {x1} {x2}:JC.rA call lp ⟨d,.call x0 x1 x2,g⟩ s k=(JC.step call ⟨d,.call x0 x1 x2,g⟩ s).bind k:=(rfl)
theorem Xv {x1} {x2} {x3}:JC.rA call lp ⟨d,.iB x0 x1 x2 x3,g⟩ s k=(JC.step call ⟨d,.iB x0 x1 x2 x3,g⟩ s).bind k:=(rfl)
theorem Zv {x1} {x2} {x3} {x4} {x5}:JC.rA call lp ⟨d,.PA x0 x1 x2 x3 x4 x5,g⟩ s k=(JC.step call ⟨d,.PA x0 x1 x2 x3 x4 x5,g⟩ s).bind k:=(rfl)
theorem Cv {x1} {x2}:JC.rA call lp ⟨d,.jB x0 x1 x2,g⟩ s k=(JC.step call ⟨d,.jB x0 x1 x2,g⟩ s).bind k:=(rfl)
theorem Kv {x1} {x2} {x3}:JC.rA call lp ⟨d,.LA x0 x1 x2 x3,g⟩ s k=(JC.step call ⟨d,.LA x0 x1 x2 x3,g⟩ s).bind k:=(rfl)
theorem k_mkf {x1}:JC.rA call lp ⟨d,.jC x0 x1,g⟩ s k=(JC.step call ⟨d,.jC x0 x1,g⟩ s).bind k:=(rfl)
theorem Nv {x1} {x2}:JC.rA call lp ⟨d,.RA x0 x1 x2,g⟩ s k=(JC.step call ⟨d,.RA x0 x1 x2,g⟩ s).bind k:=(rfl)
theorem Bv {x1} {x2}:JC.rA call lp ⟨d,.dA x0 x1 x2,g⟩ s k=(JC.step call ⟨d,.dA x0 x1 x2,g⟩ s).bind k:=(rfl)
theorem k_len {x1}:JC.rA call lp ⟨d,.len x0 x1,g⟩ s k=(JC.step call ⟨d,.len x0 x1,g⟩ s).bind k:=(rfl)
theorem k_app {x1} {x2} {x3} {x4} {x5}:JC.rA call lp ⟨d,.app x0 x1 x2 x3 x4 x5,g⟩ s k=(JC.step call ⟨d,.app x0 x1 x2 x3 x4 x5,g⟩ s).bind k:=(rfl)
theorem k_appf {x1} {x2} {x3} {x4} {x5}:JC.rA call lp ⟨d,.QB x0 x1 x2 x3 x4 x5,g⟩ s k=(JC.step call ⟨d,.QB x0 x1 x2 x3 x4 x5,g⟩ s).bind k:=(rfl)
theorem k_appm {x1} {x2} {x3} {x4} {x5}:JC.rA call lp ⟨d,.sB x0 x1 x2 x3 x4 x5,g⟩ s k=(JC.step call ⟨d,.sB x0 x1 x2 x3 x4 x5,g⟩ s).bind k:=(rfl)
theorem k_appn {x1} {x2} {x3} {x4} {x5}:JC.rA call lp ⟨d,.qB x0 x1 x2 x3 x4 x5,g⟩ s k=(JC.step call ⟨d,.qB x0 x1 x2 x3 x4 x5,g⟩ s).bind k:=(rfl)
end
theorem k_mkm:JC.rA call lp ⟨d,.fC,g⟩ s k=(JC.step call ⟨d,.fC,g⟩ s).bind k:=(rfl)
theorem k_bad:JC.rA call lp ⟨d,.bad,g⟩ s k=(JC.step call ⟨d,.bad,g⟩ s).bind k:=(rfl)
theorem k_mkb {T e:TypeId}:JC.rA call lp ⟨d,.bC T e,g⟩ s k=(JC.step call ⟨d,.bC T e,g⟩ s).bind k:=(rfl)
theorem k_mget {x0} {x1} {x2} {x3} {x4}:JC.rA call lp ⟨d,.OB x0 x1 x2 x3 x4,g⟩ s k=(JC.step call ⟨d,.OB x0 x1 x2 x3 x4,g⟩ s).bind k:=(rfl)
theorem k_mset {x0} {x1} {x2} {x3}:JC.rA call lp ⟨d,.SB x0 x1 x2 x3,g⟩ s k=(JC.step call ⟨d,.SB x0 x1 x2 x3,g⟩ s).bind k:=(rfl)
theorem k_mlen {x0}:JC.rA call lp ⟨d,.LB x0,g⟩ s k=(JC.step call ⟨d,.LB x0,g⟩ s).bind k:=(rfl)
theorem k_rng {x0}:JC.rA call lp ⟨d,.kB x0,g⟩ s k=(JC.step call ⟨d,.kB x0,g⟩ s).bind k:=(rfl)
theorem k_slz {x0}:JC.rA call lp ⟨d,.slz x0,g⟩ s k=(JC.step call ⟨d,.slz x0,g⟩ s).bind k:=(rfl)
theorem k_ent {x0}:JC.rA call lp ⟨d,.ent x0,g⟩ s k=(JC.step call ⟨d,.ent x0,g⟩ s).bind k:=(rfl)
theorem k_nxt {x0}:JC.rA call lp ⟨d,.dB x0,g⟩ s k=sO s d g (cZ d x0 s k) k:=(rfl)
theorem Gh {x0}:JC.rA call lp ⟨d,.AA x0,g⟩ s k=(JC.step call ⟨d,.AA x0,g⟩ s).bind k:=(rfl)
end
theorem e_none (d:Option Nat)(op:K)(g:Option (Nat×Bool))(x:WC):JC.eff ⟨d,op,g⟩ s (x,.none)=some (s.put d x):=(rfl)
theorem e_set (d:Option Nat)(op:K)(g:Option (Nat×Bool))(x:WC)(t n:Nat)(r:List WC):JC.eff ⟨d,op,g⟩ s (x,.set t n r)=some ((s.setRow t n r).put d x):=(rfl)
theorem e_newp (d:Nat)(op:K)(g:Option (Nat×Bool))(t n o:Nat)(a:An)(r:List WC):JC.eff ⟨some d,op,g⟩ s (⟨.ptr t n o,a⟩,.new r)=some ((s.setRow d s.next r).put (some d) ⟨.ptr d s.next 0,.no⟩):=(rfl)
theorem e_newr (d:Nat)(op:K)(g:Option (Nat×Bool))(t n z o l p:Nat)(a:An)(r:List WC):JC.eff ⟨some d,op,g⟩ s (⟨.ref t n z o l p,a⟩,.new r)=some ((s.setRow d s.next r).put (some d) ⟨.ref d s.next z o l p,.no⟩):=(rfl)
theorem e_app (d:Nat)(op:K)(g:Option (Nat×Bool))(v:AV)(a:An)(kk j:Nat)(e:TypeId):JC.eff ⟨some d,op,g⟩ s (⟨v,.own kk e⟩,.app a j)=some (((s.lB a).strip d).put (some d) ⟨v,.own d e⟩):=(rfl)
theorem e_obj (d:Option Nat)(op:K)(g:Option (Nat×Bool))(x:WC)(t n:Nat)(S:AV):JC.eff ⟨d,op,g⟩ s (x,.obj t n S)=some ((s.setObj t n S).put d x):=(rfl)
theorem e_mk (d:Nat)(op:K)(g:Option (Nat×Bool))(x:WC)(S:AV):JC.eff ⟨some d,op,g⟩ s (x,.mk S)=some ((s.setObj d s.next S).put (some d) ⟨x.v.named d s.next,.no⟩):=(rfl)
theorem e_rn (d:Nat)(op:K)(g:Option (Nat×Bool))(t n z o l p:Nat)(a:An)(q:Option (Nat×Nat))(r:List WC):JC.eff ⟨some d,op,g⟩ s (⟨.ref t n z o l p,a⟩,.rn q r)=some (((s.kA q).setRow d s.next r).put (some d) ⟨.ref d s.next z o l p,.no⟩):=(rfl)
theorem e_ob2 (d:Nat)(op:K)(g:Option (Nat×Bool))(t n z o l p:Nat)(a:An)(t' n':Nat)(S:AV)(r:List WC):JC.eff ⟨some d,op,g⟩ s (⟨.ref t n z o l p,a⟩,.zB t' n' S r)=some (((s.setObj t' n' S).setRow d s.next r).put (some d) ⟨.ref d s.next z o l p,.no⟩):=(rfl)
theorem run_cg {b:C}{s s':OC}{k:Ex->OC->Option RV}(h:s=s'):C.run call lp b s k=C.run call lp b s' k:=by rw[h]
theorem ops_cg {l:List JC}{s s':OC}{k:OC->Option RV}(h:s=s'):lJ call lp l s k=lJ call lp l s' k:=by rw[h]
theorem Tl {o:JC}{s s':OC}{k:OC->Option RV}(h:s=s'):JC.rA call lp o s k=JC.rA call lp o s' k:=by rw[h]
theorem Qc {α β:Type}{a a':Option α}{f:α->Option β}(h:a=a'):a.bind f=a'.bind f:=by rw[h]
theorem Cd {v v':AV}{a b:Option RV}(h:v=v'):x7 v a b=x7 v' a b:=by rw[h]
theorem Qi {v v':AV}{w:Bool}{a b:Option OC}(h:v=v'):FV v w a b=FV v' w a b:=by rw[h]
theorem Wi {v v':AV}{w:Bool}{a b:Option RV}(h:v=v'):GV v w a b=GV v' w a b:=by rw[h]
theorem fnC_cg {v v':AV}{g:Nat->List AV->Option RV}(h:v=v'):fnC v g=fnC v' g:=by rw[h]
theorem evL_cg {T:Nat->Option jD}{ext:DD}{b:C}{s s':OC}{k:Ex->OC->Option RV}(h:s=s'):OL T ext b s k=OL T ext b s' k:=by rw[h]
theorem evH_cg {T:Nat->Option jD}{ext:DD}{f:Nat}{xs ew:List WC}{s s':OC}{k:WC->OC->Option RV}(hx:xs=ew)(h:s=s'):Gu T ext f xs s k=Gu T ext f ew s' k:=by rw[h,hx]
end
attribute [congr] run_cg ops_cg Tl Qc Cd Qi Wi fnC_cg evL_cg evH_cg
attribute [simp] Xv Zv Cv k_clr k_rng k_slz k_ent k_nxt k_bad k_mkb k_mv k_pick Hv k_box Jv k_bsl k_bslr k_load Rb k_bin k_mm k_eqa k_eqn k_un k_conv k_rstr k_bstr k_mks k_slc k_aslc Mv Qb Wb Gv Eb k_ext k_call Kv k_mkf Nv Bv Lv k_len k_app k_appf k_appm k_appn k_mkm k_mget k_mset k_mlen Gh A7 X9 fnC_fn Ev Rv h_step opK_at Sd Zm Em Ou r9 aS Gs U0 Gb Fb Kb Hb Db
attribute [simp] dI jV Am Hp Jp WC.strip_v WC.strip_a WC.cC Gw noM_at Cb tZ uZ WC.rC WC.kill_a WC.kill_mk
attribute [simp] e_ob2 Kg Pr AV.uB AV.DA Si J7 AV.kill AV.eA m_kill Jb e_rn m_init m_put m_put0 m_row m_obj Lb Zh Xh An.strip e_none e_set e_newp e_newr e_app e_obj e_mk K.run KD.get MC AV.leaf AV.whole AV.cells NK d8 iN AU kD bI Cl.cA Cl.pA kU fin J9 Wj IL G2 AV.free AV.iA AV.back AV.uC AV.SA AV.named T8 pG qI KF PR AV.bB EU SI wM AV.elems KD.an lD Au pQ z5 rG UY H9 T6
attribute [simp ↓] O9 Kk Ap Zk Qm Td My Ud G9 c7 P7 Z9 r_skip r_seq r_reg r_cond Nn r_loop r_exit r_ret a_nrm a_exit a_ret o_nil o_cons Im Um
end
def PC:DD:=fun f args S =>
 if f=124 then(match args,S with
  | [.ptr 0 0 0,.str s],some (.sA [.undef,.undef,.int .i64 168,.int .i64 5,.str a])=>if a.size+s.size<=140737488355328 then some (.sA [.int .i64 s.size,.undef],some (NI 168 5 (a++s)))else none
  |_,_=>none)
 else if f=126 then(match args,S with
  | [.ptr 0 0 0],some (.sA [.undef,.undef,.int .i64 168,.int .i64 5,.str a])=>some (.str a,some (NI 168 5 a))
  |_,_=>none)
 else none
theorem Cy {O:XI}(f:FuncId)(args:List AV)(S:Option AV)(r:RV)(h:PC f args S=some r):gE Tryz.prog O f args S r:=by
 unfold PC at h;split at h
 ·rename_i e;subst e;split at h
  ·rename_i s a;split at h
   ·rename_i hl;injection h with h;subst h;exact Ny a s hl
   ·cases h
  ·cases h
 ·split at h
  ·rename_i e;subst e;split at h
   ·rename_i a;injection h with h;subst h;exact A9 a
   ·cases h
  ·cases h
abbrev i6 (n:Int):AV:=.int .i64 n
abbrev f6:AV:=.bool false
abbrev t6:AV:=.bool true
abbrev n6:AV:=.sl true []
abbrev e6:AV:=.str ⟨#[]⟩
abbrev i0:AV:=.int .i64 0
def exA0:AV:=(.sl false [[(i6 9),e6,i0,i0,i0,n6,n6,i0,(i6 1),f6],[(i6 1),e6,i0,i0,i0,n6,n6,i0,i0,f6],[(i6 3),e6,i0,i0,(i6 2),n6,n6,i0,i0,f6]])
def ZT:AV:=(.agg [exA0])
abbrev va:AV:=(.sl false [[(i6 1),f6,i0,e6,i0,n6,n6,n6]])
abbrev vb:AV:=(.sl false [[(i6 1),t6,i0,e6,i0,n6,n6,n6]])
abbrev vc:AV:=(.agg [(i6 9),f6,i0,e6,i0,n6,n6,n6])
abbrev vd:AV:=(.agg [(i6 1),f6,i0,e6,i0,n6,n6,n6])
abbrev vf:AV:=(.agg [(i6 9),f6,i0,e6,i0,n6,va,n6])
abbrev vg:AV:=(.agg [(.str (.mk #[1])),(i6 9),f6,i0,e6,i0,n6,va,n6])
abbrev vh:AV:=(.sA [i0,i0])
def Qs:List ME:=[]
theorem awk_k0:OD dD PC Qs:=OD.nil
def Ws:List ME:=⟨14,[],none,(ZT,none)⟩::Qs
theorem awk_k1:OD dD PC Ws:=awk_k0.more 3000 _ (by kernel_rfl)
def Es:List ME:=⟨77,[ZT],none,(i0,none)⟩::Ws
theorem awk_k2:OD dD PC Es:=awk_k1.more 3000 _ (by kernel_rfl)
def Rs:List ME:=⟨37,[ZT],none,(i0,none)⟩::Es
theorem awk_k3:OD dD PC Rs:=awk_k2.more 3000 _ (by kernel_rfl)
def Ts:List ME:=⟨18,[ZT,i0],none,(i0,none)⟩::Rs
theorem awk_k4:OD dD PC Ts:=awk_k3.more 3000 _ (by kernel_rfl)
def Us:List ME:=⟨29,[ZT,i0,vc],none,(vh,none)⟩::Ts
theorem awk_k5:OD dD PC Us:=awk_k4.more 3000 _ (by kernel_rfl)
def Ps:List ME:=⟨30,[ZT,i0,vc],none,((.sA [e6,i0]),none)⟩::Us
theorem awk_k6:OD dD PC Ps:=awk_k5.more 3000 _ (by kernel_rfl)
def Ss:List ME:=⟨29,[ZT,(i6 1),vd],none,(vh,none)⟩::Ps
theorem awk_k7:OD dD PC Ss:=awk_k6.more 3000 _ (by kernel_rfl)
def Ds:List ME:=⟨30,[ZT,(i6 1),vd],none,((.sA [e6,i0]),none)⟩::Ss
theorem awk_k8:OD dD PC Ds:=awk_k7.more 3000 _ (by kernel_rfl)
def Fs:List ME:=⟨29,[ZT,(i6 2),(.agg [(i6 3),f6,i0,e6,i0,n6,n6,n6])],none,(vh,none)⟩::Ds
theorem awk_k9:OD dD PC Fs:=awk_k8.more 3000 _ (by kernel_rfl)
def Lw:List ME:=⟨30,[ZT,(i6 2),(.agg [(i6 3),f6,i0,e6,i0,n6,n6,n6])],none,((.sA [e6,i0]),none)⟩::Fs
theorem Xz:OD dD PC Lw:=awk_k9.more 3000 _ (by kernel_rfl)
def Zw:List ME:=⟨64,[ZT,i0],none,(vh,none)⟩::Lw
theorem Cz:OD dD PC Zw:=Xz.more 3000 _ (by kernel_rfl)
def Xw:List ME:=⟨64,[ZT,(i6 1)],none,(vh,none)⟩::Zw
theorem Bz:OD dD PC Xw:=Cz.more 3000 _ (by kernel_rfl)
def Cw:List ME:=⟨64,[ZT,(i6 2)],none,(vh,none)⟩::Xw
theorem Nz:OD dD PC Cw:=Bz.more 3000 _ (by kernel_rfl)
def Bw:List ME:=⟨32,[vg,(.agg [e6,(i6 9),f6,i0,e6,i0,n6,n6,n6])],none,((i6 1),none)⟩::Cw
theorem Mz:OD dD PC Bw:=Nz.more 3000 _ (by kernel_rfl)
def Nw:List ME:=⟨32,[(.agg [(.str (.mk #[1,1])),(i6 9),f6,i0,e6,i0,n6,vb,n6]),vg],none,((i6 1),none)⟩::Bw
theorem Qx:OD dD PC Nw:=Mz.more 3000 _ (by kernel_rfl)
def Mw:List ME:=⟨28,[ZT,i0,(i6 2)],none,((.sA [(.sl false [[e6,(i6 9),f6,i0,e6,i0,n6,n6,n6],[(.str (.mk #[1])),(i6 9),f6,i0,e6,i0,n6,va,n6],[(.str (.mk #[1,1])),(i6 9),f6,i0,e6,i0,n6,vb,n6]]),i0]),none)⟩::Nw
theorem Wx:OD dD PC Mw:=Qx.more 3000 _ (by kernel_rfl)
def Qe:List ME:=⟨33,[vc],none,(vc,none)⟩::Mw
theorem Rx:OD dD PC Qe:=Wx.more 3000 _ (by kernel_rfl)
def Ee:List ME:=⟨33,[vd],none,(vd,none)⟩::Qe
theorem Ux:OD dD PC Ee:=Rx.more 3000 _ (by kernel_rfl)
def Re:List ME:=⟨33,[vf],none,(vf,none)⟩::Ee
theorem Ox:OD dD PC Re:=Ux.more 3000 _ (by kernel_rfl)
def Te:List ME:=⟨33,[(.agg [(i6 1),t6,i0,e6,i0,n6,n6,n6])],none,((.agg [(i6 1),t6,i0,e6,i0,n6,n6,n6]),none)⟩::Re
theorem Px:OD dD PC Te:=Ox.more 3000 _ (by kernel_rfl)
def Ue:List ME:=⟨33,[(.agg [(i6 9),f6,i0,e6,i0,n6,vb,n6])],none,((.agg [(i6 9),f6,i0,e6,i0,n6,vb,n6]),none)⟩::Te
theorem Ax:OD dD PC Ue:=Px.more 3000 _ (by kernel_rfl)
def Ie:List ME:=⟨12,[ZT,i0,(i6 2)],none,((.sA [(.sl false [[(i6 9),f6,i0,e6,i0,n6,n6,n6],[(i6 9),f6,i0,e6,i0,n6,va,n6],[(i6 9),f6,i0,e6,i0,n6,vb,n6]]),i0]),none)⟩::Ue
theorem Sx:OD dD PC Ie:=Ax.more 3000 _ (by kernel_rfl)
def Oe:List ME:=⟨18,[ZT,(i6 2)],none,(i0,none)⟩::Ie
theorem Dx:OD dD PC Oe:=Sx.more 3000 _ (by kernel_rfl)
def Pe:List ME:=⟨19,[ZT,(i6 2)],none,((.sA [(.sl false [[(i6 2)]]),i0]),none)⟩::Oe
theorem Fx:OD dD PC Pe:=Dx.more 3000 _ (by kernel_rfl)
def Ae:List ME:=⟨6,[ZT,(i6 2),(i6 2)],none,((.sA [(i6 65536),i0]),none)⟩::Pe
theorem Gx:OD dD PC Ae:=Fx.more 3000 _ (by kernel_rfl)
def Se:List ME:=⟨10,[ZT,i0,(.sl false [[(.int .u8 3)],[(.int .u8 5)]])],none,((.sA [(.agg [(i6 9),f6,i0,e6,i0,n6,vb,n6]),i0]),none)⟩::Ae
theorem Hx:OD dD PC Se:=Gx.more 3000 _ (by kernel_rfl)
def De:List ME:=⟨58,[ZT,(i6 1)],none,((.sA [vd,i0]),none)⟩::Se
theorem Jx:OD dD PC De:=Hx.more 3000 _ (by kernel_rfl)
def Fe:List ME:=⟨10,[ZT,i0,(.sl false [[(.int .u8 3)]])],none,((.sA [vf,i0]),none)⟩::De
theorem Kx:OD dD PC Fe:=Jx.more 3000 _ (by kernel_rfl)
def Ge:List ME:=⟨27,[ZT,i0,vc],none,(t6,none)⟩::Fe
theorem Lx:OD dD PC Ge:=Kx.more 3000 _ (by kernel_rfl)
def Je:List ME:=⟨28,[ZT,i0,(i6 12)],none,((.sA [(.sl false [[e6,(i6 9),f6,i0,e6,i0,n6,n6,n6],[(.str (.mk #[1])),(i6 9),f6,i0,e6,i0,n6,va,n6],[(.str (.mk #[1,1])),(i6 9),f6,i0,e6,i0,n6,vb,n6]]),i0]),none)⟩::Ge
theorem Zx:OD dD PC Je:=Lx.more 3000 _ (by kernel_rfl)
def Ke:List ME:=⟨32,[vg,(.agg [e6,i0,f6,i0,e6,i0,n6,n6,n6])],none,((i6 1),none)⟩::Je
theorem Xx:OD dD PC Ke:=Zx.more 3000 _ (by kernel_rfl)
def Ze:List ME:=⟨32,[(.agg [e6,(i6 9),f6,i0,e6,i0,n6,n6,n6]),(.agg [e6,i0,f6,i0,e6,i0,n6,n6,n6])],none,(i0,none)⟩::Ke
theorem Cx:OD dD PC Ze:=Xx.more 3000 _ (by kernel_rfl)
def t5:List ME:=⟨11,[ZT,i0,vc],none,((.sA [vf,i0]),none)⟩::Ze
theorem Bx:OD dD PC t5:=Cx.more 3000 _ (by kernel_rfl)
theorem fS:OD dD PC t5:=Bx
section
open Go Go.RowKit Go.ChangeShapes Go.WideShapes Go.Deep
def NP (P:Program)(r:TypeId->List AV->Prop):List Field->List AV->Prop
 | [],ac=>ac=[]
 |f::fs,ac=>∃a b,ac=a++b/\a.length=P.cellsOf f.type/\r f.type a/\NP P r fs b
def ArrT (P:Program)(r:TypeId->List AV->Prop)(e:TypeId):Nat->List AV->Prop
 |0,ac=>ac=[]
 |n+1,ac=>∃a b,ac=a++b/\a.length=P.cellsOf e/\r e a/\ArrT P r e n b
def ZK (P:Program):Nat->TypeId->List AV->Prop
 |0,_,_=>False
 |n+1,t,ac=>match P.underlying t with
  |some .bool=>∃b,ac=[.bool b]
  |some (.int k)=>∃i,ac=[.int k i]/\(Lit.int k i).wf=true
  |some .string=>∃s,ac=[.str s]/\s.size<=maxLen/\s.size<=reachBytes
  |some (.slice e)=>∃nl els,ac=[.sl nl els]/\els.length<=maxLen/\els.length*P.bytesOf e<=reachBytes/\(nl=true->els=[])/\∀x∈els,x.length=P.cellsOf e/\ZK P n e x
  |some (.struct fs)=>NP P (ZK P n) fs.toList ac
  |some (.array k e)=>ArrT P (ZK P n) e k ac
  |_=>False
def HY (P:Program)(ts:List TypeId):Nat->Nat->List Field->Bool
 |off,total,[]=>decide (off=total)
 |off,total,f::fs=>decide (f.offset=off)&&ts.contains f.type&&HY P ts (off+P.cellsOf f.type) total fs
def TR (P:Program)(ts:List TypeId)(t:TypeId):Bool:=match P.underlying t with
 |some .bool|some (.int _)|some .string=>decide (P.cellsOf t=1)
 |some (.slice e)=>ts.contains e&&decide (0<P.cellsOf e)&&decide (P.cellsOf t=1)
 |some (.struct fs)=>HY P ts 0 (P.cellsOf t) fs.toList
 |some (.array k e)=>ts.contains e&&decide (0<P.cellsOf e)&&decide (k*P.cellsOf e=P.cellsOf t)
 |_=>false
section
variable {H:Type} {enc:TypeId × Value->H} {P:Program} {w:World} {base:Nat} {spare:Nat->Bool} {held:Bool}
theorem W8 {t e:TypeId}{fuel:Nat}{cs:List Value}{x:DataW H×List MemPlace}(ht:P.underlying t=some (.slice e))(h:DataW.trod enc P w base spare held fuel t cs=some x):
  (∃n,fuel=n+1)/\((cs=[.slice none 0 0]) ∨
  ∃(a:Addr)(len cap n:Nat)(y:Nat->DataW H×List MemPlace)(D sp:List (DataW H)),cs=[.slice (some a) len cap]/\fuel=n+1/\len<=cap/\cap<=maxLen/\x.1=.slice D sp/\D.length=len/\(∀i,i<len->(y i).1∈D) ∧
   ∀i,i<len->∃xt,w.cells? base (a.add (i*P.cellsOf e)) (P.cellsOf e)=some xt/\DataW.trod enc P w base spare held n e xt=some (y i)):=by
 refine⟨?_,?_⟩
 ·cases fuel with
  |zero=>simp[DataW.trod]at h
  |succ n=>exact⟨n,rfl⟩
 rcases DataW.trod_slice ht h with h0|⟨a,len,cap,elems,rest,n,oh,rfl,rfl,hb,hl,hm,ja,sb,hsp,hns⟩
 ·exact Or.inl h0.1
 right;refine⟨a,len,cap,n,fun i=>elems.getD i (.nil,[]),elems.map (·.1),rest.map (·.1),rfl,oh,hl,hm,rfl,by simpa using ja,fun i hi=>?_,fun i hi=>?_⟩
 ·have e:elems.getD i (.nil,[])=elems[i]'(by omega):=by simp [List.getD,y7 (show i<elems.length by omega)]
  show(elems.getD i (.nil,[])).1∈_;rw[e];exact List.mem_map_of_mem (y8 _)
 have key:=sb i hi;rw[y7 (by omega)]at key;obtain⟨xt,h1,h2⟩:=y5.1 key;refine⟨xt,h1,?_⟩;rw[h2];simp[List.getD,y7 (show i<elems.length by omega)]
theorem sS {e:TypeId}:∀{D:List (DataW H)}{d:DataW H},d∈D->∀m∈d.weights P e,m∈DataW.weightsAll P e D
 |d0::r,d,h,m,hm=>by
  simp only[DataW.weightsAll,yD];rcases yh.1 h with rfl|h
  ·exact .inl hm
  ·exact .inr (sS h m hm)
def gO (P:Program)(t:TypeId)(d:DataW H):Prop:=∀m∈d.weights P t,m<=reachBytes
section
variable {t e:TypeId} {D sp:List (DataW H)} (ht:P.underlying t=some (.slice e)) (h:gO P t (.slice D sp))
include t e D sp ht h
theorem Uq {d:DataW H}(hd:d∈D):gO P e d:=fun m hm=>h m (by
 simp only[DataW.weights,ht,yh,yD];exact .inr (.inl (sS hd m hm)))
theorem Li:D.length*P.bytesOf e<=reachBytes:=by
 have:=h ((D.length+sp.length)*P.bytesOf e) (by simp[DataW.weights,ht]);exact yt (yS _ (by omega)) this
end
theorem Ji {t e:TypeId}{k:Nat}{D:List (DataW H)}(ht:P.underlying t=some (.array k e))(h:gO P t (.agg D)){d:DataW H}(hd:d∈D):gO P e d:=fun m hm=>h m (by
 simp only[DataW.weights,ht];exact sS hd m hm)
theorem C7 {t:TypeId}{fs:Array Field}{D:List (DataW H)}(ht:P.underlying t=some (.struct fs))(h:gO P t (.agg D)){i:Nat}{f:Field}{d:DataW H}(hf:fs.toList[i]?=some f)(hd:D[i]?=some d):gO P f.type d:=fun m hm=>h m (by
 simp only[DataW.weights,ht];exact DataW.weights_mem_each (j:=i) (by rw[yb,hf];rfl) hd m hm)
theorem T7 {ts:List TypeId}{n:Nat}{cs:List Value}
  (ih:∀(t:TypeId)(cs:List Value)(x:DataW H×List MemPlace),ts.contains t=true->gO P t x.1->DataW.trod enc P w base spare held n t cs=some x->∃ac,JE Dy w ac cs/\ZK P n t ac/\ac.length=P.cellsOf t) :
  ∀(fs:List Field)(off:Nat),HY P ts off cs.length fs=true->(∀f∈fs,∃x,gO P f.type x.1/\DataW.trod enc P w base spare held n f.type ((cs.drop f.offset).take (P.cellsOf f.type))=some x)->∃ac,JE Dy w ac (cs.drop off)/\NP P (ZK P n) fs ac
 | [],off,h,_=>by
  simp only[HY,decide_eq_true_eq]at h;refine⟨[],?_,rfl⟩;rw[yf (by omega)];rfl
 |f::fs,off,h,hx=>by
  simp only[HY,y9,decide_eq_true_eq]at h;obtain⟨⟨ho,ht⟩,h⟩:=h;obtain⟨x,fa,gg⟩:=hx f yl;obtain⟨ac,h1,h2,di⟩:=ih _ _ _ ht fa gg;obtain⟨bs,h3,h4⟩:=T7 ih fs (off+P.cellsOf f.type) h fun g hg=>hx g (ym _ hg)
  refine⟨ac++bs,?_,ac,bs,rfl,di,h2,h4⟩;have:cs.drop off=(cs.drop off).take (P.cellsOf f.type)++cs.drop (off+P.cellsOf f.type):=by rw[<- List.drop_drop,yR]
  rw[this];rw[ho]at h1;exact PO h1 h3
theorem Hw {e:TypeId}{n:Nat}{cs:List Value}(f:∀i:Nat,i*P.cellsOf e<cs.length->∃ac,JE Dy w ac ((cs.drop (i*P.cellsOf e)).take (P.cellsOf e))/\ZK P n e ac/\ac.length=P.cellsOf e)(hp:0<P.cellsOf e):
  ∀(m i:Nat),(i+m)*P.cellsOf e=cs.length->∃ac,JE Dy w ac (cs.drop (i*P.cellsOf e))/\ArrT P (ZK P n) e m ac
 |0,i,h=>by
  refine⟨[],?_,rfl⟩;rw[yf (by simp at h;omega)];rfl
 |m+1,i,h=>by
  have h1:(i+1+m)*P.cellsOf e=cs.length:=by rw[<- h];congr 1;omega
  have hs:(i+1)*P.cellsOf e=i*P.cellsOf e+P.cellsOf e:=yu i _;have fa:i*P.cellsOf e<cs.length:=by
   have:(i+1)*P.cellsOf e<=(i+(m+1))*P.cellsOf e:=yS _ (by omega);omega
  obtain⟨ac,g1,g2,g2'⟩:=f i fa;obtain⟨av2,g3,g4⟩:=Hw f hp m (i+1) h1;refine⟨ac++av2,?_,ac,av2,rfl,g2',g2,g4⟩;have:cs.drop (i*P.cellsOf e)=(cs.drop (i*P.cellsOf e)).take (P.cellsOf e)++cs.drop ((i+1)*P.cellsOf e):=by rw[hs,<- List.drop_drop,yR]
  rw[this];exact PO g1 g3
theorem AO {av:Av}:∀{l:List AV}{us:List Value},JE av w l us->l.length=us.length
 | [],us,h=>by simp only[JE]at h;subst h;rfl
 |a::r,us,h=>by
  simp only[JE]at h;obtain⟨u,oa,rfl,_,_,h⟩:=h;simp[AO h]
theorem U6 {ts:List TypeId}(hg:ts.all (TR P ts)=true):∀(n:Nat)(t:TypeId)(cs:List Value)(x:DataW H×List MemPlace),ts.contains t=true->gO P t x.1->DataW.trod enc P w base spare held n t cs=some x->∃ac,JE Dy w ac cs/\ZK P n t ac/\ac.length=P.cellsOf t
 |0,t,cs,x,_,_,hx=>by simp[DataW.trod]at hx
 |n+1,t,cs,x,gc,jw,hx=>by
  have h:TR P ts t=true:=y6.1 hg t (by simpa using gc);unfold TR at h;split at h
  ·rename_i ht;simp only[decide_eq_true_eq]at h;obtain⟨b,rfl,_⟩:=DataW.trod_bool ht hx;exact⟨[.bool b],⟨_,_,rfl,rfl,rfl,rfl⟩,by simp only[ZK,ht];exact⟨b,rfl⟩,by simp[h]⟩
  ·rename_i kk ht;simp only[decide_eq_true_eq]at h;obtain⟨b,rfl,_,hw⟩:=DataW.trod_int ht hx;exact⟨[.int kk b],⟨_,_,rfl,rfl,rfl,rfl⟩,by simp only[ZK,ht];exact⟨b,rfl,hw⟩,by simp[h]⟩
  ·rename_i ht;simp only[decide_eq_true_eq]at h;obtain⟨b,rfl,hd,hw⟩:=DataW.trod_string ht hx;exact⟨[.str b],⟨_,_,rfl,rfl,rfl,rfl⟩,by simp only[ZK,ht];exact⟨b,rfl,hw,jw _ (by rw[hd];exact List.mem_singleton.2 Array.length_toList.symm)⟩,by simp[h]⟩
  ·rename_i e ht;simp only [y9,decide_eq_true_eq] at h;obtain ⟨⟨he,lb⟩,bx⟩:=h;rcases (W8 ht hx).2 with rfl | ⟨a,len,cap,n',y,D,sp,rfl,hn,ib,zp,xh,hDl,hyD,hi⟩
   ·exact⟨[.sl true []],⟨_,_,rfl,⟨none,0,rfl,yg _,(fun _ h=>by cases h),fun _=>⟨rfl,rfl,rfl⟩,fun h=>by cases h⟩,rfl,rfl⟩,by simp only[ZK,ht];exact⟨true,[],rfl,Nat.zero_le _,by simp,fun _=>rfl,(fun _ h=>by cases h)⟩,by simp[bx]⟩
   ·have wg:n'=n:=by omega
    subst wg;rw[xh]at jw;have lj:=Li ht jw;rw[hDl]at lj;have ka:∀i:Nat,∃ac:List AV,i<len->((ac.length=P.cellsOf e/\ZK P n' e ac)/\∃us,JE Dy w ac us/\us.length=P.cellsOf e/\∀j,j<P.cellsOf e->w.cell? ((a.add (i*P.cellsOf e)).add j)=us[j]?):=fun i=>by
     by_cases fa:i<len
     ·obtain⟨us,bx,hc2⟩:=hi i (by omega);obtain⟨ac,h1,h2,di⟩:=U6 hg n' e us _ he (Uq ht jw (hyD i fa)) hc2;obtain⟨_,g1,g2⟩:=World.cells?_some bx;exact⟨ac,fun _=>⟨⟨di,h2⟩,us,h1,g1,g2⟩⟩
     ·exact⟨[],fun h=>absurd h fa⟩
    have nk:=Classical.axiomOfChoice ka;obtain⟨f,hf⟩:=nk;have ue:∀ac∈(List.range len).map f,ac.length=P.cellsOf e/\ZK P n' e ac:=fun ac ha=>by
     obtain⟨i,sc,rfl⟩:=yz.1 ha;exact(hf i (List.mem_range.1 sc)).1
    refine⟨[.sl false ((List.range len).map f)],⟨_,_,rfl,⟨some a,cap,by simp,by simpa using ib,fun x hx y hy=>((ue x hx).1).trans ((ue y hy).1).symm,(fun h=>by cases h),fun _=>⟨fun h=>(by cases h),fun h0=>?_⟩⟩,rfl,rfl⟩,by simp only[ZK,ht];exact⟨false,_,rfl,by simp;omega,by simpa using lj,(fun h=>by cases h),ue⟩,by simp[bx]⟩;have cf:0<len:=by simpa using h0
    have hspot:∃b off,a=⟨b,off,none⟩:=by
     obtain⟨_,us,_,g1,g2⟩:=hf 0 cf;have g3:=g2 0 lb;simp only[Nat.zero_mul,Addr.add,if_true]at g3;rw[y7 (by omega)]at g3;obtain⟨b,off,sp⟩:=a;cases sp with
     |none=>exact⟨b,off,rfl⟩
     |some q =>
      simp only[World.cell?]at g3;split at g3
      ·simp at g3
      ·cases g3
    obtain⟨b,off,rfl⟩:=hspot;refine⟨b,off,rfl,Sw (fun x hx=>(ue x hx).1) fun i ac su=>?_⟩;rw[yb]at su;obtain⟨i',sc,rfl⟩:=ye.1 su;rw[yn]at sc;obtain⟨fa,fg⟩:=sc;simp at fa fg;subst fg;obtain⟨_,us,g0,g1,g2⟩:=hf i fa;refine IM g0 fun j u hu=>⟨?_,fun h=>h⟩
    have hj:j<P.cellsOf e:=by rw[<- g1];exact(yn.1 hu).1
    have:=g2 j hj;rw[Addr.add_lit,Addr.add_lit,hu]at this;exact this
  ·rename_i fs ht;obtain ⟨xs,n',hn,rfl,ja,hxl,hf⟩:=DataW.trod_struct ht hx;have wg:n'=n:=by omega
   subst wg;rw[<- ja]at h;obtain⟨ac,h1,h2⟩:=T7 (cs:=cs) (n:=n') (fun t cs x=>U6 hg n' t cs x) fs.toList 0 h fun g hg=>by
    obtain⟨i,hi,he⟩:=yO hg;have sc:i<fs.size:=by simpa using hi
    have h1:=hf i g (by rw[<- he];simp[sc]);refine⟨xs[i]'(by omega),C7 ht jw (i:=i) (f:=g) (by rw[<- he];simp[sc]) ?_,by rw[h1];exact y7 (by omega)⟩;rw[yb,y7 (by omega)];rfl
   rw[List.drop_zero]at h1;exact⟨ac,h1,by simp only[ZK,ht];exact h2,(AO h1).trans ja⟩
  ·rename_i k e ht;simp only [y9,decide_eq_true_eq] at h;obtain ⟨⟨he,lb⟩,bx⟩:=h;obtain ⟨xs,m,hm,rfl,ja,hxl,hf⟩:=DataW.trod_array ht hx;have jb:m=n:=by omega
   subst jb;obtain⟨ac,h1,h2⟩:=Hw (cs:=cs) (n:=m) (e:=e) (fun i hi=>by
    have hik:i<k:=by
     rw[ja,<- bx]at hi;exact Nat.lt_of_mul_lt_mul_right hi
    have h1:=hf i hik;rw[y7 (by omega)]at h1;exact U6 hg m e _ _ he (Ji ht jw (List.mem_map_of_mem (y8 _))) h1) lb k 0 (by rw[yy,ja,bx])
   rw[Nat.zero_mul,List.drop_zero]at h1;exact⟨ac,h1,by simp only[ZK,ht];exact h2,(AO h1).trans ja⟩
  ·cases h
def Da (P:Program)(t:TypeId)(a:AV):Prop:=∃n,(mO P t=true/\∃cs,a=.agg cs/\ZK P n t cs)\/(mO P t=false/\ZK P n t [a])
def Ua (P:Program):List TypeId->List AV->Prop
 | [],xs=>xs=[]
 |t::ts,xs=>∃a r,xs=a::r/\Da P t a/\Ua P ts r
theorem par_T {ts:List TypeId}(hg:ts.all (TR P ts)=true){t:TypeId}{r:Reach}{b0:Nat}{v:Value}{d:DataW H}{p:List MemPlace}(hs:ts.contains t=true)(hv:Value.okWide P w r b0 t v)(jw:gO P t d)(h:DataW.Trod enc P w base spare held t v d p):
  ∃a,sD Ix.none Dy Dy w a v/\Da P t a:=by
 obtain⟨fuel,hf⟩:=h;obtain⟨xs,h1,h2,_⟩:=U6 hg fuel t _ _ hs jw hf;have one:∀(u:Value),v=u->v.cells.toList=[u]->mO P t=false->(∀a,ZK P fuel t [a]->a.leaf=true)->∃a,sD Ix.none Dy Dy w a v/\Da P t a:=fun u hu hc hw xq=>by
  rw[hc]at h1;have hl:=AO h1
  match xs,hl with
  | [a],_ =>
   simp only[JE]at h1;obtain⟨u',_,e,h0,_,_⟩:=h1;injection e with e;subst e;exact⟨a,by rw[hu];exact CW h0 (xq a h2),fuel,.inr ⟨hw,h2⟩⟩
 cases fuel with
 |zero=>exact h2.elim
 |succ k =>
  have tu:TR P ts t=true:=y6.1 hg t (by simpa using hs);unfold TR at tu;split at tu
  ·rename_i ht;obtain ⟨b,rfl⟩:=okWide_bool ht hv;refine one _ rfl rfl (by simp [mO,ht]) fun a ha=>?_
   simp only[ZK,ht]at ha;obtain⟨b',e⟩:=ha;injection e with e;subst e;rfl
  ·rename_i kk ht;obtain ⟨b,rfl⟩:=okWide_int ht hv;refine one _ rfl rfl (by simp [mO,ht]) fun a ha=>?_
   simp only[ZK,ht]at ha;obtain⟨b',e,_⟩:=ha;injection e with e;subst e;rfl
  ·rename_i ht;obtain ⟨b,rfl⟩:=okWide_string ht hv;refine one _ rfl rfl (by simp [mO,ht]) fun a ha=>?_
   simp only[ZK,ht]at ha;obtain⟨b',e,_⟩:=ha;injection e with e;subst e;rfl
  ·rename_i e' ht;obtain ⟨A,n,c,rfl⟩:=okWide_slice ht hv;refine one _ rfl rfl (by simp [mO,ht]) fun a ha=>?_
   simp only[ZK,ht]at ha;obtain⟨nl,els,e,_⟩:=ha;injection e with e;subst e;rfl
  ·rename_i fs ht;have:∃cs,v=.agg cs:=by
    simp only[Value.okWide,ht]at hv;obtain⟨cs,hv,_⟩:=hv;exact⟨cs,hv⟩
   obtain⟨cs,rfl⟩:=this;exact⟨.agg xs,⟨cs,rfl,SF h1⟩,k+1,.inl ⟨by simp[mO,ht],xs,rfl,h2⟩⟩
  ·rename_i n' e' ht;have:∃cs,v=.agg cs:=by
    simp only[Value.okWide,ht]at hv;obtain⟨cs,hv,_⟩:=hv;exact⟨cs,hv⟩
   obtain⟨cs,rfl⟩:=this;exact⟨.agg xs,⟨cs,rfl,SF h1⟩,k+1,.inl ⟨by simp[mO,ht],xs,rfl,h2⟩⟩
  ·cases tu
theorem Ka {T:List TypeId}(hg:T.all (TR P T)=true){r:Reach}{b0:Nat}:∀{ts:List TypeId}{vs:List Value}{ds:List (DataW H)}{p:List MemPlace},DataW.TrodAll enc P w base spare held ts vs ds p->(∀(j:Nat) t v,ts[j]?=some t->vs[j]?=some v->Value.okWide P w r b0 t v)->(∀m∈DataW.weightsEach P ts ds,m<=reachBytes)->ts.all (fun t=>T.contains t)=true →
  ∃xs,KK Ix.none Dy Dy w xs vs/\Ua P ts xs
 | [],vs,ds,p,h,_,_,_=>by
  cases vs with
  |nil=>exact⟨[],rfl,rfl⟩
  |cons=>cases ds<;>exact h.elim
 |t::ts,vs,ds,p,h,hv,hw,hs=>by
  obtain⟨v,wt,d,ds',p',q',rfl,rfl,rfl,h0,h⟩:=trodAll_cons h;simp only[DataW.weightsEach,yD]at hw;simp only[List.all_cons,y9]at hs;obtain⟨a,h1,h2⟩:=par_T hg hs.1 (hv 0 t v rfl rfl) (fun m hm=>hw m (.inl hm)) h0;obtain⟨xs,h3,h4⟩:=Ka hg h (fun j t' v' e e'=>hv (j+1) t' v' (by simpa using e) (by simpa using e')) (fun m hm=>hw m (.inr hm)) hs.2;exact⟨a::xs,⟨v,wt,rfl,h1,h3⟩,a,xs,rfl,h2,h4⟩
end
end
section
open Go.ChangeShapes Go.WideShapes Go.ChangeAt Go.RowKit
theorem own:ownKnob Tryz.prog.godebug=none:=by kernel_rfl
theorem Ub:laidOutB Tryz.prog=true:=by kernel_rfl
theorem F2 {H:Type}{enc:TypeId×Value->H}{P:Program}{f:Func}{s:ChangeSpec}{apart fresh au:Bool}{W W':World}{args:Array Value}{v:Value}{ds gs:List (DataW H)}{before pa pv:List MemPlace}
  (hW:DataW.Whole enc P f.params.toList s.vars apart W args.toList ds gs before)
  (pe:∀(b:Nat)(sp:Nat->Bool)(hd:Bool),DataW.TrodAll enc P W' b sp hd f.resultTypes.toList (v.resultList f.resultTypes.size) (s.fn H (ds++gs)).results [])
  (gb:DataW.TrodAll enc P W' 0 (fun b=>decide (b<W.heap.size)) true f.params.toList args.toList (s.fn H (ds++gs)).args pa)
  (hvars:DataW.TrodVars enc P W' (fun b=>decide (b<W.heap.size)) s.vars (s.fn H (ds++gs)).vars pv)
  (hb:Below W.heap.size W W'):s.post enc P f apart fresh au false W args v W' :=
 ⟨ds,gs,before,[],pa,pv,hW,pe _ _ _,gb,hvars,hb.frame _,fun h=>by cases h⟩
end
abbrev Ih (P:Program)(f:FuncId)(fn:Func)(s:ChangeSpec)(c:OpenClaim):Bool:=(c.wf (OpenSpec.ofChange s)&&laidOutB P&&mapsRowed P&&fn.params.all (P.readableRec ·)&&namedTie P c.named s.vars&&(c.stops ==[])&&(P.stops ==[])&&(c.knobs ==[])&&(P.stopKnobs ==[]))
abbrev Oh (P:Program)(f:FuncId)(fn:Func)(s:ChangeSpec)(c:OpenClaim):Bool:=((c.inPlace == P.inPlace f)&&(c.unfollowed == P.unfollowed f))
abbrev Ph (P:Program)(f:FuncId)(fn:Func)(s:ChangeSpec)(c:OpenClaim):Bool:=((c.recurses == P.recurses f)&&(c.named == P.varsNamed f))
abbrev Ah (P:Program)(f:FuncId)(fn:Func)(s:ChangeSpec)(c:OpenClaim):Bool:=((c.maps ==(fn.params.toList++s.plain.varTypes P).any (P.mapsRec ·))&&(c.ifaces ==(fn.params.toList++s.plain.varTypes P).any (P.ifacesRec ·))&&(c.mapsOut == P.mapsAmong fn.resultTypes.toList)&&(c.loops ==(fn.params.toList++s.plain.varTypes P).any (P.loopsFrom ·))&&(c.wideKeys ==(fn.params.toList++s.plain.varTypes P++fn.resultTypes.toList).any (P.wideKeysFrom ·))&&s.vars.all (P.varReadable ·)&&fn.resultTypes.all (fun t=>P.readableRec t&&decide (t<P.types.size))&&(c.ifacesOut == fn.resultTypes.toList.any (P.ifacesRec ·))&&(c.loopsOut == fn.resultTypes.toList.any (P.loopsFrom ·))&&(c.plainKeys == P.plainKeys)&&c.shortTexts.isNone&&P.stopsHeard)
abbrev Sh (P:Program)(f:FuncId)(fn:Func)(s:ChangeSpec)(c:OpenClaim):Bool:=P.mayEnter
abbrev Dh (P:Program)(f:FuncId)(fn:Func)(s:ChangeSpec)(c:OpenClaim):Bool:=(c.lifted == P.liftsFinal)
abbrev Fh (P:Program)(f:FuncId)(fn:Func)(s:ChangeSpec)(c:OpenClaim):Bool:=((P.make == some c.make)&&(c.kinds ==(if c.domain.isEmpty then []else fn.params.toList.map fun t=>match P.underlying t with|some (.int k)=>some k|_=>none))&&(c.pinned == c.pinnedBy)&&(c.veiled ==(fn.params.toList++s.plain.varTypes P++fn.resultTypes.toList).any (P.veiledRec ·))&&c.veiledFits P fn.params.toList (fn.params.toList++s.plain.varTypes P++fn.resultTypes.toList))
theorem Oi {P:Program}{f:FuncId}{fn:Func}{s:ChangeSpec}{c:OpenClaim}(h1:Ih P f fn s c=true)(h2:Oh P f fn s c=true)(di:Ph P f fn s c=true)(h3:Ah P f fn s c=true)(h4:Sh P f fn s c=true)(h5:Dh P f fn s c=true)(h6:Fh P f fn s c=true):joinedFacts P f fn s c=true:=by
 have e:joinedFacts P f fn s c=((c.wf (OpenSpec.ofChange s)&&laidOutB P&&mapsRowed P&&fn.params.all (P.readableRec ·)&&namedTie P c.named s.vars&&(c.stops ==[])&&(P.stops ==[])&&(c.knobs ==[])&&(P.stopKnobs ==[]))&&(((c.inPlace == P.inPlace f)&&(c.unfollowed == P.unfollowed f))&&(((c.recurses == P.recurses f)&&(c.named == P.varsNamed f))&&(((c.maps ==(fn.params.toList++s.plain.varTypes P).any (P.mapsRec ·))&&(c.ifaces ==(fn.params.toList++s.plain.varTypes P).any (P.ifacesRec ·))&&(c.mapsOut == P.mapsAmong fn.resultTypes.toList)&&(c.loops ==(fn.params.toList++s.plain.varTypes P).any (P.loopsFrom ·))&&(c.wideKeys ==(fn.params.toList++s.plain.varTypes P++fn.resultTypes.toList).any (P.wideKeysFrom ·))&&s.vars.all (P.varReadable ·)&&fn.resultTypes.all (fun t=>P.readableRec t&&decide (t<P.types.size))&&(c.ifacesOut == fn.resultTypes.toList.any (P.ifacesRec ·))&&(c.loopsOut == fn.resultTypes.toList.any (P.loopsFrom ·))&&(c.plainKeys == P.plainKeys)&&c.shortTexts.isNone&&P.stopsHeard)&&(P.mayEnter&&((c.lifted == P.liftsFinal)&&((P.make == some c.make)&&(c.kinds ==(if c.domain.isEmpty then []else fn.params.toList.map fun t=>match P.underlying t with|some (.int k)=>some k|_=>none))&&(c.pinned == c.pinnedBy)&&(c.veiled ==(fn.params.toList++s.plain.varTypes P++fn.resultTypes.toList).any (P.veiledRec ·))&&c.veiledFits P fn.params.toList (fn.params.toList++s.plain.varTypes P++fn.resultTypes.toList)))))))):=by
  simp only[joinedFacts,Bool.and_assoc];rfl
 dsimp only[Ih,Oh,Ph,Ah,Sh,Dh,Fh]at h1 h2 di h3 h4 h5 h6;rw[e,h1,h2,di,h3,h4,h5,h6];rfl
end Go.Proofs.YthnefkpplcmjdaaGreat
