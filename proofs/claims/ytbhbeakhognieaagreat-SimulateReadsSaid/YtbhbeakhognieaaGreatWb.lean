/- A part of the proof. -/
import Derived.Test.YtbhbeakhognieaaGreatWa
import Derived.Laws.BytesString
import Derived.OrdersHeld
import Derived.LoopN
import Derived.Deep.Slices
import Derived.Deep.Fields
import Derived.ChangeSame
import Derived.OpenShut
import Derived.Carry
import Derived.ChangeOld
import Derived.SizedLaws
import Derived.Test.YtbhbeakhognieaaGreatChecked
import Derived.Lib.Builder
import Derived.Lib.UnsafeStr
import Derived.Shelf.RegionOpenPlain
set_option linter.all false
set_option maxRecDepth 100000
set_option maxHeartbeats 8000000
open Option renaming bind_some → J, bind_eq_some_iff → ye, map_eq_some_iff → yn, map_some → yr
open List renaming map_map → y3, getElem?_eq_getElem → y5, all_eq_true → y6, getElem_mem → y8, getElem?_eq_some_iff → y9, drop_eq_getElem_cons → yb, getElem?_map → yc, map_cons → yf, mem_cons → yg, drop_eq_nil_of_le → yk, mem_cons_self → yl, mem_cons_of_mem → yo, mem_map → yp, getElem_of_mem → yq, length_map → yu, map_congr_left → yw, mem_append → yx, length_append → yz, take_of_length_le → yB, replicate → yE, length_cons → yF, flatten_cons → yI, length_take → yL, eq_nil_of_length_eq_zero → yM, mem_singleton → yO, cons_append → yR, mem_append_left → yS, getElem?_drop → yU, getElem?_take → yV, getElem?_eq_none → yY, mem_map_of_mem → Y00
open Bool renaming and_eq_true → y7, false_eq_true → yA, or_eq_true → yT
open Nat renaming le_refl → yj, succ_mul → yy, zero_add → yK, eq_zero_or_pos → yN, mul_le_mul_right → yZ
open Array renaming toArray_toList → yX, getD_eq_getD_getElem? → Y01, getElem?_eq_getElem → Y03
namespace Go.Proofs.YtbhbeakhognieaaGreat
open Go
section
open Go Go.RowKit
section
variable {P:Program} {O:PH} {nt B:Nat} {F0:XO} {da:Av} {w0:World} {D:Nat->Prop} {s:aA} {a:Act} {w w':World} {ι:Ix} {Θ:CK} {o:Oper}
def JL (ι:Ix) (av avl:Av) (w:World):List AV->List Value->Prop
 | [],us=>us=[]
 | x :: r,us=>∃ u ta,us=u :: ta/\tB ι av avl w x u/\JL ι av avl w r ta
def Ix.one (p:Nat):Ix:=⟨fun t n=>if t=0/\n=0 then some p else .none,fun _ _=>.none,fun _=>0⟩
def PT (p:Nat) (av:Av) (w:World) (x:AV) (v:Value):Prop:=if x.isObj then v=.pointer (some ⟨p,0,none⟩) else UE av w x v
def LL (p:Nat) (av:Av) (w:World):List AV->List Value->Prop
 | [],us=>us=[]
 | x :: r,us=>∃ u ta,us=u :: ta/\PT p av w x u/\LL p av w r ta
def i9 (p:Nat) (av:Av) (w:World):AV->Value->Prop
 | .tup vs,v=>∃ us,v=.tuple us/\LL p av w vs us.toList
 | x,v=>PT p av w x v
def OwnV (base:Nat) (H:Nat->Prop) (w:World) (l:List (List AV)) (v:Value):Prop :=
 (l=[]/\∃ A c,v=.slice A 0 c/\(A=none->c=0))\/∃ g c cur ty,v=.slice (some ⟨g,0,none⟩) l.length c/\base<=g/\¬ H g/\w.heap[g]?=some (.cells cur ty (0,0))/\l.length<=c/\(∀ sz,iB sz l=true->0<l.length->c * sz<=cur.size)/\∀ (j:Nat) (x:AV),l.flatten[j]?=some x->cur[j]?=some x.scalV
def CallOwn (P:Program) (O:PH) (f:FuncId) (args:List AV) (S0:Option AV) (r:RV):Prop :=
 (∀ xs w,(callFunc f xs).run P w=.ok (.enter f xs) w) ∧
 match S0,r with
 | some S,(.sl false l,some S')=>∀ (av:Av) (w:World) (vs:List Value) (p:Nat) (H:Nat->Prop),(∀ b o,av b o->b<w.heap.size)->(∀ b o,H b->av b o)->O.at_ S H p w->JL (Ix.one p) av (fun b _=>H b) w args vs →
  Calls P f vs.toArray w fun e w'=>∃ v H',e=.returned v/\OwnV w.heap.size H' w' l v/\O.at_ S' H' p w'/\(∀ b,H' b->H b\/w.heap.size<=b)/\FD H w w'
 | _,_=>True
def D3 (P:Program) (O:PH) (f:FuncId) (args:List AV) (S0:Option AV) (r:RV):Prop :=
 (∀ xs w,(callFunc f xs).run P w=.ok (.enter f xs) w) ∧
 match S0,r.2 with
 | none,none=>∀ (av:Av) (w:World) (vs:List Value),(∀ b o,av b o->b<w.heap.size)->JL Ix.none av (fun _ _=>False) w args vs →
  Calls P f vs.toArray w fun e w'=>∃ v,e=.returned v/\UE av w' r.1 v/\Below w.heap.size w w'
 | some S,some S'=>∀ (av:Av) (w:World) (vs:List Value) (p:Nat) (H:Nat->Prop),(∀ b o,av b o->b<w.heap.size)->(∀ b o,H b->av b o)->O.at_ S H p w->JL (Ix.one p) av (fun b _=>H b) w args vs →
  Calls P f vs.toArray w fun e w'=>∃ v H',e=.returned v/\UE (fun b o=>av b o\/H' b) w' r.1 v/\O.at_ S' H' p w'/\(∀ b,H' b->H b\/w.heap.size<=b)/\FD H w w'
 | none,some S'=>∀ (av:Av) (w:World) (vs:List Value),(∀ b o,av b o->b<w.heap.size)->JL Ix.none av (fun _ _=>False) w args vs →
  Calls P f vs.toArray w fun e w'=>∃ v p H',e=.returned v/\i9 p (fun b o=>av b o\/H' b) w' r.1 v/\O.at_ S' H' p w'/\(∀ b,H' b->w.heap.size<=b)/\Below w.heap.size w w'
 | some _,none=>True
def Ix.row (p z:Nat):Ix:=⟨fun t n=>if t=0/\n=0 then some p else .none,fun _ _=>.none,fun _=>z⟩
def F3 (P:Program) (f:FuncId) (args:List AV) (S0:Option AV) (r:RV):Prop :=
 (∀ xs w,(callFunc f xs).run P w=.ok (.enter f xs) w) ∧
 match S0,r with
 | some (.agg cs),(r1,some (.agg ba))=>∀ (av:Av) (w:World) (vs:List Value) (p:Nat) (cur:Array Value) (ty:TypeId),(∀ b o,av b o->b<w.heap.size)->(∀ o,av p o)->w.heap[p]?=some (.cells cur ty (0,0))->cs.length<=cur.size->lD av w cs (cur.toList.take cs.length)->JL (Ix.row p cur.size) av (fun b _=>b=p) w args vs →
  Calls P f vs.toArray w fun e w'=>∃ v gc ss,e=.returned v/\UE av w' r1 v/\w'.heap[p]?=some (.cells gc ss (0,0))/\gc.size=cur.size/\lD av w' ba (gc.toList.take ba.length)/\FD (fun b=>b=p) w w'
 | _,_=>True
def DD (P:Program) (O:PH) (f:FuncId) (args:List AV) (S0:Option AV) (r:RV):Prop:=match args with
 | .undef :: .undef :: rest=>F3 P f rest S0 r
 | .undef :: rest=>CallOwn P O f rest S0 r
 | _=>D3 P O f args S0 r
theorem DD.of {P:Program} {O:PH} {f:FuncId} {args:List AV} {S0:Option AV} {r:RV} (hm:gJ args=false):DD P O f args S0 r ↔ D3 P O f args S0 r:=by
 unfold DD;split
 ·cases hm
 ·cases hm
 ·simp_all
theorem DD.own {P:Program} {O:PH} {f:FuncId} {args:List AV} {S0:Option AV} {r:RV} (hm:gJ args=false) (h:DD P O f (.undef :: args) S0 r):CallOwn P O f args S0 r:=by
 cases args with
 | nil=>exact h
 | cons x r=>cases x <;> first | exact h | (simp [gJ] at hm; done)
theorem C6 {ι':Ix} {av avb avl:Av} {x:AV} {v:Value} (h:tB ι av avb w x v) (hx:x.free=true):tB ι' av avl w x v:=by
  cases x <;> first
    | exact h
    | (simp [AV.free,AV.free0] at hx; done)
    | (obtain ⟨us,hv,hc⟩:=h
       exact ⟨us,hv,GD (pH hc fun y hy=>y6.1 hx y hy)⟩)
theorem OT {av avb:Av}:∀ {cs:List AV} {us:List Value} {b off:Nat},lD av w cs us->(∀ (j:Nat) (u:Value),us[j]?=some u->w.cell? ⟨b,off + j,none⟩=some u/\¬ avb b (off + j))->bC av avb w cs b off
 | [],_,_,_,_,_=>by simp [bC]
 | x :: r,_,b,off,h,hj=>by
  simp only [lD] at h;obtain ⟨u,ta,rfl,h0,h1,h⟩:=h;simp only [bC];have h2:=hj 0 u rfl;refine ⟨⟨u,h2.1,h0,h1⟩,h2.2,OT h fun j v hv=>?_⟩;have:=hj (j + 1) v (by simpa using hv);rw [show off + 1 + j=off + (j + 1) from by omega];exact this
section
variable (R:mC P O nt B F0 da w0 D s a w ι Θ) {avl:Av}
include R avl
theorem uU {cl:Cl} {y x:AV} (hB:∀ b o,avl b o->DC ι Θ b o) (hsep:∀ t n b o,ι t n=some b->ι.ob t n=none->(∃ sz off len cap,y=.ref t n sz off len cap)->¬ avl b o) {v:Value} {ι':Ix} (hY:tB ι (KC da ι Θ) (DC ι Θ) w y v) (h:US s cl y=some x) (uc:∀ t n,y=.ptr t n 0->ι' 0 0=ι t n):tB ι' (KC da ι Θ) avl w x v:=by
 unfold US at h;split at h
 ·rename_i t n sz off len cap;split at h
  ·cases hm:s.mem t n with
   | none=>rw [hm] at h; cases h
   | some r =>
    rw [hm,J] at h;cases hr:zE r sz off len with
    | none=>rw [hr] at h; cases h
    | some m =>
     rw [hr] at h;cases h;obtain ⟨b,hb,bc,cc,oi,_,hv⟩:=XH.1 hY;obtain ⟨nb,b',cur,ty,wa,ua,na,_⟩:=R.rows t n r hm;rw [hb] at wa;injection wa with wa
     subst wa;obtain ⟨h1,h2,us,hl,zd⟩:=ZK na ua hr;subst h1;exact ⟨_,cc,hv,Nat.le_trans bc oi,fun c hc c' ae=>(h2 c hc).trans (h2 c' ae).symm,fun _=>⟨b,off,rfl,KJ.2 (OT hl fun j u hj=>⟨zd j u hj,hsep t n b _ hb nb ⟨_,_,_,_,rfl⟩⟩)⟩⟩
  ·cases h
 ·cases h;obtain ⟨a',c,hv,hc,hu,hs⟩:=hY;refine ⟨a',c,hv,hc,hu,fun h0=>?_⟩;obtain ⟨b,off,ha,hr⟩:=hs h0;exact ⟨b,off,ha,ZL.held (qB.refl _ _) (qB.less hB) _ _ _ hr⟩
 ·cases h;obtain ⟨b,off,hv,hc⟩:=hY;exact ⟨b,off,hv,bC.held (qB.refl _ _) (qB.less hB) _ _ _ hc⟩
 ·rename_i t n off;split at h
  ·rename_i hc;cases h;obtain ⟨h0,_,_⟩:=hc;subst h0;obtain ⟨b,hb,hv⟩:=mG.1 hY;exact ⟨b,(uc t n rfl).trans hb,hv⟩
  ·cases h
 ·split at h
  ·rename_i hf;cases h;exact C6 hY hf
  ·cases h
theorem lend_rep (og:∀ b o,avl b o->∃ t n H,ι.ob t n=some H/\H b) {cl:Cl} {y x:AV} {v:Value} {ι':Ix} (hY:tB ι (KC da ι Θ) (DC ι Θ) w y v) (h:US s cl y=some x) (uc:∀ t n,y=.ptr t n 0->ι' 0 0=ι t n):tB ι' (KC da ι Θ) avl w x v :=
 uU R (fun b o h=>.inl (.inr (og b o h))) (fun t n b o hb nb _ h=>by
  obtain ⟨t',n',H,ho,hH⟩:=og _ _ h;obtain ⟨e1,e2⟩:=((R.obs _ _ _ ho).1 _ hH).2.2.1 _ _ hb;rw [e1,e2,ho] at nb;cases nb) hY h uc
theorem lendP_rep (og:∀ b o,avl b o->∃ t n H,ι.ob t n=some H/\H b) {cl:Cl} {y x:AV} {v:Value} {ι':Ix} (hY:ZV ι (KC da ι Θ) (DC ι Θ) w y v) (h:TP s cl y=some x):ZV ι' (KC da ι Θ) avl w x v:=by
 have hB:∀ b o,avl b o->DC ι Θ b o:=fun b o h=>.inl (.inr (og b o h))
 unfold TP at h;split at h
 ·rename_i t n off;split at h
  ·split at h
   ·rename_i r hm;split at h
    ·rename_i za;cases h;obtain ⟨b,hb,hv⟩:=hY;obtain ⟨nb,b',cur,ty,wa,ua,na,_⟩:=R.rows t n r hm;rw [hb] at wa;injection wa with wa
     subst wa;have kc:=kF off na.rep;rw [<- List.map_drop] at kc;have cf:∀ x∈(r.drop off).map (·.v),x.free0=true:=fun x hx=>by
      grind
     refine ⟨b,off,hv,OT (pH kc cf) fun j u hu=>⟨?_,fun h=>?_⟩⟩
     ·rw [yU] at hu;have hj:off + j<r.length:=by
       grind
      rw [List.getElem?_take_of_lt hj] at hu;simp only [World.cell?,ua];simp_all
     ·obtain ⟨t',n',H,ho,hH⟩:=og _ _ h;obtain ⟨e1,e2⟩:=((R.obs _ _ _ ho).1 _ hH).2.2.1 _ _ hb;simp_all
    ·cases h
   ·cases h
  ·cases h
 ·cases h;obtain ⟨b,off,hv,hc⟩:=hY;exact ⟨b,off,hv,bC.held (qB.refl _ _) (qB.less hB) _ _ _ hc⟩
 ·cases h;exact hY
 ·cases h
end
theorem jR (R:mC P O nt B F0 da w0 D s a w ι Θ) {avl:Av} (og:∀ b o,avl b o->∃ t n H,ι.ob t n=some H/\H b) {cl:Cl} {ι':Ix}:∀ {ys xs:List AV} {us:List Value},CG ι (KC da ι Θ) (DC ι Θ) w ys us->RD s cl ys=some xs->CG ι' (KC da ι Θ) avl w xs us
 | [],xs,us,hY,h=>by
  injection h with h;subst h;exact hY
 | y :: r,xs,us,hY,h=>by
  obtain ⟨u,ta,rfl,h0,hY⟩:=hY;unfold RD at h;split at h
  ·rename_i v vs hv hr;injection h with h;subst h;exact ⟨u,ta,rfl,lendP_rep R og h0 hv,jR R og hY hr⟩
  ·cases h
theorem lendF_rep (R:mC P O nt B F0 da w0 D s a w ι Θ) {avl:Av} (og:∀ b o,avl b o->∃ t n H,ι.ob t n=some H/\H b) {cl:Cl} {y x:AV} {v:Value} {ι':Ix} (hY:tB ι (KC da ι Θ) (DC ι Θ) w y v) (h:KF s cl y=some x) (uc:∀ t n,y=.ptr t n 0->ι' 0 0=ι t n):tB ι' (KC da ι Θ) avl w x v:=by
 unfold KF at h;split at h
 ·rename_i f cs;obtain ⟨ws,hw,h⟩:=yn.1 h;subst h;obtain ⟨us,hv,hc⟩:=hY;exact ⟨us,hv,jR R og hc hw⟩
 ·exact lend_rep R og hY h uc
theorem W0 {ι':Ix} {av avl:Av}:∀ {xs:List AV} {us:List Value},(∀ x∈xs,x.capOk=true)->CG ι' av avl w xs us->JL ι' av avl w xs us
 | [],_,_,h=>h
 | x :: r,_,hc,h=>by
  obtain ⟨u,ta,rfl,h0,h⟩:=h;refine ⟨u,ta,rfl,?_,W0 (fun y hy=>hc y (yo _ hy)) h⟩;have:=hc x (yl);cases x <;> first | (simp [AV.capOk] at this; done) | exact h0
theorem pV {ι':Ix} {av avl:Av}:∀ {xs ys:List AV} {us vs:List Value},JL ι' av avl w xs us->JL ι' av avl w ys vs->JL ι' av avl w (xs++ys) (us++vs)
 | [],_,_,_,h,h'=>by cases h; exact h'
 | x :: r,_,_,_,h,h'=>by
  obtain ⟨u,ta,rfl,h0,h⟩:=h;exact ⟨u,ta++_,rfl,h0,pV h h'⟩
theorem rU {cl:Cl}:∀ {ys xs:List AV},RD s cl ys=some xs->∀ x∈xs,x.capOk=true
 | [],xs,h=>by injection h with h; subst h; intro x hx; cases hx
 | y :: r,xs,h=>by
  unfold RD at h;split at h
  ·rename_i v vs hv hr;injection h with h;subst h;intro x hx;rcases yg.1 hx with rfl | hx
   ·unfold TP at hv;split at hv
    ·split at hv
     ·split at hv
      ·split at hv
       ·injection hv with hv; subst hv; rfl
       ·cases hv
      ·cases hv
     ·cases hv
    ·injection hv with hv; subst hv; rfl
    ·injection hv with hv; subst hv; rfl
    ·cases hv
   ·exact rU hr x hx
  ·cases h
theorem qN (R:mC P O nt B F0 da w0 D s a w ι Θ) {avl:Av} (og:∀ b o,avl b o->∃ t n H,ι.ob t n=some H/\H b) {cl:Cl} {ι':Ix}:∀ {Xs:List Operand} {xs:List aC} {vs:List AV},bH Xs=some xs->TF s cl xs=some vs->(∀ x∈xs,∀ t n,x.get s=.ptr t n 0->ι' 0 0=ι t n)->JL ι' (KC da ι Θ) avl w vs (Xs.map a.eval)
 | [],xs,vs,h,hl,_=>by
  injection h with h;subst h;injection hl with hl;subst hl;rfl
 | X :: Xs,xs,vs,h,hl,uc=>by
  unfold bH at h;split at h
  ·rename_i x l hx hr;injection h with h;subst h;unfold TF at hl;split at hl
   ·rename_i v mw hv xg;injection hl with hl;subst hl;exact ⟨_,_,rfl,lendF_rep R og (R.opd hx).1 hv (uc x (yl)),qN R og hr xg fun y hy=>uc y (yo _ hy)⟩
   ·cases hl
  ·cases h
theorem named_rep {p d n:Nat} {ι':Ix} {av avb:Av} {x:AV} {v:Value} (h:i9 p av w x v) (hp:ι' d n=some p) (hx:x.backN=true):tB ι' av avb w (x.named d n) v:=by
 have one:∀ {x:AV} {u:Value},PT p av w x u->wB ι' av w (if x.isObj then .ptr d n 0 else x) u:=fun {x u} h=>by
  unfold PT at h;split at h
  ·rename_i ho; rw [if_pos ho]; exact ⟨p,hp,h⟩
  ·rename_i ho; rw [if_neg ho]; exact EM h
 have oneU:∀ {x:AV} {u:Value},PT p av w x u->aP ι' av w (if x.isObj then .ptr d n 0 else x) u:=fun {x u} h=>by
  unfold PT at h;split at h
  ·rename_i ho; rw [if_pos ho]; exact ⟨p,hp,h⟩
  ·rename_i ho; rw [if_neg ho]; exact sP h
 have all:∀ {xs:List AV} {us:List Value},LL p av w xs us->AG ι' av w (xs.map fun v=>if v.isObj then .ptr d n 0 else v) us:=by
  intro xs
  induction xs with
  | nil=>intro us h; simpa [LL,AG] using h
  | cons x r ih =>
   intro us h;simp only [LL] at h;obtain ⟨u,ta,rfl,h0,h⟩:=h;exact ⟨u,ta,rfl,oneU h0,ih h⟩
 cases x with
 | tup vs =>
  obtain ⟨us,hv,hc⟩:=h;exact ⟨us,hv,all hc⟩
 | ptr t' n' off =>
  have h1:=one (x:=.ptr t' n' off) h;have h2:(AV.ptr t' n' off).isObj=true:=hx;simp only [h2,if_true] at h1;show tB ι' av avb w (if (AV.ptr t' n' off).isObj then .ptr d n 0 else .ptr t' n' off) v;rw [if_pos h2];exact h1
 | _=>simp [AV.backN,AV.isObj] at hx
theorem PT.held {p:Nat} {av db:Av} {w w':World} (h:qB av db w w') {x:AV} {v:Value} (hr:PT p av w x v):PT p db w' x v:=by
 unfold PT at hr ⊢;split at hr
 ·rename_i ho; rw [if_pos ho]; exact hr
 ·rename_i ho; rw [if_neg ho]; exact UE.held h _ _ hr
theorem i9.held {p:Nat} {av db:Av} {w w':World} (h:qB av db w w') {x:AV} {v:Value} (hr:i9 p av w x v):i9 p db w' x v:=by
 have all:∀ {xs:List AV} {us:List Value},LL p av w xs us->LL p db w' xs us:=by
  intro xs
  induction xs with
  | nil=>intro us h; exact h
  | cons x r ih =>
   intro us h';simp only [LL] at h' ⊢;obtain ⟨u,ta,rfl,h0,h'⟩:=h';exact ⟨u,ta,rfl,PT.held h h0,ih h'⟩
 cases x <;> first | exact PT.held h hr | (obtain ⟨us,hv,hc⟩:=hr; exact ⟨us,hv,all hc⟩)
theorem mC.turnObj (R:mC P O nt B F0 da w0 D s a w ι Θ) {t n p:Nat} {H H':Nat->Prop} {S':AV} (hp:ι t n=some p) (uc:ι.ob t n=some H) (ne:O.at_ S' H' p w') (htie:Tie ι S' p w') (hH:∀ b,H' b->H b\/w.heap.size<=b) (hk:FD H w w') :
  ∃ ι':Ix,mC P O nt B F0 da w0 D (s.setObj t n S') a w' ι' Θ/\qB (fun b o=>KC da ι Θ b o\/H' b) (KC da ι' Θ) w' w':=by
 obtain ⟨hob1,hob2⟩:=R.obs t n H uc;have wu:∀ t' n' H1,(if t'=t/\n'=n then some H' else ι.ob t' n')=some H1->(t'=t/\n'=n/\H1=H')\/(¬ (t'=t/\n'=n)/\ι.ob t' n'=some H1):=fun t' n' H1 h=>by
  grind
 have tl:∀ b o,b<w.heap.size->DC ⟨ι.f,fun t' n'=>if t'=t/\n'=n then some H' else ι.ob t' n',ι.z⟩ Θ b o->DC ι Θ b o:=fun b o hb h=>h.imp (fun h=>h.imp id fun ⟨t',n',H1,h1,h2⟩=>by
  rcases wu _ _ _ h1 with ⟨e1,e2,e3⟩ | ⟨_,h1⟩
  ·subst e3;rcases hH b h2 with h3 | h3
   ·exact ⟨t,n,H,uc,h3⟩
   ·omega
  ·exact ⟨t',n',H1,h1,h2⟩) id
 have nn:∀ t1 n1 b1 H1,ι t1 n1=some b1->ι.ob t1 n1=some H1->(⟨ι.f,fun t' n'=>if t'=t/\n'=n then some H' else ι.ob t' n',ι.z⟩:Ix) t1 n1=some b1/\∃ H2,(⟨ι.f,fun t' n'=>if t'=t/\n'=n then some H' else ι.ob t' n',ι.z⟩:Ix).ob t1 n1=some H2:=fun t1 n1 b1 H1 g1 g2=>⟨g1,by
  by_cases e:t1=t/\n1=n
  ·exact ⟨H',by simp only [if_pos e]⟩
  ·exact ⟨H1,by simp only [if_neg e]; exact g2⟩⟩
 have ec:∀ b o u,w.cell? ⟨b,o,none⟩=some u->¬ H b->w'.cell? ⟨b,o,none⟩=some u:=fun b o u hc hn=>(World.cell?_of_block (w:=w) (a:=⟨b,o,none⟩) (hk.block b (QL hc) hn)).trans hc
 have hB:qB (DC ι Θ) (DC ⟨ι.f,fun t' n'=>if t'=t/\n'=n then some H' else ι.ob t' n',ι.z⟩ Θ) w w':=⟨fun b o u hc hn=>⟨ec b o u hc fun h=>hn (.inl (.inr ⟨t,n,H,uc,h⟩)),fun h=>hn (tl b o (QL hc) h)⟩⟩;have hA:qB (KC da ι Θ) (KC da ⟨ι.f,fun t' n'=>if t'=t/\n'=n then some H' else ι.ob t' n',ι.z⟩ Θ) w w':=⟨fun b o u hc hn=>⟨ec b o u hc fun h=>hn (.inr (.inl (.inr ⟨t,n,H,uc,h⟩))),fun h=>hn (h.imp id (tl b o (QL hc)))⟩⟩;have ng:=R.lowB;have tb:=hk.size;have henv:∀ t1,tB ⟨ι.f,fun t' n'=>if t'=t/\n'=n then some H' else ι.ob t' n',ι.z⟩ (KC da ⟨ι.f,fun t' n'=>if t'=t/\n'=n then some H' else ι.ob t' n',ι.z⟩ Θ) (DC ⟨ι.f,fun t' n'=>if t'=t/\n'=n then some H' else ι.ob t' n',ι.z⟩ Θ) w' (s.env t1).v (a.tmps.getD t1 undef):=fun t1=>tB.held (ι:=ι) (ι':=⟨ι.f,fun t' n'=>if t'=t/\n'=n then some H' else ι.ob t' n',ι.z⟩) ⟨fun _ _ _ h=>h,fun _ _ _ _=>rfl⟩ hA hB _ _ (R.env t1)
 have hgen:∀ t1,tB ⟨ι.f,fun t' n'=>if t'=t/\n'=n then some H' else ι.ob t' n',ι.z⟩ (KC da ⟨ι.f,fun t' n'=>if t'=t/\n'=n then some H' else ι.ob t' n',ι.z⟩ Θ) (DC ⟨ι.f,fun t' n'=>if t'=t/\n'=n then some H' else ι.ob t' n',ι.z⟩ Θ) w' (s.gh t1).v (F0.g t1):=fun t1=>tB.held (ι:=ι) (ι':=⟨ι.f,fun t' n'=>if t'=t/\n'=n then some H' else ι.ob t' n',ι.z⟩) ⟨fun _ _ _ h=>h,fun _ _ _ _=>rfl⟩ hA hB _ _ (R.gen t1)
 refine ⟨⟨ι.f,fun t' n'=>if t'=t/\n'=n then some H' else ι.ob t' n',ι.z⟩,⟨R.defers,R.size,henv,R.ann,fun t' n' r hr=>?_,fun t' n' b h=>?_,R.inj,fun k o h=>?_,R.tinj,R.apart,R.out,(fun p' h=>⟨(R.pin p' h).1,by
  rcases (R.pin p' h).2 with hr0 | ⟨H1,h1⟩
  ·exact .inl hr0
  refine .inr ?_;show ∃ H2,(if 0=t/\0=n then some H' else ι.ob 0 0)=some H2;split
  ·exact ⟨_,rfl⟩
  ·exact ⟨H1,h1⟩⟩),?_,R.base,fun t' n' S1 h=>?_,fun t' n' H1 h=>?_,hgen,R.gann⟩,?_⟩
 ·obtain ⟨h0,b,cur,ty,h1,h2,h3,h8⟩:=R.rows t' n' r hr;have ma:¬ (t'=t/\n'=n):=fun e=>by rw [e.1,e.2,uc] at h0; cases h0
  have hbn:¬ H b:=fun hb=>ma ((hob1 b hb).2.2.1 t' n' h1)
  exact ⟨by simp only [if_neg ma]; exact h0,b,cur,ty,h1,(hk.block b (LA h2) hbn).trans h2,h3.held ⟨fun _ _ _ h=>h,fun _ _ _ _=>rfl⟩ hA (fun _ _ h=>h),h8⟩
 ·obtain ⟨h1,h2,h3⟩:=R.mine t' n' b h;exact ⟨h1,by omega,h3⟩
 ·obtain ⟨h1,h2,h3,h4,gc,h5,h6⟩:=R.tok k o h;exact ⟨h1,h2,h3,h4,gc,(hk.block _ (LA h5) (R.apob h uc)).trans h5,h6⟩
 ·refine R.kept.trans hk fun i hi h=>?_
  have:=R.base
  grind
 ·simp only [aA.setObj] at h;split at h
  ·rename_i e;injection h with h;subst h;exact ⟨p,H',by rw [e.1,e.2]; exact hp,by simp only [if_pos e],ne,htie.keep nn fun x hx=>hx⟩
  ·rename_i e;obtain ⟨p1,H1,h1,h2,h3,h4⟩:=R.objs t' n' S1 h;have ru:∀ b,H1 b->¬ H b:=fun b hb wa=>e ((hob1 b wa).2.2.2.2 t' n' H1 h2 hb)
   exact ⟨p1,H1,h1,by simp only [if_neg e]; exact h2,O.keep h3 (fun b hb=>hk.block b (O.lt h3 hb) (ru b hb)) tb,h4.keep nn fun x hx=>(hk.block _ (LA hx) (ru _ (O.main h3))).trans hx⟩
 ·rcases wu _ _ _ h with ⟨e1,e2,e3⟩ | ⟨e,h⟩
  ·subst e1; subst e2; subst e3;refine ⟨fun b hb=>?_,hob2⟩;rcases hH b hb with h1 | h1
   ·grind
   ·refine ⟨.inl (by omega),O.lt ne hb,fun t1 n1 h2=>?_,fun k o h2 e=>?_,fun t1 n1 H2 h2 h3=>?_⟩
    ·have:=(R.mine _ _ _ h2).2.1; omega
    ·obtain ⟨_,_,_,_,gc,h5,_⟩:=R.tok k o h2; have:=LA h5; omega
    ·rcases wu _ _ _ h2 with ⟨e1,e2,_⟩ | ⟨_,h2⟩
     ·omega
     ·have:=((R.obs _ _ _ h2).1 b h3).2.1; omega
  ·obtain ⟨h1,h2⟩:=R.obs t' n' H1 h;refine ⟨fun b hb=>?_,h2⟩;obtain ⟨g1,g2,g3,g4,g5⟩:=h1 b hb;refine ⟨g1,by omega,g3,g4,fun t1 n1 H2 h2 h3=>?_⟩;rcases wu _ _ _ h2 with ⟨e1,e2,e3⟩ | ⟨_,h2⟩
   ·subst e3;rcases hH b h3 with h4 | h4
    ·have:=g5 t n H uc h4;omega
    ·omega
   ·exact g5 t1 n1 H2 h2 h3
 ·refine qB.less fun b o h=>?_
  rcases h with h | h | h
  ·exact .inl (.inl h)
  ·rcases h with h | ⟨t1,n1,H2,h2,h3⟩
   ·exact .inl (.inr (.inl (.inl h)))
   ·rcases wu _ _ _ h2 with ⟨_,_,e3⟩ | ⟨_,h2⟩
    ·grind
    ·exact .inl (.inr (.inl (.inr ⟨t1,n1,H2,h2,h3⟩)))
  ·exact .inl (.inr (.inr h))
theorem mC.newObj (R:mC P O nt B F0 da w0 D s a w ι Θ) {d p:Nat} {H:Nat->Prop} {S:AV} (hb:Below w.heap.size w w') (hD:¬ D d) (ne:O.at_ S H p w') (htie:Tie ι S p w') (hH:∀ b,H b->w.heap.size<=b) :
  ∃ ι':Ix,mC P O nt B F0 da w0 (fun t=>D t\/t=d) (s.setObj d s.next S) a w' ι' Θ/\ι' d s.next=some p/\qB (fun b o=>KC da ι Θ b o\/H b) (KC da ι' Θ) w' w':=by
 have ng:=R.lowB;have tb:=hb.size;have hpH:=hH p (O.main ne);have mh:ι d s.next=none:=by
  cases h:ι d s.next with
  | none=>rfl
  | some b =>
   rcases (R.mine _ _ _ h).2.2 with h1 | h1
   ·omega
   ·simp_all
 have sg:ι.ob d s.next=none:=by
  cases h:ι.ob d s.next with
  | none=>rfl
  | some b =>
   rcases (R.obs _ _ _ h).2 with h1 | h1
   ·omega
   ·simp_all
 have hmemn:s.mem d s.next=none:=by
  cases h:s.mem d s.next with
  | none=>rfl
  | some r=>obtain ⟨_,b,cur,ty,h1,_⟩:=R.rows _ _ _ h; rw [mh] at h1; cases h1
 obtain ⟨ι',hι'⟩:∃ ι':Ix,ι'=⟨fun t' n'=>if t'=d/\n'=s.next then some p else ι t' n',fun t' n'=>if t'=d/\n'=s.next then some H else ι.ob t' n',ι.z⟩:=⟨_,rfl⟩;have hf:∀ t' n' b,ι' t' n'=some b->(t'=d/\n'=s.next/\b=p)\/(¬ (t'=d/\n'=s.next)/\ι t' n'=some b):=fun t' n' b h=>by
  subst hι'
  grind
 have ho:∀ t' n' H1,ι'.ob t' n'=some H1->(t'=d/\n'=s.next/\H1=H)\/(¬ (t'=d/\n'=s.next)/\ι.ob t' n'=some H1):=fun t' n' H1 h=>by
  subst hι'
  grind
 have je:∀ t n b,ι t n=some b->ι' t n=some b:=fun t n b h=>by
  subst hι'
  grind
 have iq:∀ t n H1,¬ (t=d/\n=s.next)->ι.ob t n=H1->ι'.ob t n=H1:=fun t n H1 e h=>by
  simp_all
 have oc:ι' d s.next=some p:=by
  simp_all
 have tu:ι'.ob d s.next=some H:=by subst hι'; simp
 have nn:∀ t1 n1 b1 H1,ι t1 n1=some b1->ι.ob t1 n1=some H1->ι' t1 n1=some b1/\∃ H2,ι'.ob t1 n1=some H2:=fun t1 n1 b1 H1 g1 g2=>⟨je _ _ _ g1,H1,iq _ _ _ (fun e=>by rw [e.1,e.2,sg] at g2; cases g2) g2⟩
 have cz:∀ b,ι'.z b=ι.z b:=fun b=>by subst hι'; rfl
 have bc:Ix.Le ι ι':=⟨je,fun _ _ _ _=>cz _⟩;clear hι';have tl:∀ b o,b<w.heap.size->DC ι' Θ b o->DC ι Θ b o:=fun b o bo h=>h.imp (fun h=>by
  rcases h with ⟨t',n',h⟩ | ⟨t',n',H1,h,h2⟩
  ·rcases hf _ _ _ h with ⟨_,_,e⟩ | ⟨_,h⟩
   ·omega
   ·exact .inl ⟨t',n',h⟩
  ·rcases ho _ _ _ h with ⟨_,_,e⟩ | ⟨_,h⟩
   ·subst e; have:=hH b h2; omega
   ·exact .inr ⟨t',n',H1,h,h2⟩) id
 have hB:qB (DC ι Θ) (DC ι' Θ) w w':=qB.grown (fun b wa=>hb.block b wa) tl;have hA:qB (KC da ι Θ) (KC da ι' Θ) w w':=qB.grown (fun b wa=>hb.block b wa) fun b o bo h=>h.imp id (tl b o bo)
 refine ⟨ι',⟨R.defers,R.size,fun t=>tB.held bc hA hB _ _ (R.env t),R.ann,fun t' n' r hr=>?_,fun t' n' b h=>?_,fun t n t' n' b h h'=>?_,fun k o h=>?_,R.tinj,fun k o t n h h'=>?_,R.out,fun p h=>⟨je _ _ _ (R.pin p h).1,by
  rcases (R.pin p h).2 with hr0 | ⟨H1,h1⟩
  ·exact .inl ⟨hr0.1,(bc.z _ _ _ (R.pin p h).1).trans hr0.2⟩
  refine .inr ?_;by_cases e:0=d/\0=s.next
  ·exact ⟨H,by rw [<- e.1,<- e.2] at tu; exact tu⟩
  ·exact ⟨H1,iq _ _ _ e h1⟩⟩,R.kept.trans_below hb,R.base,fun t' n' S1 h=>?_,fun t' n' H1 h=>?_,fun t=>tB.held bc hA hB _ _ (R.gen t),R.gann⟩,oc,?_⟩
 ·obtain ⟨h0,b,cur,ty,h1,h2,h3,h8,h9⟩:=R.rows t' n' r hr;have ma:¬ (t'=d/\n'=s.next):=fun e=>by
   simp_all
  exact ⟨iq _ _ _ ma h0,b,cur,ty,je _ _ _ h1,(hb.block b (LA h2)).trans h2,h3.held bc hA (fun _ _ h=>h),h8,h9.trans (cz _).symm⟩
 ·rcases hf _ _ _ h with ⟨e1,e2,e⟩ | ⟨_,h⟩
  ·subst e;exact ⟨.inl (by omega),O.lt ne (O.main ne),.inr ⟨e2,.inr e1⟩⟩
  ·obtain ⟨h1,h2,h3⟩:=R.mine t' n' b h;exact ⟨h1,by omega,h3.imp id fun ⟨e,d⟩=>⟨e,.inl d⟩⟩
 ·rcases hf _ _ _ h with ⟨e1,e2,e⟩ | ⟨_,h⟩ <;> rcases hf _ _ _ h' with ⟨g1,g2,g⟩ | ⟨_,h'⟩
  ·omega
  ·have:=(R.mine _ _ _ h').2.1; omega
  ·have:=(R.mine _ _ _ h).2.1; omega
  ·exact R.inj t n t' n' b h h'
 ·obtain ⟨h1,h2,h3,h4,gc,h5,h6⟩:=R.tok k o h;exact ⟨h1,h2,h3,h4,gc,(hb.block _ (LA h5)).trans h5,h6⟩
 ·obtain ⟨_,_,_,_,gc,h5,_⟩:=R.tok k o h;have fa:=LA h5;rcases hf _ _ _ h' with ⟨_,_,e⟩ | ⟨_,h'⟩
  ·omega
  ·exact R.apart k o t n h h'
 ·simp only [aA.setObj] at h;split at h
  ·rename_i e;injection h with h;subst h;exact ⟨p,H,by rw [e.1,e.2]; exact oc,by rw [e.1,e.2]; exact tu,ne,htie.keep nn fun x hx=>hx⟩
  ·rename_i e;obtain ⟨p1,H1,h1,h2,h3,h4⟩:=R.objs t' n' S1 h;exact ⟨p1,H1,je _ _ _ h1,iq _ _ _ e h2,O.keep h3 (fun b wa=>hb.block b (O.lt h3 wa)) tb,h4.keep nn fun x hx=>(hb.block _ (LA hx)).trans hx⟩
 ·rcases ho _ _ _ h with ⟨e1,e2,e⟩ | ⟨_,h⟩
  ·subst e;refine ⟨fun b wa=>⟨.inl (by have:=hH b wa; omega),O.lt ne wa,fun t1 n1 h2=>?_,fun k o h2 e=>?_,fun t1 n1 H2 h2 h3=>?_⟩,.inr ⟨e2,.inr e1⟩⟩
   ·have:=hH b wa;rcases hf _ _ _ h2 with ⟨g1,g2,_⟩ | ⟨_,h2⟩
    ·omega
    ·have:=(R.mine _ _ _ h2).2.1; omega
   ·have:=hH b wa;obtain ⟨_,_,_,_,gc,h5,_⟩:=R.tok k o h2; have:=LA h5; omega
   ·have:=hH b wa;rcases ho _ _ _ h2 with ⟨g1,g2,_⟩ | ⟨_,h2⟩
    ·omega
    ·have:=((R.obs _ _ _ h2).1 b h3).2.1; omega
  ·obtain ⟨h1,h2⟩:=R.obs t' n' H1 h;refine ⟨fun b wa=>?_,h2.imp id fun ⟨e,d⟩=>⟨e,.inl d⟩⟩;obtain ⟨g1,g2,g3,g4,g5⟩:=h1 b wa;refine ⟨g1,by omega,fun t1 n1 h2=>?_,g4,fun t1 n1 H2 h2 h3=>?_⟩
   ·grind
   ·grind
 ·refine qB.less fun b o h=>?_
  rcases h with h | h | h
  ·exact .inl (.inl h)
  ·rcases h with ⟨t',n',h⟩ | ⟨t',n',H1,h,h2⟩
   ·rcases hf _ _ _ h with ⟨_,_,e⟩ | ⟨_,h⟩
    ·subst e; exact .inr (O.main ne)
    ·exact .inl (.inr (.inl (.inl ⟨t',n',h⟩)))
   ·rcases ho _ _ _ h with ⟨_,_,e⟩ | ⟨_,h⟩
    ·simp_all
    ·exact .inl (.inr (.inl (.inr ⟨t',n',H1,h,h2⟩)))
  ·exact .inl (.inr (.inr h))
theorem tU {s:aA} {cl:Cl}:∀ {xs:List aC} {vs:List AV},TF s cl xs=some vs->gJ vs=false
 | [],vs,h=>by injection h with h; subst h; rfl
 | x :: r,vs,h=>by
  unfold TF at h;split at h
  ·rename_i v us hv hr;injection h with h;subst h;cases v with
   | undef =>
    exfalso;unfold KF at hv;split at hv
    ·obtain ⟨_,_,hv⟩:=yn.1 hv; cases hv
    unfold US at hv;split at hv
    ·split at hv
     ·obtain ⟨_,_,hv⟩:=yn.1 hv; cases hv
     ·cases hv
    ·injection hv with hv; cases hv
    ·injection hv with hv; cases hv
    ·split at hv
     ·injection hv with hv; cases hv
     ·cases hv
    ·split at hv
     ·rename_i hf; injection hv with hv; rw [hv] at hf; cases hf
     ·cases hv
   | _=>rfl
  ·cases h
section
variable (R:mC P O nt B F0 da w0 D s a w ι Θ) {call:JB} (eb:∀ f args S r,call f args S=some r->DD P O f args S r)
include R call eb
theorem op_call {f:FuncId} {Xs:Array Operand} {ts:Array TypeId} {xs:List aC} (hx:bH Xs.toList=some xs) (ho:o.op=.call { callee:=.value (.func f),args:=Xs,argTypes:=ts }) (hd:∀ d,o.dst=some d->d<nt) (hD:∀ d,o.dst=some d->¬ D d) {cl:Cl} {xe:wA × TD} (hr:(K.call cl f xs).run call s=some xe) {g} {s':aA} (he:TA.eff ⟨o.dst,.call cl f xs,g⟩ s xe=some s')
  {Kn:Act->World->Prop} {Q:Exit->Act->World->Prop} (hK:∀ a' w',eE P O nt B F0 da w0 (fun t=>D t\/o.dst=some t) s' a' w'->Kn a' w'):o.wp P a w Kn Q:=by
 simp only [K.run] at hr;obtain ⟨vs,hl,hr⟩:=ye.1 hr;have sf:(Xs.toList.map a.eval).toArray=Xs.map a.eval:=by rw [<- Array.toList_map,yX]
 have run:∀ {S0:Option AV} {r:RV},D3 P O f vs S0 r->(execOp a.eval o).run P w=.ok (.enter f (Xs.map a.eval)) w:=fun h=>by
  simp only [execOp,ho,resolve,Act.eval,Deferred.ofValue,Sem.run_bind,Sem.run_pure,Result.andThen_ok,invoke];have:=h.1 (#[]++Xs.map a.eval++#[]) w;simp_all
 have ug:∀ b o,KC da ι Θ b o->b<w.heap.size:=fun b o h=>R.low h
 split at hr
 ·rename_i zm;have nob:∀ x∈xs,∀ t n,x.get s=.ptr t n 0->False:=fun x hx t n h=>by
   have:(t,n)∈rL s xs:=List.mem_filterMap.2 ⟨x,hx,by rw [h]⟩;simp_all
  have rd:=qN (ι':=Ix.none) (avl:=fun _ _=>False) R (fun _ _ h=>h.elim) hx hl fun x hx t n h=>(nob x hx t n h).elim
  obtain ⟨r,hc,hr⟩:=ye.1 hr;have sa:=(DD.of (tU hl)).1 (eb f vs none r hc);obtain ⟨r1,r2⟩:=r;unfold Oper.wp;rw [run sa,Oper.upon_enter];cases r2 with
  | none =>
   simp only at hr;split at hr
   ·cases hr;simp only [TA.eff] at he;cases he;have hC:=sa.2 (KC da ι Θ) w _ ug rd;rw [sf] at hC;refine hC.mono ?_;rintro e w' ⟨v,rfl,hv,hb⟩;have R':mC P O nt B F0 da w0 D s a w' ι Θ:=R.grow (fun b wa=>hb.block b wa) hb.size (R.kept.trans_below hb);exact hK _ _ ⟨ι,Θ,(R'.putN (x:=⟨_,.no⟩) hd (dN hv) trivial).more fun _ h=>.inl h⟩
   ·cases hr
  | some S' =>
   simp only at hr;split at hr
   ·rename_i dy;cases hr;simp only [TA.eff] at he;split at he
    ·cases he
    ·rename_i d ca;cases he;have hC:=sa.2 (KC da ι Θ) w _ ug rd;rw [sf] at hC;refine hC.mono ?_;rintro e w' ⟨v,p,H',rfl,hv,ne,hH,hb⟩;obtain ⟨ι',R2,hι,oe⟩:=R.newObj (d:=d) hb (hD d ca) ne (Tie.no dy.2.2) hH;rw [ca];refine hK _ _ ⟨ι',Θ,(R2.put (x:=⟨_,.no⟩) (hd d ca) (named_rep (i9.held oe hv) hι dy.1) trivial).more fun t h=>h.imp id fun e=>by rw [ca,e]⟩
   ·cases hr
 ·rename_i t n xu;obtain ⟨r,hc,hr⟩:=ye.1 hr;obtain ⟨r1,r2⟩:=r;cases r2 with
  | none=>cases hr
  | some S' =>
   simp only at hr;split at hr
   ·rename_i aa;cases hr;simp only [TA.eff] at he;cases he;obtain ⟨S,hS⟩:=Option.isSome_iff_exists.1 aa.2.1;rw [hS] at hc;have sa:=(DD.of (tU hl)).1 (eb f vs (some S) _ hc);obtain ⟨p,H,hp,uc,ne,_⟩:=R.objs t n S hS;have rd:=qN (ι':=Ix.one p) (avl:=fun b _=>H b) R (fun b _ h=>⟨t,n,H,uc,h⟩) hx hl fun x hx t' n' h=>by
     have:(t',n')∈rL s xs:=List.mem_filterMap.2 ⟨x,hx,by rw [h]⟩;rw [xu] at this;have:=yO.1 this;injection this with e1 e2;rw [e1,e2,hp];rfl
    unfold Oper.wp;rw [run sa,Oper.upon_enter];have hC:=sa.2 (KC da ι Θ) w _ p H ug (fun b o h=>.inr (.inl (.inr ⟨t,n,H,uc,h⟩))) ne rd;rw [sf] at hC;refine hC.mono ?_;rintro e w' ⟨v,H',rfl,hv,mt,hH,hk⟩;obtain ⟨ι',R',oe⟩:=R.turnObj hp uc mt (Tie.no aa.2.2) hH hk;refine hK _ _ ⟨ι',Θ,(R'.putN (x:=⟨_,.no⟩) hd (dN (UE.held oe _ _ hv)) trivial).more fun _ h=>.inl h⟩
   ·cases hr
 ·cases hr
theorem op_callv {tf:Nat} {Xs:Array Operand} {ts:Array TypeId} {xs:List aC} (hx:bH Xs.toList=some xs) (ho:o.op=.call { callee:=.value (.tmp tf),args:=Xs,argTypes:=ts }) (hd:∀ d,o.dst=some d->d<nt) {cl:Cl} {xe:wA × TD} (hr:(K.callv cl (.t tf) xs).run call s=some xe) {g} {s':aA} (he:TA.eff ⟨o.dst,.callv cl (.t tf) xs,g⟩ s xe=some s')
  {Kn:Act->World->Prop} {Q:Exit->Act->World->Prop} (hK:∀ a' w',eE P O nt B F0 da w0 (fun t=>D t\/o.dst=some t) s' a' w'->Kn a' w'):o.wp P a w Kn Q:=by
 simp only [K.run,aC.get] at hr;have hF:=R.env tf;split at hr
 ·rename_i f cs pr;rw [pr] at hF;obtain ⟨us,sd,io⟩:=hF;split at hr
  ·rename_i vs ws hl hw zm;have ug:∀ b o,KC da ι Θ b o->b<w.heap.size:=fun b o h=>R.low h
   have nob:∀ x∈xs,∀ t n,x.get s=.ptr t n 0->False:=fun x hx t n h=>by
    have:(t,n)∈rL s xs:=List.mem_filterMap.2 ⟨x,hx,by rw [h]⟩;simp_all
   have rd:=qN (ι':=Ix.none) (avl:=fun _ _=>False) R (fun _ _ h=>h.elim) hx hl fun x hx t n h=>(nob x hx t n h).elim
   have hcaps:=W0 (rU hw) (jR (ι':=Ix.none) (avl:=fun _ _=>False) R (fun _ _ h=>h.elim) io hw);have za:=pV rd hcaps;obtain ⟨r,hc,hr⟩:=ye.1 hr;have hm:gJ (vs++ws)=false:=by
    cases vs with
    | cons v r=>have:=tU hl; cases v <;> first | rfl | exact this
    | nil =>
     cases ws with
     | nil=>rfl
     | cons v r =>
      have:=rU hw v (yl);cases v <;> first | rfl | (simp [AV.capOk] at this; done)
   have sa:=(DD.of hm).1 (eb f (vs++ws) none r hc);obtain ⟨r1,r2⟩:=r;cases r2 with
   | some S'=>cases hr
   | none =>
    simp only at hr;split at hr
    ·cases hr;simp only [TA.eff] at he;cases he;have sf:(Xs.toList.map a.eval++us.toList).toArray=Xs.map a.eval++us:=by
      simp_all
     have run:(execOp a.eval o).run P w=.ok (.enter f (Xs.map a.eval++us)) w:=by
      have hev:a.eval (.tmp tf)=.func (.func f) #[] us:=sd;simp only [execOp,ho,resolve,hev,Deferred.ofValue,Sem.run_bind,Sem.run_pure,Result.andThen_ok,invoke];have:=sa.1 (#[]++Xs.map a.eval++us) w;simp_all
     unfold Oper.wp;rw [run,Oper.upon_enter];have hC:=sa.2 (KC da ι Θ) w _ ug za;rw [sf] at hC;refine hC.mono ?_;rintro e w' ⟨v,rfl,hv,hb⟩;have R':mC P O nt B F0 da w0 D s a w' ι Θ:=R.grow (fun b wa=>hb.block b wa) hb.size (R.kept.trans_below hb);exact hK _ _ ⟨ι,Θ,(R'.putN (x:=⟨_,.no⟩) hd (dN hv) trivial).more fun _ h=>.inl h⟩
    ·cases hr
  ·cases hr
 ·cases hr
end
theorem val_rstr (R:mC P O nt B F0 da w0 D s a w ι Θ) {t t':TypeId} {k:IntKind} (ht:P.underlying t=some (.int k)) (ht':P.underlying t'=some .string) {X:Operand} {x:aC} (hx:opd X=some x) (ho:o.op=.convert t t' X)
  {call} {y:wA} {e:TD} (hr:(K.rstr x).run call s=some (y,e)):e=.none/\fV P da a w ι Θ o y:=by
 have hX:=(R.opd hx).1;simp only [K.run] at hr;split at hr
 ·rename_i k' n hy;injection hr with hr; injection hr with h1 h2; subst h1; subst h2;rw [hy,TB] at hX;exact ⟨rfl,.string (Utf8.encode n),by simp [execOp,ho,convert,run_underlying ht,run_underlying ht',hX,Conv.intToString],by rw [tH],trivial⟩
 ·cases hr
theorem tS {av:Av}:∀ {m:List (List AV)} {bs:List UInt8} {us:List Value},bytesOf m=some bs->lD av w m.flatten us->∃ ns:List Int,us=ns.map (Value.int .u8)/\bs=ns.map (fun n=>UInt8.ofNat n.toNat)/\∀ c∈m,c.length=1
 | [],bs,us,hb,h=>by
  injection hb with hb;subst hb;cases h;exact ⟨[],rfl,rfl,by simp⟩
 | c :: r,bs,us,hb,h=>by
  unfold bytesOf at hb;split at hb
  ·rename_i n l hr;injection hb with hb;subst hb;simp only [yI,yR,List.nil_append,lD] at h;obtain ⟨u,ta,rfl,h0,_,h⟩:=h;obtain ⟨ns,e1,e2,e3⟩:=tS hr h;refine ⟨n :: ns,?_,by rw [e2]; rfl,?_⟩
   ·simp only [UE] at h0;rw [h0,e1]; rfl
   ·intro c hc;rcases yg.1 hc with rfl | hc
    ·rfl
    ·exact e3 c hc
  ·cases hb
theorem G2:∀ (ns:List Int) (acc:ByteArray),ns.foldl (fun r n=>r.push (UInt8.ofNat n.toNat)) acc=⟨acc.data++(ns.map fun n=>UInt8.ofNat n.toNat).toArray⟩
 | [],acc=>by simp
 | n :: r,acc=>by
  rw [List.foldl_cons,G2 r];congr 1;apply Array.ext';simp [ByteArray.push]
theorem val_bstr (R:mC P O nt B F0 da w0 D s a w ι Θ) {t t' e':TypeId} (ht:P.underlying t=some (.slice e')) (fi:P.underlying e'=some (.int .u8)) (ht':P.underlying t'=some .string) {X:Operand} {x:aC} (hx:opd X=some x) (ho:o.op=.convert t t' X)
  {call} {cl:Cl} {y:wA} {e:TD} (hr:(K.bstr cl x).run call s=some (y,e)):e=.none/\fV P da a w ι Θ o y:=by
 have hX:=(R.opd hx).1;simp only [K.run] at hr;split at hr
 ·rename_i m hm;obtain ⟨bs,ot,hr⟩:=yn.1 hr;injection hr with h1 h2; subst h1; subst h2;have hlen1:∀ c∈m,c.length=1:=by
   clear hX hm hr
   induction m generalizing bs with
   | nil=>simp
   | cons c r ih =>
    unfold bytesOf at ot
    grind
  obtain ⟨us,kc,hl,A,c,hv,hc,ec⟩:=wM R hX hm (sz:=1) (by omega) hlen1;obtain ⟨ns,e1,e2,_⟩:=tS ot kc;refine ⟨rfl,.string ⟨bs.toArray⟩,?_,by rw [tH],trivial⟩;have hns:ns.length=m.length:=by rw [e1] at hl; simpa using hl
  simp only [execOp,ho,hv,Sem.run_bind];rw [run_convert_bytes_string w t t' e' A m.length c ht fi ht'];cases A with
  | none =>
   rcases yN m.length with h0 | h0
   ·have:ns=[]:=yM (by omega);subst this;subst e2;simp [Conv.bytesToString];rfl
   ·simp_all
  | some a' =>
   have ku:(loadCells a' m.length).run P w=.ok (ns.map (Value.int .u8)).toArray w:=by
    have:=run_loadCells_list (P:=P) w a' (ns.map (Value.int .u8)) (fun j v hj=>by
     have bi:j<m.length:=by
      grind
     obtain ⟨b,off,hA,_,_,fc⟩:=ec (by omega);cases hA;rw [Addr.add_lit];rw [<- e1] at hj;exact fc j v hj)
    simp_all
   rw [run_bytesToString w a' m.length c ns ku,G2];simp_all
 ·cases hr
theorem CZ {t e:TypeId} {z n:Nat} (ht:P.underlying t=some (.array n e)) (hz:lC P e=some z) {b off:Nat} {L H:Option Operand} {l h:Nat} (hl:MW a 0 L (L.map a.eval,l)) (hh:MW a n H (H.map a.eval,h)) (h1:l<=h) (h2:h<=n) :
  (Instr.sliceAt t (.pointer (some ⟨b,off,none⟩)) (L.map a.eval) (H.map a.eval) none).run P w=.ok (.slice (some (if n=l then ⟨b,off,none⟩ else ⟨b,off + l * z,none⟩)) (h - l) (n - l)) w:=by
 cases L with
 | none =>
  obtain ⟨_,rfl⟩:=hl;cases H with
  | none =>
   obtain ⟨_,rfl⟩:=hh;simp [Instr.sliceAt,Instr.sureAddr,Instr.sliceBounds,run_underlying ht,SC hz,Addr.add_lit]
  | some x =>
   obtain ⟨_,k,i,hx,h0,rfl⟩:=hh;have:0<=i/\i<=(n:Int):=⟨h0,by omega⟩;simp [Instr.sliceAt,Instr.sureAddr,Instr.sliceBounds,Instr.sliceBound,run_underlying ht,SC hz,hx,asIntOf,this,Addr.add_lit]
 | some y =>
  obtain ⟨_,k',i',hy,wh,rfl⟩:=hl;cases H with
  | none =>
   obtain ⟨_,rfl⟩:=hh;have:0<=i'/\i'<=(h:Int):=⟨wh,by omega⟩;simp [Instr.sliceAt,Instr.sureAddr,Instr.sliceBounds,Instr.sliceBound,run_underlying ht,SC hz,hy,asIntOf,this,Addr.add_lit]
  | some x =>
   obtain ⟨_,k,i,hx,h0,rfl⟩:=hh;have h3:0<=i/\i<=(n:Int):=⟨h0,by omega⟩;have h4:0<=i'/\i'<=i:=⟨wh,by omega⟩;have h5:((i.toNat:Nat):Int)=i:=by omega
   simp [Instr.sliceAt,Instr.sureAddr,Instr.sliceBounds,Instr.sliceBound,run_underlying ht,SC hz,hy,hx,asIntOf,h3,h4,h5,Addr.add_lit]
section
variable (R:mC P O nt B F0 da w0 D s a w ι Θ)
include R
theorem val_aslc {t e':TypeId} {n z:Nat} (ht:P.underlying t=some (.array n e')) (hz:lC P e'=some z) {X:Operand} {L H:Option Operand} {x:aC} {l h:Option aC} (hx:opd X=some x) (hl:gW L=some l) (hh:gW H=some h)
  (ho:o.op=.slice t X L H none) {call} {cl:Cl} {y:wA} {e:TD} (hr:(K.aslc cl n z x l h).run call s=some (y,e)):e=.none/\fV P da a w ι Θ o y:=by
 have hX:=(R.opd hx).1;simp only [K.run] at hr;split at hr
 ·rename_i t' n' off hy;split at hr
  ·rename_i lo hi r ax gp hm;have hL:=tK R hl ax;have hH:=tK R hh gp;rw [hy,mG] at hX;obtain ⟨b,hb,hv⟩:=hX;obtain ⟨_,b',cur,ty,wa,ua,na,_,dw⟩:=R.rows t' n' r hm;rw [hb] at wa;injection wa with wa;subst wa;split at hr
   ·rename_i aa;obtain ⟨h1,h2,ic,h3,_⟩:=aa;have ja:=CZ (w:=w) (b:=b) (off:=off) ht hz hL hH h1 h2;split at hr
    ·rename_i heq;injection hr with hr; injection hr with e1 e2; subst e1; subst e2;refine ⟨rfl,.slice (some (if n=lo then ⟨b,off,none⟩ else ⟨b,off + lo * z,none⟩)) (hi - lo) (n - lo),by simp only [execOp,ho,hv,Option.map_none,Sem.run_bind,ja,Result.andThen_ok,Sem.run_pure],?_,trivial⟩;simp only [UF,UE];refine ⟨some (if n=lo then ⟨b,off,none⟩ else ⟨b,off + lo * z,none⟩),n - lo,by rw [heq]; simp,by simp,by simp,by simp,fun _=>⟨by simp,by simp⟩⟩
    ·rename_i ma;injection hr with hr; injection hr with e1 e2; subst e1; subst e2;refine ⟨rfl,.slice (some (if n=lo then ⟨b,off,none⟩ else ⟨b,off + lo * z,none⟩)) (hi - lo) (n - lo),by simp only [execOp,ho,hv,Option.map_none,Sem.run_bind,ja,Result.andThen_ok,Sem.run_pure],?_,trivial⟩;rw [XH];refine ⟨b,hb,by omega,n - lo,yj _,?_,by rw [if_neg (by omega)]⟩;have:(n - lo) * z + lo * z=n * z:=by rw [<- Nat.add_mul]; congr 1; omega
     have:=na.1;omega
   ·cases hr
  ·cases hr
 ·cases hr
theorem val_mkf {f:FuncId} {fs Xs:Array Operand} (hfs:fs.size=0) {xs:List aC} (hx:bH Xs.toList=some xs) (ho:o.op=.makeFunc (.func f) fs Xs)
  {call} {y:wA} {e:TD} (hr:(K.mkf f xs).run call s=some (y,e)):e=.none/\fV P da a w ι Θ o y:=by
 simp only [K.run] at hr;split at hr
 ·rename_i za;injection hr with hr; injection hr with e1 e2; subst e1; subst e2;have key:∀ {Xs:List Operand} {xs:List aC},bH Xs=some xs->xs.all (fun x=>(x.get s).capOk)=true->CG ι (KC da ι Θ) (DC ι Θ) w (xs.map (·.get s)) (Xs.map a.eval):=by
   intro Xs
   induction Xs with
   | nil=>intro xs h _; injection h with h; subst h; rfl
   | cons X r ih =>
    intro xs h hc;unfold bH at h;split at h
    ·rename_i x l h1 h2;cases h;simp only [List.all_cons,y7] at hc;refine ⟨_,_,rfl,?_,ih h2 hc.2⟩;have hX:=(R.opd h1).1;have hk:=hc.1;show ZV ι (KC da ι Θ) (DC ι Θ) w (x.get s) (a.eval X);cases hg:x.get s <;> rw [hg] at hX hk <;> first | exact hX | (simp [AV.capOk] at hk; done)
    ·cases h
  have hfs0:fs=#[]:=Array.eq_empty_of_size_eq_zero hfs;refine ⟨rfl,.func (.func f) #[] (Xs.map a.eval),by simp [execOp,ho,Instr.makeFunc,hfs0],⟨Xs.map a.eval,rfl,?_⟩,trivial⟩;simp_all
 ·cases hr
theorem mC.turnRow {t n b:Nat} (hb:ι t n=some b) (nb:ι.ob t n=none) {r:List wA} {new:Array Value} {ss:TypeId} (ne:w'.heap[b]?=some (.cells new ss (0,0))) (hk:FD (fun k=>k=b) w w') (na:rE ι Θ (KC da ι Θ) w' r new) (pk:B<=b\/F0.r b) (hnz:new.size=ι.z b) :
  mC P O nt B F0 da w0 D (s.setRow t n r) a w' ι Θ:=by
 have ma:∀ b',b'<w.heap.size->b'≠b->w'.heap[b']?=w.heap[b']?:=fun b' h1 h=>hk.block b' h1 h
 have hB:qB (DC ι Θ) (DC ι Θ) w w':=⟨fun b' o u hc hn=>by
  have:b'≠b:=fun e=>hn (.inl (.inl ⟨t,n,e ▸ hb⟩))
  exact ⟨(World.cell?_of_block (w:=w) (a:=⟨b',o,none⟩) (ma b' (QL hc) this)).trans hc,hn⟩⟩
 have hA:qB (KC da ι Θ) (KC da ι Θ) w w':=⟨fun b' o u hc hn=>by
  have:b'≠b:=fun e=>hn (.inr (.inl (.inl ⟨t,n,e ▸ hb⟩)))
  exact ⟨(World.cell?_of_block (w:=w) (a:=⟨b',o,none⟩) (ma b' (QL hc) this)).trans hc,hn⟩⟩
 have pu:=R.mine t n b hb;have tb:=hk.size;refine ⟨R.defers,R.size,fun t=>tB.held (Ix.Le.refl _) hA hB _ _ (R.env t),R.ann,fun t' n' r' hr=>?_,fun t n b h=>?_,R.inj,fun k o h=>?_,R.tinj,R.apart,R.out,R.pin,?_,R.base,fun t' n' S h=>?_,fun t n H h=>(R.obs t n H h).grow tb,fun t=>tB.held (Ix.Le.refl _) hA hB _ _ (R.gen t),R.gann⟩
 ·simp only [aA.setRow] at hr;split at hr
  ·rename_i e;simp_all
  ·rename_i e;obtain ⟨h0,b',gc,ss,h1,h2,h3,h4⟩:=R.rows t' n' r' hr;have:b'≠b:=fun e'=>e (R.inj _ _ _ _ _ (e' ▸ h1) hb)
   exact ⟨h0,b',gc,ss,h1,(ma b' (LA h2) this).trans h2,h3.held (Ix.Le.refl _) hA (fun _ _ h=>h),h4⟩
 ·obtain ⟨h1,h2,h3⟩:=R.mine t n b h;exact ⟨h1,by omega,h3⟩
 ·obtain ⟨h1,h2,h3,h4,gc,h5,h6⟩:=R.tok k o h;have:o.g≠b:=fun e=>R.apart k o t n h (e ▸ hb)
  grind
 ·refine R.kept.trans hk fun i hi h=>?_
  subst h;rcases pu.1 with h | h
  ·have:=R.base; omega
  ·exact h
 ·obtain ⟨p,H,h1,h2,h3,h4⟩:=R.objs t' n' S h;have ru:∀ b',H b'->b'≠b:=fun b' hH e=>by
   subst e;have:=((R.obs _ _ _ h2).1 _ hH).2.2.1 t n hb;simp_all
  exact ⟨p,H,h1,h2,O.keep h3 (fun b' hH=>ma b' (O.lt h3 hH) (ru b' hH)) tb,h4.keep (fun t n b H h g=>⟨h,H,g⟩) fun x hx=>(ma _ (LA hx) (ru _ (O.main h3))).trans hx⟩
end
theorem RX (R:mC P O nt B F0 da w0 D s a w ι Θ) {t n p z:Nat} (hp:ι t n=some p) (hz:ι.z p=z) {cl:Cl}:∀ {Xs:List Operand} {xs:List aC} {vs:List AV},bH Xs=some xs->EB s cl t n xs=some vs->JL (Ix.row p z) (KC da ι Θ) (fun b _=>b=p) w vs (Xs.map a.eval)
 | [],xs,vs,h,hl=>by
  injection h with h;subst h;injection hl with hl;subst hl;rfl
 | X :: Xs,xs,vs,h,hl=>by
  unfold bH at h;split at h
  ·rename_i x l hx hr;injection h with h;subst h;unfold EB at hl;split at hl
   ·rename_i v mw hv xg;injection hl with hl;subst hl;refine ⟨_,_,rfl,?_,RX R hp hz hr xg⟩;have hX:=(R.opd hx).1;have hB:∀ (b o:Nat),b=p->DC ι Θ b o:=fun b o h=>.inl (.inl ⟨t,n,h ▸ hp⟩)
    unfold GC at hv;split at hv
    ·rename_i t' n' off hg;split at hv
     ·rename_i e;injection hv with hv;subst hv;rw [hg,e.1,e.2] at hX;obtain ⟨b,hb,hv⟩:=mG.1 hX;rw [hp] at hb;injection hb with hb;subst hb;exact ⟨p,rfl,hv⟩
     ·cases hv
    ·rename_i t' n' sz off len cap hg;split at hv
     ·rename_i e;injection hv with hv;subst hv;rw [hg,e.1,e.2] at hX;obtain ⟨b,hb,h1,c,h2,h3,hv⟩:=XH.1 hX;rw [hp] at hb;injection hb with hb;subst hb;exact ⟨p,rfl,h1,c,h2,by rw [hz] at h3; exact h3,hv⟩
     ·rename_i e;rw [hg] at hX;refine uU R hB (fun t1 n1 b o hb1 _ ⟨sz1,off1,len1,cap1,hy⟩ h=>e ?_) hX hv fun t n h=>by cases h
      injection hy with e1 e2;subst h;exact R.inj _ _ _ _ _ (by rw [e1,e2]; exact hb1) hp
    ·rename_i f cs hg;split at hv
     ·rename_i hc;injection hv with hv;subst hv;rw [hg,List.isEmpty_iff.1 hc] at hX;exact hX
     ·cases hv
    ·rename_i y h1 h2 h3;exact uU R hB (fun t1 n1 b o _ _ ⟨sz1,off1,len1,cap1,hy⟩=>absurd hy (h2 _ _ _ _ _ _)) hX hv fun t n h=>absurd h (h1 _ _ _)
   ·cases hl
  ·cases h
theorem row_ofz {av:Av} {cs:List AV} {us:List Value} (h:lD av w cs us) {cur:Array Value} (hc:∀ (j:Nat) (u:Value),us[j]?=some u->cur[j]?=some u):rE ι Θ av w (cs.map fun v=>⟨v,rB v⟩) cur:=by
 have h0:=row_of (ι:=ι) (Θ:=Θ) h hc;refine ⟨by simpa using h0.1,fun j x hx=>?_⟩;rw [yc] at hx;obtain ⟨v,hv,rfl⟩:=yn.1 hx;obtain ⟨u,h1,h2,h3,_⟩:=h0.2 j ⟨v,.no⟩ (by rw [yc,hv]; rfl);refine ⟨u,h1,h2,h3,?_⟩;unfold rB;split
 ·rename_i b l hh;simp only at h3;obtain ⟨A,c,hv,_,_,hn,_⟩:=(by simpa [wB,UE] using h3:UE av w (.sl true _) u);obtain ⟨rfl,e1,rfl⟩:=hn rfl;exact ⟨none,0,by rw [hv,e1]⟩
 ·trivial
theorem op_callr (R:mC P O nt B F0 da w0 D s a w ι Θ) {call:JB} (eb:∀ f args S r,call f args S=some r->DD P O f args S r) {f:FuncId} {Xs:Array Operand} {ts:Array TypeId} {xs:List aC} (hx:bH Xs.toList=some xs) (ho:o.op=.call { callee:=.value (.func f),args:=Xs,argTypes:=ts }) (hd:∀ d,o.dst=some d->d<nt) {cl:Cl} {xe:wA × TD} (hr:(K.callr cl f xs).run call s=some xe) {g} {s':aA} (he:TA.eff ⟨o.dst,.callr cl f xs,g⟩ s xe=some s')
  {Kn:Act->World->Prop} {Q:Exit->Act->World->Prop} (hK:∀ a' w',eE P O nt B F0 da w0 (fun t=>D t\/o.dst=some t) s' a' w'->Kn a' w'):o.wp P a w Kn Q:=by
 simp only [K.run] at hr;split at hr
 ·rename_i t n _;split at hr
  ·split at hr
   ·rename_i r vs hm hl;split at hr
    ·rename_i za;obtain ⟨q,hc,hr⟩:=ye.1 hr;split at hr
     ·rename_i cs hq;split at hr
      ·rename_i aa;cases hr;simp only [TA.eff] at he;cases he;obtain ⟨q1,q2⟩:=q;simp only at hq;subst hq;obtain ⟨nb,p,cur,ty,hp,ua,na,pk,dw⟩:=R.rows t n r hm;have sa:F3 P f vs (some (.agg (r.map (·.v)))) (q1,some (.agg cs)):=eb f (.undef :: .undef :: vs) _ _ hc;have cf:∀ x∈r.map (·.v),x.free0=true:=fun x hx=>by
        grind
       have sf:(Xs.toList.map a.eval).toArray=Xs.map a.eval:=by rw [<- Array.toList_map,yX]
       have run:(execOp a.eval o).run P w=.ok (.enter f (Xs.map a.eval)) w:=by
        simp only [execOp,ho,resolve,Act.eval,Deferred.ofValue,Sem.run_bind,Sem.run_pure,Result.andThen_ok,invoke];have:=sa.1 (#[]++Xs.map a.eval++#[]) w;simp_all
       unfold Oper.wp;rw [run,Oper.upon_enter];have hC:=sa.2 (KC da ι Θ) w _ p cur ty (fun b o h=>R.low h) (fun o=>.inr (.inl (.inl ⟨t,n,hp⟩))) ua (by simpa using na.1) (by simpa using pH na.rep cf) (RX R hp dw.symm hx hl);rw [sf] at hC;refine hC.mono ?_;rintro e w' ⟨v,gc,ss,rfl,hv,zo,tb,kc,hk⟩;have bn:rE ι Θ (KC da ι Θ) w' (cs.map fun v=>⟨v,rB v⟩) gc:=row_ofz kc fun j u hu=>by
        grind
       have R':=R.turnRow hp nb zo hk bn pk (tb.trans dw);exact hK _ _ ⟨ι,Θ,(R'.putN (x:=⟨_,.no⟩) hd (dN hv) trivial).more fun _ h=>.inl h⟩
      ·cases hr
     ·cases hr
    ·cases hr
   ·cases hr
  ·cases hr
 ·cases hr
end
end
section
open Go Go.RowKit
section
variable {P:Program} {O:PH} {nt B:Nat} {F0:XO} {da:Av} {w0:World} {D:Nat->Prop} {s:aA} {a:Act} {w w':World} {ι:Ix} {Θ:CK} {o:Oper}
theorem NP {av:Av} {x:AV} (h:x.scal=true):UE av w x x.scalV/\x.scalV.oneCell'=true:=by
 cases x <;> first | (simp [AV.scal] at h; done) | exact ⟨rfl,rfl⟩
theorem qV {av:Av}:∀ {cs:List AV},cs.all AV.scal=true->lD av w cs (cs.map AV.scalV)
 | [],_=>rfl
 | x :: r,h=>by
  simp only [List.all_cons,y7] at h;exact ⟨_,_,rfl,(NP h.1).1,(NP (av:=av) (w:=w) h.1).2,qV h.2⟩
theorem X6 {av:Av} {x:AV} (h:x.flat=true):UE av w x x.flatV:=by
 cases x with
 | agg cs=>exact ⟨_,rfl,by simpa using qV (av:=av) (w:=w) h⟩
 | int k n=>exact (NP (x:=.int k n) rfl).1
 | bool b=>exact (NP (x:=.bool b) rfl).1
 | str b=>exact (NP (x:=.str b) rfl).1
 | _=>simp [AV.flat,AV.scal] at h
theorem flat_S {av avb:Av} {x:AV} (h:x.flat=true):tB ι av avb w x x.flatV:=by
 have h1:=X6 (av:=av) (w:=w) h;cases x with
 | agg cs=>obtain ⟨us,hv,hc⟩:=h1; exact ⟨us,hv,GD hc⟩
 | _=>first | exact h1 | (simp [AV.flat,AV.scal] at h; done)
theorem nS {av avb:Av} {x:AV} {v:Value} (hf:x.flat=true) (h:tB ι av avb w x v):v=x.flatV:=by
 cases x with
 | agg cs =>
  obtain ⟨us,hv,hc⟩:=h;subst hv;have key:∀ {cs:List AV} {us:List Value},cs.all AV.scal=true->FA ι av w cs us->us=cs.map AV.scalV:=by
   intro cs
   induction cs with
   | nil=>intro us _ h; simpa [FA] using h
   | cons x r ih =>
    intro us hf h;simp only [FA] at h;obtain ⟨u,ta,rfl,h0,_,h⟩:=h;simp only [List.all_cons,y7] at hf;rw [yf,ih hf.2 h];congr 1;cases x <;> first | exact h0 | (simp [AV.scal] at hf; done)
  have:=key hf hc;show Value.agg us=.agg (cs.map AV.scalV).toArray;rw [<- this,yX]
 | int k n=>exact h
 | bool b=>exact h
 | str b=>exact h
 | _=>simp [AV.flat,AV.scal] at hf
theorem avC_flat {v:Value} {x:AV} (h:avC v=some x) (hf:x.flat=true):v=x.flatV :=
 nS (ι:=Ix.none) (av:=fun _ _=>False) (avb:=fun _ _=>False) (w:=default) hf (avC_rep h _ _ _ _)
theorem g9 (a b:ByteArray):(a == b)=decide (a=b):=by
 obtain ⟨a⟩:=a;obtain ⟨b⟩:=b;rw [Bool.eq_iff_iff];simp only [decide_eq_true_eq,ByteArray.mk.injEq];exact beq_iff_eq (α:=Array UInt8)
def zG {κ:Type} [DecidableEq κ] (L:List (κ × Value)) (n:κ) (m:Nat):Option (Nat × Value):=((L.map (·.1)).idxOf? n).bind fun i=>(L[i]?).map fun p=>(m + i,p.2)
theorem eN {κ:Type} [DecidableEq κ] (p:κ × Value) (L:List (κ × Value)) (n:κ) (m:Nat):zG (p :: L) n m=if n=p.1 then some (m,p.2) else zG L n (m + 1):=by
 unfold zG;simp only [yf,List.idxOf?_cons];by_cases hk:n=p.1
 ·subst hk; simp
 ·have hb:(p.1 == n)=false:=by simpa using fun e:p.1=n=>hk e.symm
  simp only [hb,hk,if_false];cases hi:List.idxOf? n (List.map (fun x=>x.1) L) with
  | none=>simp
  | some i=>simp [Nat.add_assoc,Nat.add_comm 1 i]
theorem WV (k:IntKind) (n:Int):∀ (es:List MapEntry) (L:List (Int × Value)) (m:Nat),es.map (fun e=>(e.key,e.val))=L.map (fun p=>(Value.int k p.1,p.2)) →
   Instr.findNow (.int k) (.int k n) es m=some (zG L n m)
 | [],[],m,_=>by simp [Instr.findNow,zG]
 | [],_ :: _,_,h=>by simp at h
 | _ :: _,[],_,h=>by simp at h
 | e :: es,p :: L,m,h=>by
  simp only [yf,List.cons.injEq,Prod.mk.injEq] at h;obtain ⟨⟨h1,h2⟩,h3⟩:=h;have ih:=WV k n es L (m + 1) h3;have hs:Instr.sameNow (.int k) (.int k n) e.key=some (n == p.1):=by rw [h1]; simp [Instr.sameNow]
  simp only [Instr.findNow,hs,eN];by_cases hk:n=p.1
  ·subst hk; simp [h2]
  ·have wa:(n == p.1)=false:=by simpa using hk
   simp only [wa,ih,hk,if_false]
theorem EV (n:ByteArray):∀ (es:List MapEntry) (L:List (ByteArray × Value)) (m:Nat),es.map (fun e=>(e.key,e.val))=L.map (fun p=>(Value.string p.1,p.2)) →
   Instr.findNow .string (.string n) es m=some (zG L n m)
 | [],[],m,_=>by simp [Instr.findNow,zG]
 | [],_ :: _,_,h=>by simp at h
 | _ :: _,[],_,h=>by simp at h
 | e :: es,p :: L,m,h=>by
  simp only [yf,List.cons.injEq,Prod.mk.injEq] at h;obtain ⟨⟨h1,h2⟩,h3⟩:=h;have ih:=EV n es L (m + 1) h3;have hs:Instr.sameNow .string (.string n) e.key=some (decide (n=p.1)):=by
   rw [h1];simp only [Instr.sameNow,g9]
  simp only [Instr.findNow,hs,eN];by_cases hk:n=p.1
  ·subst hk; simp [h2]
  ·simp only [hk,decide_false,ih,if_false]
theorem E4 {T:TypeId} {k:IntKind} (u:P.underlying T=some (.int k)):iP P T (fun n:Int=>Value.int k n) where
 check empty n w:=by
  have hq:∀ (d:Nat),(Instr.checkKey empty (d + 1) T (.int k n)).run P w=.ok () w:=fun d=>by simp [Instr.checkKey,run_underlying u]
  exact hq 9999
 find n es L w h:=by
  simp only [Instr.findKey,Sem.run_bind,run_underlying u,Result.andThen_ok,WV k n es L 0 h,zG,yK,Sem.run_pure]
 same n:=by
  have hq:∀ (d:Nat),Instr.sameBits (d + 1) (.int k n) (.int k n)=true:=fun d=>by simp [Instr.sameBits]
  exact hq 9999
theorem R4 {T:TypeId} (u:P.underlying T=some .string):iP P T Value.string where
 check empty n w:=by
  have hq:∀ (d:Nat),(Instr.checkKey empty (d + 1) T (.string n)).run P w=.ok () w:=fun d=>by simp [Instr.checkKey,run_underlying u]
  exact hq 9999
 find n es L w h:=by
  simp only [Instr.findKey,Sem.run_bind,run_underlying u,Result.andThen_ok,EV n es L 0 h,zG,yK,Sem.run_pure]
 same n:=by
  have hq:∀ (d:Nat),Instr.sameBits (d + 1) (.string n) (.string n)=true:=fun d=>by simp [Instr.sameBits,g9]
  exact hq 9999
structure HQ (ty:KTy) (κ:Type) [DecidableEq κ] (ke:κ->Value) (kx:κ->AV):Prop where
 val:∀ a,(kx a).flatV=ke a
 eq:∀ a b,LO (kx a) (kx b)=decide (a=b)
 of:∀ x,HG ty x=true->∃ a,x=kx a
 flat:∀ a,(kx a).flat=true
section
variable {κ:Type} [DecidableEq κ] {ke:κ->Value} {kx:κ->AV} {ty:KTy}
theorem Z1 (K:HQ ty κ ke kx) (n:κ):∀ M:List (κ × AV),cI (M.map fun p=>[kx p.1,p.2]) (kx n)=qL M n
 | []=>rfl
 | p :: r=>by
  simp only [yf,cI,qL,K.eq,decide_eq_true_eq,Z1 K n r];by_cases h:p.1=n
  ·rw [if_pos h,if_pos h.symm]
  ·rw [if_neg h,if_neg fun e=>h e.symm]
theorem X1 (K:HQ ty κ ke kx) (n:κ) (v:AV):∀ M:List (κ × AV),UG (M.map fun p=>[kx p.1,p.2]) (kx n) v=(XZ M n v).map fun p=>[kx p.1,p.2]
 | []=>rfl
 | p :: r=>by
  simp only [yf,UG,XZ,K.eq,decide_eq_true_eq,X1 K n v r];by_cases h:p.1=n
  ·rw [if_pos h,if_pos h.symm]; rfl
  ·rw [if_neg h,if_neg fun e=>h e.symm]; rfl
theorem pX (g:AV->Value) (n:κ):∀ M:List (κ × AV),qL (M.map fun p=>(p.1,g p.2)) n=(qL M n).map g
 | []=>rfl
 | p :: r=>by
  simp only [yf,qL,pX g n r];split <;> rfl
theorem O8 (g:AV->Value) (n:κ) (v:AV):∀ M:List (κ × AV),XZ (M.map fun p=>(p.1,g p.2)) n (g v)=(XZ M n v).map fun p=>(p.1,g p.2)
 | []=>rfl
 | p :: r=>by
  simp only [yf,XZ,O8 g n v r];split <;> rfl
theorem J1 (K:HQ ty κ ke kx):∀ L:List (List AV),dJ ty L=true->∃ M:List (κ × AV),L=M.map (fun p=>[kx p.1,p.2])/\∀ p∈M,p.2.flat=true
 | [],_=>⟨[],rfl,fun _ h=>by cases h⟩
 | e :: r,h=>by
  unfold dJ at h;simp only [List.all_cons,y7] at h;obtain ⟨M,hM,hf⟩:=J1 K r h.2;have h1:=h.1;split at h1
  ·rename_i k v;simp only [y7] at h1;obtain ⟨n,rfl⟩:=K.of k h1.1;exact ⟨(n,v) :: M,by rw [hM]; rfl,fun p hp=>by
    rcases yg.1 hp with rfl | hp
    ·exact h1.2
    ·exact hf p hp⟩
  ·cases h1
theorem K1 (K:HQ ty κ ke kx) (M:List (κ × AV)):(M.map fun p=>[kx p.1,p.2]).map entV=(M.map fun p=>(p.1,p.2.flatV)).map fun p=>(ke p.1,p.2):=by
 rw [y3,y3];apply yw;intro p _;simp [entV,K.val]
end
theorem qU (k:IntKind):HQ (.some k) Int (fun n=>Value.int k n) (fun n=>.int k n) where
 val _:=rfl
 eq a b:=by simp [LO]
 of x h:=by
  cases x <;> first | (simp [HG] at h; done) | (simp only [HG,decide_eq_true_eq] at h; subst h; exact ⟨_,rfl⟩)
 flat _:=rfl
theorem wU:HQ .none ByteArray Value.string AV.str where
 val _:=rfl
 eq a b:=by simp [LO]
 of x h:=by
  cases x <;> first | (simp [HG] at h; done) | exact ⟨_,rfl⟩
 flat _:=rfl
inductive KV where
 | i (k:IntKind) (n:Int)
 | s (b:ByteArray)
 deriving DecidableEq
def KV.av:KV->AV
 | .i k n=>.int k n
 | .s b=>.str b
def KV.kd:KV->Option IntKind
 | .i k _=>some k
 | .s _=>none
abbrev AKey (l:List (Option IntKind)):={ a:List KV // a.map KV.kd=l }
theorem F1:∀ a b:List KV,gR (a.map KV.av) (b.map KV.av)=decide (a=b)
 | [],[]=>rfl
 | [],b :: r=>by cases b <;> rfl
 | a :: r,[]=>by cases a <;> rfl
 | a :: r,b :: r'=>by
  have ih:=F1 r r';cases a <;> cases b <;> simp [KV.av,gR,ih,Bool.decide_and]
theorem NT:∀ (l:List (Option IntKind)) (cs:List AV),wL l cs=true->∃ a:List KV,a.map KV.kd=l/\cs=a.map KV.av
 | [],[],_=>⟨[],rfl,rfl⟩
 | [],_ :: _,h=>by simp [wL] at h
 | k :: r,[],h=>by cases k <;> simp [wL] at h
 | k :: r,c :: cs,h=>by
  cases k with
  | none =>
   cases c <;> simp only [wL] at h <;> first | (cases h; done) | skip
   rename_i b;obtain ⟨a,h1,h2⟩:=NT r cs h;exact ⟨.s b :: a,by simp [KV.kd,h1],by simp [KV.av,h2]⟩
  | some k =>
   cases c <;> simp only [wL] at h <;> first | (cases h; done) | skip
   rename_i k' n;simp only [y7,decide_eq_true_eq] at h;obtain ⟨rfl,h⟩:=h;obtain ⟨a,h1,h2⟩:=NT r cs h;exact ⟨.i k n :: a,by simp [KV.kd,h1],by simp [KV.av,h2]⟩
theorem kv_scal (a:List KV):(a.map KV.av).all AV.scal=true:=by
 simp only [List.all_map,y6];intro x _;cases x <;> rfl
theorem MT (l:List (Option IntKind)):HQ (.agg l) (AKey l) (fun a=>.agg ((a.1.map KV.av).map AV.scalV).toArray) (fun a=>.agg (a.1.map KV.av)) where
 val _:=rfl
 eq a b:=by
  simp only [LO,F1];by_cases h:a.1=b.1
  ·rw [decide_eq_true h,decide_eq_true (Subtype.ext h)]
  ·rw [decide_eq_false h,decide_eq_false fun e=>h (congrArg Subtype.val e)]
 of x h:=by
  cases x <;> first | (simp [HG] at h; done) | skip
  rename_i cs;obtain ⟨a,h1,h2⟩:=NT l cs h;exact ⟨⟨a,h1⟩,by rw [h2]⟩
 flat a:=kv_scal a.1
theorem eqC_kv:∀ a b:List KV,a.map KV.kd=b.map KV.kd->MK ((a.map KV.kd).map QK) (a.map KV.av) (b.map KV.av)=some (decide (a=b))
 | [],[],_=>rfl
 | [],_ :: _,h=>by simp at h
 | _ :: _,[],h=>by simp at h
 | a :: r,b :: r',h=>by
  simp only [yf,List.cons.injEq] at h;have ih:=eqC_kv r r' h.2;cases a <;> cases b <;> simp only [KV.kd,reduceCtorEq,Option.some.injEq,false_and] at h
  ·obtain ⟨rfl,h⟩:=h;rename_i n m;by_cases e:n=m
   ·subst e; simp [KV.kd,KV.av,QK,MK,ih,-y3]
   ·simp [KV.kd,KV.av,QK,MK,e]
  ·rename_i n m;by_cases e:n=m
   ·subst e; simp [KV.kd,KV.av,QK,MK,ih,-y3]
   ·simp [KV.kd,KV.av,QK,MK,e]
theorem wQ {t:TypeId} {ks:List Nat} (h:uR P t=some ks):wH P 8 t=some ks/\bJ P t=some true:=by
 unfold uR at h;split at h
 ·cases h
 ·split at h
  ·rename_i tn; exact ⟨h,by simp [bJ,tn]⟩
  ·rename_i tn; exact ⟨h,by simp [bJ,tn]⟩
  ·cases h
theorem equal_kv {T:TypeId} {l:List (Option IntKind)} (ht:uR P T=some (l.map QK)) (a b:AKey l) (w:World) :
  (Op.equal T (.agg ((a.1.map KV.av).map AV.scalV).toArray) (.agg ((b.1.map KV.av).map AV.scalV).toArray)).run P w=.ok (decide (a=b)) w:=by
 obtain ⟨hk,hA⟩:=wQ ht;have he:=eqC_kv a.1 b.1 (a.2.trans b.2.symm);rw [a.2] at he;have hd:decide (a.1=b.1)=decide (a=b):=by
  by_cases h:a.1=b.1
  ·rw [decide_eq_true h,decide_eq_true (Subtype.ext h)]
  ·rw [decide_eq_false h,decide_eq_false fun e=>h (congrArg Subtype.val e)]
 rw [hd] at he;have hl:∀ c:AKey l,FA Ix.none (fun _ _=>False) w (c.1.map KV.av) (((c.1.map KV.av).map AV.scalV).toArray.toList.take (l.map QK).length):=fun c=>by
  rw [yB (by simp [<- c.2])];exact GD (qV (kv_scal c.1))
 exact (rV (ι:=Ix.none) (av:=fun _ _=>False) (fun t ks h=>eU 7 t ks h) 9992 hk hA (hl a) (hl b) he).2
theorem CN (em:Bool) (w:World):∀ (n:Nat) (t:TypeId) (ks:List Nat),wH P n t=some ks->∀ (d:Nat) (us:Array Value) (off:Nat),off + ks.length<=us.size->(∃ a,(part t us off).run P w=.ok a w/\(Instr.checkKey em (d + n) t a).run P w=.ok () w)/\(bJ P t=some true->off=0->(Instr.checkKey em (d + n) t (.agg us)).run P w=.ok () w)
 | 0,_,_,h=>by cases h
 | n + 1,t,ks,hk=>by
  intro d us off bc;have whole:bJ P t=some true->∀ vs:Array Value,ks.length<=vs.size->lC P t=some ks.length/\(Instr.checkKey em (d + (n + 1)) t (.agg vs)).run P w=.ok () w:=by
   intro hA vs hvs;unfold wH at hk;split at hk
   ·rename_i k od;unfold bJ at hA;unfold wZ at od;split at od <;> first | (cases od; done) | (rename_i ht _; rw [ht] at hA; injection hA with hA; cases hA) | (rename_i ht; rw [ht] at hA; injection hA with hA; cases hA)
   ·split at hk
    ·rename_i m e ht;obtain ⟨l,hl,hk⟩:=ye.1 hk;split at hk
     ·rename_i hc;injection hk with hk;subst hk;obtain ⟨i,hi⟩:=RS hc.2.1;refine ⟨hc.2.2,?_⟩;have tb:i.size=l.length:=by
       have:=hc.2.1;simp only [lC,hi,yr,Option.some.injEq] at this;exact this
      have nr:(yE m l).flatten.length=m * l.length:=by simp
      rw [show d + (n + 1)=(d + n) + 1 from rfl,Instr.checkKey];simp only [Sem.run_bind,run_underlying ht,Result.andThen_ok];simp only [Std.Legacy.Range.forIn_eq_forIn_range',Std.Legacy.Range.size,Nat.sub_zero,Nat.add_one_sub_one,Nat.div_one];have each:∀ j∈List.range' 0 m,∃ a,(part e vs (j * P.cellsOf e)).run P w=.ok a w/\(Instr.checkKey em (d + n) e a).run P w=.ok () w:=fun j hj=>by
       have hjm:j<m:=by simpa using hj
       refine (CN em w n e l hl d vs (j * P.cellsOf e) ?_).1;rw [hc.1,<- yy];rw [nr] at hvs;exact Nat.le_trans (yZ _ hjm) hvs
      generalize List.range' 0 m=is at each
      induction is with
      | nil=>simp
      | cons j is ih =>
       obtain ⟨a,p1,p2⟩:=each j (by simp);simp only [List.forIn_cons,Sem.run_bind,run_sizeOf w hi,Result.andThen_ok,p1,p2,Sem.run_pure];exact ih (fun y hy=>each y (by simp [hy]))
     ·cases hk
    ·rename_i fs ht;split at hk
     ·cases hk
     ·obtain ⟨l,hl,hk⟩:=ye.1 hk;split at hk
      ·rename_i hc;injection hk with hk;subst hk;refine ⟨hc,?_⟩;rw [show d + (n + 1)=(d + n) + 1 from rfl,Instr.checkKey];simp only [Sem.run_bind,run_underlying ht,Result.andThen_ok];rw [<- Array.forIn_toList];have go:∀ (L:List Field) (i:Nat) (l:List Nat),jQ (wH P n) i L=some l->i + l.length<=vs.size->∀ f∈L,f.name≠"_"/\∃ a,(part f.type vs f.offset).run P w=.ok a w/\(Instr.checkKey em (d + n) f.type a).run P w=.ok () w:=by
        intro L
        induction L with
        | nil=>intro i l _ _ f hf; cases hf
        | cons g L ih =>
         intro i l hl bc f hf;unfold jQ at hl;obtain ⟨l1,h1,hl⟩:=ye.1 hl;split at hl
         ·rename_i hn;obtain ⟨l2,h2,rfl⟩:=yn.1 hl;rw [yz] at bc;rcases yg.1 hf with rfl | hf
          ·exact ⟨hn.1,(CN em w n _ l1 h1 d vs f.offset (by rw [hn.2]; omega)).1⟩
          ·exact ih (i + l1.length) l2 h2 (by omega) f hf
         ·cases hl
       have each:=go fs.toList 0 l hl (by omega);clear go hl;generalize fs.toList=L at each
       induction L with
       | nil=>simp
       | cons f L ih =>
        obtain ⟨hn,a,p1,p2⟩:=each f (by simp);simp only [List.forIn_cons,Sem.run_bind,hn,ne_eq,not_false_eq_true,if_true,Result.andThen_ok,p1,p2,Sem.run_pure];exact ih (fun y hy=>each y (by simp [hy]))
      ·cases hk
    ·cases hk
  refine ⟨?_,fun hA h0=>(whole hA us (by omega)).2⟩;by_cases hA:bJ P t=some true
  ·obtain ⟨h1,h2⟩:=whole hA (us.extract off (off + ks.length)) (by simp; omega);exact ⟨_,(SR hA h1 us off).1,h2⟩
  ·have zc:=hk;unfold wH at hk;split at hk
   ·rename_i k od;injection hk with hk;subst hk;simp only [yF,List.length_nil] at bc;have hu:us[off]?=some us[off]:=Y03 (by omega);have hp:=(G8 (w:=w) 0 od hu hu).1;refine ⟨_,hp,?_⟩;unfold wZ at od;rw [show d + (n + 1)=(d + n) + 1 from rfl];split at od
    ·rename_i ht _; simp [Instr.checkKey,run_underlying ht]
    ·rename_i ht _; simp [Instr.checkKey,run_underlying ht]
    ·rename_i ht _; simp [Instr.checkKey,run_underlying ht]
    ·cases od
   ·split at hk
    ·rename_i ht; exact absurd (by simp [bJ,ht]) hA
    ·rename_i ht; exact absurd (by simp [bJ,ht]) hA
    ·cases hk
theorem find_kv {T:TypeId} {l:List (Option IntKind)} (ht:uR P T=some (l.map QK)) (a:AKey l) (w:World):∀ (es:List MapEntry) (L:List (AKey l × Value)) (m:Nat),es.map (fun e=>(e.key,e.val))=L.map (fun p=>(Value.agg ((p.1.1.map KV.av).map AV.scalV).toArray,p.2)) →
  (Instr.findAsking T (.agg ((a.1.map KV.av).map AV.scalV).toArray) es m).run P w=.ok (zG L a m) w
 | [],[],m,_=>by simp [Instr.findAsking,zG]
 | [],_ :: _,_,h=>by simp at h
 | _ :: _,[],_,h=>by simp at h
 | e :: es,p :: L,m,h=>by
  simp only [yf,List.cons.injEq,Prod.mk.injEq] at h;obtain ⟨⟨h1,h2⟩,h3⟩:=h;have ih:=find_kv ht a w es L (m + 1) h3;have he:=equal_kv (P:=P) ht a p.1 w;simp only [Instr.findAsking,Sem.run_bind,h1,he,Result.andThen_ok,eN,Sem.run_ite];by_cases hk:a=p.1
  ·simp [hk,h2]
  ·simp [hk,ih,-y3]
theorem W4 {T:TypeId} {l:List (Option IntKind)} (ht:uR P T=some (l.map QK)):iP P T (fun a:AKey l=>Value.agg ((a.1.map KV.av).map AV.scalV).toArray) where
 check empty a w:=by
  obtain ⟨hk,hA⟩:=wQ ht;exact (CN empty w 8 T _ hk 9992 _ 0 (by simp [<- a.2])).2 hA rfl
 find a es L w h:=by
  have hu:∃ desc,P.underlying T=some desc/\∀ x e,Instr.sameNow desc (.agg x) e=none:=by
   obtain ⟨hk,hA⟩:=wQ ht;unfold bJ at hA;cases hd:P.underlying T with
   | none=>rw [hd] at hA; cases hA
   | some desc =>
    refine ⟨desc,rfl,fun x e=>?_⟩;cases desc <;> rfl
  obtain ⟨desc,hu,hn⟩:=hu;cases es with
  | nil =>
   cases L with
   | nil=>simp [Instr.findKey,run_underlying hu,Instr.findNow]
   | cons=>simp at h
  | cons e es =>
   have:=find_kv ht a w (e :: es) L 0 h;simp only [Instr.findKey,Sem.run_bind,run_underlying hu,Result.andThen_ok,Instr.findNow,hn,this,zG,yK]
 same a:=by
  have hq:∀ l:List KV,(((l.map KV.av).map AV.scalV).zip ((l.map KV.av).map AV.scalV)).all (fun (x,y)=>Instr.sameBits 9999 x y)=true:=by
   intro l
   induction l with
   | nil=>rfl
   | cons c r ih =>
    simp only [yf,List.zip_cons_cons,List.all_cons,ih,Bool.and_true];cases c <;> simp [KV.av,AV.scalV,Instr.sameBits,g9]
  show Instr.sameBits (9999 + 1) _ _=true;simp only [Instr.sameBits,beq_self_eq_true,Bool.true_and];exact hq a.1
theorem zero_run {e:TypeId} {z:AV} (h:((P.info? e).bind (·.zero)).bind avC=some z) (w:World):∃ zv,(zeroValue e).run P w=.ok zv w/\avC zv=some z:=by
 obtain ⟨zv,h1,h2⟩:=ye.1 h;obtain ⟨i,hi,hz⟩:=ye.1 h1;exact ⟨zv,by simp [zeroValue,typeInfo,hi,hz],h2⟩
theorem R7 {κ:Type} [DecidableEq κ] {ke:κ->Value} {kx:κ->AV} {ty:KTy} (R:mC P O nt B F0 da w0 D s a w ι Θ) (K:HQ ty κ ke kx) {t n:Nat} {v:Value} (hv:tB ι (KC da ι Θ) (DC ι Θ) w (.mp t n) v) {L:List (List AV)} (hL:(s.obj t n).bind PS=some L) (hk:dJ ty L=true) :
  ∃ (b:Nat) (H:Nat->Prop) (M:List (κ × AV)),v=.map (some b)/\ι t n=some b/\ι.ob t n=some H/\(∀ x,H x ↔ x=b)/\L=M.map (fun p=>[kx p.1,p.2])/\(∀ p∈M,p.2.flat=true)/\mO ke w b (M.map fun p=>(p.1,p.2.flatV))/\∃ es clock,w.heap[b]?=some (.map es clock)/\L3 es clock:=by
 obtain ⟨b,hb,rfl⟩:=hv;obtain ⟨S,hS,hm⟩:=ye.1 hL;obtain ⟨p,H,hp,uc,ne,_⟩:=R.objs t n S hS;rw [hb] at hp;injection hp with hp;subst hp;have hSL:S=TI L:=by
  unfold PS at hm;split at hm
  ·injection hm with hm; subst hm; rfl
  ·cases hm
 subst hSL;obtain ⟨hH,es,clock,he,fx,lc⟩:=(O.maps L H b w).1 ne;obtain ⟨M,rfl,hf⟩:=J1 K L hk;exact ⟨b,H,M,rfl,hb,uc,hH,rfl,hf,⟨es,clock,he,fx.trans (K1 K M)⟩,es,clock,he,lc⟩
theorem O1 {κ:Type} [DecidableEq κ]:∀ {M:List (κ × AV)} {n:κ} {x:AV},(∀ p∈M,p.2.flat=true)->qL M n=some x->x.flat=true
 | [],_,_,_,h=>by cases h
 | p :: r,n,x,hf,h=>by
  unfold qL at h;split at h
  ·injection h with h; subst h; exact hf p yl
  ·exact O1 (fun q hq=>hf q (yo _ hq)) h
theorem DX {κ:Type} [DecidableEq κ] {ke:κ->Value} {kx:κ->AV} {ty:KTy} (R:mC P O nt B F0 da w0 D s a w ι Θ) (K:HQ ty κ ke kx) {T kT eT:TypeId} (KL:iP P kT ke) (hT:P.underlying T=some (.map kT eT)) {zero:AV} (hz:((P.info? eT).bind (·.zero)).bind avC=some zero) (hzf:zero.flat=true)
  {X I:Operand} {y i:aC} (hx:opd X=some y) (hi:opd I=some i) {ok:Bool} (ho:o.op=.lookup T X I ok) {t n:Nat} (hy:y.get s=.mp t n) {L:List (List AV)} (hL:(s.obj t n).bind PS=some L) (hk:dJ ty L=true) (sc:HG ty (i.get s)=true) :
  fV P da a w ι Θ o ⟨if ok then .tup [(cI L (i.get s)).getD zero,.bool (cI L (i.get s)).isSome] else (cI L (i.get s)).getD zero,.no⟩:=by
 have hX:=(R.opd hx).1;have hI:=(R.opd hi).1;rw [hy] at hX;obtain ⟨b,H,M,hv,hb,uc,hH,rfl,hf,ne,_⟩:=R7 R K hX hL hk;obtain ⟨k,hkx⟩:=K.of _ sc;rw [hkx] at hI ⊢;have hkf:(kx k).flat=true:=K.flat k;have hIv:a.eval I=ke k:=(nS hkf hI).trans (K.val k);obtain ⟨zv,hzr,hzc⟩:=zero_run hz w;have hzv:=avC_flat hzc hzf;rw [Z1 K];have se:(qL (M.map fun p=>(p.1,p.2.flatV)) k).getD zv=((qL M k).getD zero).flatV:=by
  rw [pX,hzv];cases qL M k <;> rfl
 have fk:((qL M k).getD zero).flat=true:=by
  cases hg:qL M k with
  | none=>exact hzf
  | some x=>exact O1 hf hg
 cases ok with
 | false =>
  have ja:=ne.lookup KL hT hzr k;rw [se] at ja;refine ⟨((qL M k).getD zero).flatV,by simp only [execOp,ho,hv,hIv,Sem.run_bind,ja,Result.andThen_ok,Sem.run_pure],?_,trivial⟩;exact flat_S fk
 | true =>
  have ja:=ne.lookup_ok KL hT hzr k;rw [se] at ja;have cv:(qL (M.map fun p=>(p.1,p.2.flatV)) k).isSome=(qL M k).isSome:=by rw [pX]; cases qL M k <;> rfl
  rw [cv] at ja;refine ⟨.tuple #[((qL M k).getD zero).flatV,.bool (qL M k).isSome],by simp only [execOp,ho,hv,hIv,Sem.run_bind,ja,Result.andThen_ok,Sem.run_pure],?_,trivial⟩;refine ⟨_,rfl,_,_,rfl,?_,_,_,rfl,rfl,rfl⟩;exact sP (X6 fk)
theorem mO.updateS {κ:Type} [DecidableEq κ] {P:Program} {T kT eT:TypeId} {ke:κ->Value} {w:World} {m:Nat} {L:List (κ × Value)} (h:mO ke w m L) (K:iP P kT ke) (hT:P.underlying T=some (.map kT eT)) {es0:Array MapEntry} {cl0:Nat} (h0:w.heap[m]?=some (.map es0 cl0)) (lc:L3 es0 cl0) (k:κ) (v:Value) :
  ∃ es clock,(Instr.mapUpdate T (.map (some m)) (ke k) v).run P w=.ok () { w with heap:=w.heap.setIfInBounds m (.map es clock) }/\es.toList.map (fun e=>(e.key,e.val))=(XZ L k v).map (fun p=>(ke p.1,p.2))/\L3 es clock:=by
 obtain ⟨es,clock,h1,h2⟩:=h;rw [h1] at h0;injection h0 with h0;injection h0 with e1 e2;subst e1;subst e2;obtain ⟨s1,s2⟩:=lc;have hg:(getObj m).run P w=.ok (.map es clock) w:=by simp [getObj,Sem.run,h1]
 have hf:=K.find k es.toList L w h2;have hi:=idx_set L k v;have hl:es.toList.length=L.length:=by simpa using congrArg List.length h2
 cases hq:(L.map (·.1)).idxOf? k with
 | none =>
  rw [hq] at hf hi;refine ⟨es.push { key:=ke k,val:=v,born:=clock },clock + 1,?_,by rw [hi]; simp [h2],by simp [s1],fun i h=>?_⟩
  case refine_2 =>
   simp only [Array.size_push] at h;simp only [Array.getElem_push];split
   ·exact s2 _ _
   ·show clock=i;omega
  case refine_1 =>
   simp only [Instr.mapUpdate,Sem.run_bind,run_underlying hT,Result.andThen_ok,hg,K.check,hf,Option.bind_none];simp [setObj,Sem.run,h1]
 | some i =>
  rw [hq] at hf hi;have wd:i<L.length:=by have:=List.idxOf?_eq_some_iff.1 hq; simpa using this.1
  have hk:(L[i]).1=k:=by have:=List.idxOf?_eq_some_iff.1 hq; simpa using this.2.1
  have gj:i<es.size:=by
   have:es.size=L.length:=by simpa using hl
   omega
  have sc:(es[i]).key=ke k:=by
   have:=congrArg (fun l=>(l[i]?).map (·.1)) h2;simp only [yc,Array.getElem?_toList,Y03 gj,yr,y5 wd,hk,Option.some.injEq] at this;exact this
  refine ⟨es.modify i fun e=>{ e with key:=ke k,val:=v },clock,?_,?_,by simp [s1],fun j h=>?_⟩
  case refine_3 =>
   simp only [Array.getElem_modify];split <;> exact s2 _ _
  case refine_1 =>
   have hL:L[i]?=some L[i]:=y5 wd;have he:es[i]?=some es[i]:=Y03 gj;simp only [Instr.mapUpdate,Sem.run_bind,run_underlying hT,Result.andThen_ok,hg,K.check,hf,J,hL,yr,he,Option.getD_some,sc];simp [Instr.keyThatStays,K.same,setObj,Sem.run,h1]
  case refine_2 =>
   rw [hi];apply List.ext_getElem?;intro j;have hj:=congrArg (fun l=>l[j]?) h2;simp only [yc,Array.getElem?_toList] at hj;simp only [yc,Array.getElem?_toList,Array.getElem?_modify,List.getElem?_set];by_cases hij:i=j
   ·subst hij;simp [Y03 gj,wd]
   ·simp only [if_neg hij];exact hj
theorem UN {κ:Type} [DecidableEq κ] {ke:κ->Value} {kx:κ->AV} {ty:KTy} (R:mC P O nt B F0 da w0 D s a w ι Θ) (K:HQ ty κ ke kx) {T kT eT:TypeId} (KL:iP P kT ke) (hT:P.underlying T=some (.map kT eT))
  {X I Y:Operand} {x i y:aC} (hx:opd X=some x) (hi:opd I=some i) (hyo:opd Y=some y) (ho:o.op=.mapUpdate T X I Y\/o.op=.insert T X I Y) (hd:∀ d,o.dst=some d->d<nt) {t n:Nat} (ee:x.get s=.mp t n) {L:List (List AV)} (hL:(s.obj t n).bind PS=some L) (hk:dJ ty L=true) (sc:HG ty (i.get s)=true) (hvf:(y.get s).flat=true) :
  ∃ w',(execOp a.eval o).run P w=.ok .skip w'/\eE P O nt B F0 da w0 D ((s.setObj t n (TI (UG L (i.get s) (y.get s)))).put o.dst ⟨.undef,.no⟩) (a.put o.dst undef) w':=by
 have hX:=(R.opd hx).1;have hI:=(R.opd hi).1;have hY:=nS hvf (R.opd hyo).1;rw [ee] at hX;obtain ⟨b,H,M,hv,hb,uc,hH,rfl,hf,ne,es0,cl0,hes0,sx⟩:=R7 R K hX hL hk;obtain ⟨k,hkx⟩:=K.of _ sc;rw [hkx] at hI ⊢;have hkf:(kx k).flat=true:=K.flat k;have hIv:a.eval I=ke k:=(nS hkf hI).trans (K.val k);have fa:=ne.lt;obtain ⟨es,clock,ja,fx,lc⟩:=ne.updateS KL hT hes0 sx k (y.get s).flatV;rw [O8] at fx;have mt:O.at_ (TI (UG (M.map fun p=>[kx p.1,p.2]) (kx k) (y.get s))) H b { w with heap:=w.heap.setIfInBounds b (.map es clock) }:=by
  refine (O.maps _ _ _ _).2 ⟨hH,es,clock,by simp [fa],?_,lc⟩;rw [X1 K,K1 K];exact fx
 have zp:FD H w { w with heap:=w.heap.setIfInBounds b (.map es clock) }:=⟨rfl,rfl,rfl,by simp,fun j _ hn=>by
  have:j≠b:=fun e=>hn ((hH j).2 e)
  simp only [Array.getElem?_setIfInBounds];rw [if_neg fun e:b=j=>this e.symm]⟩
 obtain ⟨ι',R2,_⟩:=R.turnObj hb uc mt (Tie.no rfl) (fun x hx=>.inl hx) zp;refine ⟨_,by rcases ho with ho | ho <;> simp only [execOp,ho,hv,hIv,hY,Sem.run_bind,ja,Result.andThen_ok,Sem.run_pure],ι',Θ,R2.putN (x:=⟨.undef,.no⟩) hd trivial trivial⟩
theorem op_mkm (R:mC P O nt B F0 da w0 D s a w ι Θ) {T:TypeId} (ho:o.op=.makeMap T none) {d:Nat} (ca:o.dst=some d) (hd:d<nt) (hD:¬ D d) :
  ∃ v w',(execOp a.eval o).run P w=.ok (.value v) w'/\eE P O nt B F0 da w0 (fun t=>D t\/t=d) ((s.setObj d s.next (TI [])).put (some d) ⟨.mp d s.next,.no⟩) (a.put o.dst v) w':=by
 have ja:(execOp a.eval o).run P w=.ok (.value (.map (some w.heap.size))) (w.alloc (.map #[] 0)):=by
  simp [execOp,ho,Instr.makeMap]
 have hb:Below w.heap.size w (w.alloc (.map #[] 0)):=Below.alloc (Below.refl _ _) (yj _) _;obtain ⟨ι',R2,hι,_⟩:=R.newObj (d:=d) (p:=w.heap.size) (H:=fun b=>b=w.heap.size) (S:=TI []) hb hD ((O.maps _ _ _ _).2 ⟨fun b=>Iff.rfl,#[],0,pU rfl,rfl,rfl,fun i h=>absurd h (by simp)⟩) (Tie.no rfl) (fun b h=>Nat.le_of_eq h.symm);rw [ca];exact ⟨_,_,ja,ι',Θ,R2.put (x:=⟨.mp d s.next,.no⟩) hd ⟨_,hι,rfl⟩ trivial⟩
theorem avOf_nilP {v:Value} (h:jZ v=some .nilP):v=.pointer none:=by
 unfold jZ at h;split at h <;> first | rfl | (injection h with h; cases h; done) | (cases h; done)
theorem avOf_nil {v:Value} (h:jZ v=some (.sl true [])):v=.slice none 0 0:=by
 unfold jZ at h;split at h <;> first | rfl | (injection h with h; cases h; done) | (cases h; done)
theorem isBld_eq {l:List AV} (h:isBld l=true):l=[.nilP,.sl true []]:=by
 unfold isBld at h;split at h
 ·rfl
 ·cases h
theorem avAll_bld {vs:List Value} (h:TK vs=some [.nilP,.sl true []]):vs=[.pointer none,.slice none 0 0]:=by
 cases vs with
 | nil=>cases h
 | cons v r =>
  simp only [TK] at h;split at h
  ·rename_i x l hx hl;injection h with h;injection h with h1 h2;subst h1;subst h2;cases r with
   | nil=>cases hl
   | cons v' r' =>
    simp only [TK] at hl;split at hl
    ·rename_i x' l' kp um;injection hl with hl;injection hl with h1 h2;subst h1;subst h2;cases r' with
     | nil=>rw [avOf_nilP hx,avOf_nil kp]
     | cons v'' r'' =>
      simp only [TK] at um;split at um <;> cases um
    ·cases hl
  ·cases h
theorem op_mkb (R:mC P O nt B F0 da w0 D s a w ι Θ) {T e:TypeId} (ac:bldEl P T=some e) (ho:o.op=.alloc T) {d:Nat} (ca:o.dst=some d) (hd:d<nt) (hD:¬ D d) :
  ∃ v w',(execOp a.eval o).run P w=.ok (.value v) w'/\eE P O nt B F0 da w0 (fun t=>D t\/t=d) ((s.setObj d s.next (bldAV T e ⟨#[]⟩)).put (some d) ⟨.ptr d s.next 0,.no⟩) (a.put o.dst v) w':=by
 obtain ⟨l,hl,hb⟩:∃ l,HJ P T=some l/\isBld l=true:=by
  unfold bldEl at ac;split at ac
  ·rename_i h; exact yn.1 h
  ·cases ac
 obtain ⟨z,i,hi,xp,hrz,ki⟩:=WH hl w;rw [isBld_eq hb] at ki;have hzc:z.cells=#[.pointer none,.slice none 0 0]:=by
  apply Array.ext';exact avAll_bld ki
 have ja:(execOp a.eval o).run P w=.ok (.value (.pointer (some ⟨w.heap.size,0,none⟩))) (w.alloc (.cells #[.pointer none,.slice none 0 0] T)):=by
  simp [execOp,ho,Instr.alloc,newVar,newRow,hrz,hzc]
 have hb:Below w.heap.size w (w.alloc (.cells #[.pointer none,.slice none 0 0] T)):=Below.alloc (Below.refl _ _) (yj _) _;obtain ⟨ι',R2,hι,_⟩:=R.newObj (d:=d) (p:=w.heap.size) (H:=fun b=>b=w.heap.size) (S:=bldAV T e ⟨#[]⟩) hb hD ((O.blds _ _ _ _ _ _).2 ⟨.slice none 0 0,.pointer none,pU rfl,.inl rfl,World.ownsRowF_nil _ _ _ _,by simp [Value.ownBlock],fun b=>by simp [Value.ownBlock]⟩) (Tie.no rfl) (fun b h=>Nat.le_of_eq h.symm);rw [ca];exact ⟨_,_,ja,ι',Θ,R2.put (x:=⟨.ptr d s.next 0,.no⟩) hd ⟨_,hι,rfl⟩ trivial⟩
end
end
section
open Go Go.RowKit
section
variable {P:Program} {O:PH} {nt B:Nat} {F0:XO} {da:Av} {w0:World} {D:Nat->Prop} {s:aA} {a:Act} {w w':World} {ι:Ix} {Θ:CK} {o:Oper}
theorem nC (R:mC P O nt B F0 da w0 D s a w ι Θ) {x:wA} {e:TD} (hv:e=.none/\fV P da a w ι Θ o x) (hd:∀ d,o.dst=some d->d<nt) {k:K} {g} {s':aA} (he:TA.eff ⟨o.dst,k,g⟩ s (x,e)=some s')
  {Kn:Act->World->Prop} {Q:Exit->Act->World->Prop} (hK:∀ a' w',eE P O nt B F0 da w0 D s' a' w'->Kn a' w'):o.wp P a w Kn Q:=by
 obtain ⟨rfl,v,ja,hS,hA⟩:=hv;simp only [TA.eff] at he;cases he;unfold Oper.wp;rw [ja,Oper.upon_value];exact hK _ _ ⟨ι,Θ,R.putN hd hS hA⟩
theorem run_wp {s':aA} (h:∃ v w',(execOp a.eval o).run P w=.ok (.value v) w'/\eE P O nt B F0 da w0 D s' (a.put o.dst v) w')
  {Kn:Act->World->Prop} {Q:Exit->Act->World->Prop} (hK:∀ a' w',eE P O nt B F0 da w0 D s' a' w'->Kn a' w'):o.wp P a w Kn Q:=by
 obtain ⟨v,w',ja,hR⟩:=h;unfold Oper.wp;rw [ja,Oper.upon_value];simp_all
theorem eD {α β:Type} {x:Option α} {f:α->β} {z:β} (h:x.map f=some z):∃ a,x=some a/\f a=z:=by
 simp_all
theorem opd_one {xs:Array Operand} {x':aC} (hx:bH xs.toList=some [x']):∃ X,xs=#[X]/\opd X=some x':=by
 obtain ⟨l⟩:=xs
 match l,hx with
 | [X],hx =>
  unfold bH at hx
  grind
 | [],hx=>simp [bH] at hx
 | X :: Y :: r,hx =>
  unfold bH at hx;split at hx
  ·rename_i y l hy hl;injection hx with hx;injection hx with h1 h2;subst h2;unfold bH at hl
   grind
  ·cases hx
theorem op_sound (R:mC P O nt B F0 da w0 D s a w ι Θ) {call:JB} (eb:∀ f args S r,call f args S=some r->DD P O f args S r) {cl:Cl} {mu:Option Bool} {nest:Bool} {k:K} (hk:T9 P cl mu o.op nest=some k) (ep:mu≠none->o.dst≠none) (hd:∀ d,o.dst=some d->d<nt) (hD:∀ d,o.dst=some d->(N9 k||BT k)=true->¬ D d)
  {xe:wA × TD} (hr:k.run call s=some xe) {g} {s':aA} (he:TA.eff ⟨o.dst,k,g⟩ s xe=some s')
  {Kn:Act->World->Prop} {Q:Exit->Act->World->Prop} (hK:∀ a' w',eE P O nt B F0 da w0 (fun t=>D t\/o.dst=some t) s' a' w'->Kn a' w'):o.wp P a w Kn Q:=by
 have ue:∀ a' w',eE P O nt B F0 da w0 D s' a' w'->Kn a' w':=fun a' w' ⟨ι',Θ',h⟩=>hK a' w' ⟨ι',Θ',h.more fun _ h=>.inl h⟩
 have oc:∀ d,o.dst=some d->(∃ v w',(execOp a.eval o).run P w=.ok (.value v) w'/\eE P O nt B F0 da w0 (fun t=>D t\/t=d) s' (a.put o.dst v) w')->o.wp P a w Kn Q:=fun d ca h =>
  run_wp h fun a' w' ⟨ι',Θ',h⟩=>hK a' w' ⟨ι',Θ',h.more fun t h=>h.imp id fun e=>by rw [ca,e]⟩
 obtain ⟨x,e⟩:=xe;cases fb:o.op <;> rw [fb] at hk <;> simp only [T9] at hk
 case move X=>obtain ⟨y,hy,rfl⟩:=eD hk; simp only [K.run] at hr; injection hr with hr; injection hr with h1 h2; subst h1; subst h2; exact nC R ⟨rfl,val_mv R hy (.inl fb)⟩ hd he ue
 case assign X=>obtain ⟨y,hy,rfl⟩:=eD hk; simp only [K.run] at hr; injection hr with hr; injection hr with h1 h2; subst h1; subst h2; exact nC R ⟨rfl,val_mv R hy (.inr fb)⟩ hd he ue
 case pick C X Y =>
  split at hk
  ·rename_i c x' y' hc hx hy;cases hk;simp only [K.run] at hr;split at hr
   ·rename_i t ht;injection hr with hr; injection hr with h1 h2; subst h1; subst h2;exact nC R ⟨rfl,val_pick R hc hx hy fb ht⟩ hd he ue
   ·cases hr
  ·cases hk
 case alloc t =>
  split at hk
  case h_2 =>
   obtain ⟨el,ac,rfl⟩:=eD hk;simp only [K.run] at hr;injection hr with hr; injection hr with h1 h2; subst h1; subst h2;cases ca:o.dst with
   | none=>simp [TA.eff,ca] at he
   | some d =>
    simp only [TA.eff,ca] at he;cases he;exact oc d ca (op_mkb R ac fb ca (hd d ca) (hD d ca rfl))
  obtain ⟨z,hz,rfl⟩:=eD hk;cases ca:o.dst with
  | none=>simp [K.run] at hr; obtain ⟨rfl,rfl⟩:=hr; simp [TA.eff,ca] at he
  | some d=>exact oc d ca (op_alloc R hz fb ca (hd d ca) (hD d ca rfl) hr he)
 case box t X =>
  split at hk
  ·rename_i z x' hz hx;cases hk;cases ca:o.dst with
   | none =>
    simp only [K.run] at hr;split at hr
    ·split at hr
     ·injection hr with hr; injection hr with h1 h2; subst h1; subst h2; simp [TA.eff,ca] at he
     ·cases hr
    ·split at hr
     ·injection hr with hr; injection hr with h1 h2; subst h1; subst h2; simp [TA.eff,ca] at he
     ·cases hr
   | some d=>exact oc d ca (op_boxE R hx fb ca (hd d ca) (hD d ca rfl) hr he)
  ·cases hk
 case build t ps =>
  split at hk
  ·rename_i fs z ys ht hz hy;split at hk
   ·rename_i pl pd;obtain ⟨zs,oo,rfl⟩:=eD hk;obtain ⟨zv,i,hi,xp,_,hl⟩:=WH hz w;refine nC R (A3 R hl (pl:=(pl.toArray[·]?)) ?_ hy oo fb hr) hd he ue;simp [Program.built,hi,ht,xp,pd]
   ·cases hk
  ·rename_i n el z ys ht hz hy;split at hk
   ·rename_i ie gj;obtain ⟨zs,oo,rfl⟩:=eD hk;obtain ⟨zv,i,hi,xp,_,hl⟩:=WH hz w;refine nC R (A3 R hl (pl:=fun i=>some (i * ie.size,ie.size)) ?_ hy oo fb hr) hd he ue;simp [Program.built,hi,ht,xp,gj]
   ·cases hk
  ·cases hk
 case buildSlice t n ps =>
  split at hk
  ·rename_i el ys ht hy;split at hk
   ·rename_i z kk hz hs;split at hk
    ·rename_i hc;cases mu with
     | none =>
      simp only at hk;cases hk;obtain ⟨rfl,v,w',ja,R',hS,hA⟩:=op_bsl R ht hz hs hc.1 hc.2.1 hc.2.2 hy fb hr;simp only [TA.eff] at he;cases he;unfold Oper.wp;rw [ja,Oper.upon_value];exact ue _ _ ⟨ι,Θ,R'.putN hd hS hA⟩
     | some m =>
      simp only at hk;cases hk;cases ca:o.dst with
      | none=>exact absurd ca (ep (by simp))
      | some d=>exact oc d ca (op_bslr R ht hz hs hc.1 hc.2.1 hc.2.2 hy fb ca (hd d ca) (hD d ca rfl) hr he)
    ·cases hk
   ·cases hk
  ·cases hk
 case load t X =>
  split at hk
  ·rename_i ag z y hA hz hx;cases hk;exact nC R (val_load R hA hz hx fb hr) hd he ue
  ·cases hk
 case store t X Y =>
  split at hk
  ·rename_i ag z x' y' hA hz hx hy;split at hk
   ·rename_i xz;cases hk;obtain ⟨w',ja,hR⟩:=op_store R hz (by simpa using xz) hx hy fb hd hr he;unfold Oper.wp;rw [ja,Oper.upon_skip];simp_all
   ·cases hk
  ·cases hk
 case nilCheck X=>obtain ⟨y,hy,rfl⟩:=eD hk; exact nC R (val_nilchk R hy fb hr) hd he ue
 case binOp op t X Y t' =>
  split at hk
  ·rename_i x' y' hx hy;split at hk
   ·cases hk;simp only [K.run] at hr;obtain ⟨v,hv,hr⟩:=eD hr;injection hr with h1 h2; subst h1; subst h2
    refine nC R ⟨rfl,val_bin R (fun hb=>?_) hx hy fb hv⟩ hd he ue
    grind
   ·split at hk
    ·split at hk
     ·rename_i el ht; injection hk with hk; subst hk; exact nC R (TW R (neg:=false) (ptr:=false) ⟨el,ht⟩ hx hy fb hr) hd he ue
     ·rename_i el ht; injection hk with hk; subst hk; exact nC R (TW R (neg:=false) (ptr:=true) ⟨el,ht⟩ hx hy fb hr) hd he ue
     ·obtain ⟨ks,ht,rfl⟩:=eD hk; exact nC R (val_eqa R (neg:=false) ht hx hy fb hr) hd he ue
    ·split at hk
     ·rename_i el ht; injection hk with hk; subst hk; exact nC R (TW R (neg:=true) (ptr:=false) ⟨el,ht⟩ hx hy fb hr) hd he ue
     ·rename_i el ht; injection hk with hk; subst hk; exact nC R (TW R (neg:=true) (ptr:=true) ⟨el,ht⟩ hx hy fb hr) hd he ue
     ·obtain ⟨ks,ht,rfl⟩:=eD hk; exact nC R (val_eqa R (neg:=true) ht hx hy fb hr) hd he ue
    ·cases hk
  ·cases hk
 case unOp op t X =>
  split at hk
  ·obtain ⟨y,hy,rfl⟩:=eD hk; exact nC R (val_un R hy fb hr) hd he ue
  ·cases hk
 case convert t t' X =>
  split at hk
  ·rename_i j kk x' h1 h2 hx; injection hk with hk; subst hk; exact nC R (L8 R (k:=some kk) ⟨⟨j,h1⟩,h2⟩ hx fb hr) hd he ue
  ·rename_i x' h1 h2 hx; injection hk with hk; subst hk; exact nC R (L8 R (k:=none) ⟨h1,h2⟩ hx fb hr) hd he ue
  ·rename_i j x' h1 h2 hx; injection hk with hk; subst hk; exact nC R (val_rstr R h1 h2 hx fb hr) hd he ue
  ·rename_i el x' h1 h2 hx;split at hk
   ·rename_i h3;split at hk
    ·injection hk with hk; subst hk; exact nC R (val_bstr R h1 h3 h2 hx fb hr) hd he ue
    ·cases hk
   ·cases hk
  ·cases hk
 case makeSlice t L C =>
  split at hk
  ·rename_i el l c ht hl hc;split at hk
   ·rename_i z i hz hi;split at hk
    ·rename_i aa;cases hk;cases ca:o.dst with
     | none =>
      simp only [K.run] at hr;split at hr
      ·split at hr
       ·injection hr with hr; injection hr with h1 h2; subst h1; subst h2; simp [TA.eff,ca] at he
       ·cases hr
      ·cases hr
     | some d=>exact oc d ca (op_mks R ht hi hz aa.1 hl hc fb ca (hd d ca) (hD d ca rfl) hr he)
    ·cases hk
   ·cases hk
  ·cases hk
 case slice t X L H M =>
  split at hk
  ·rename_i x' l h m hx hl hh hm;split at hk
   ·rename_i ht;cases hk;cases M with
    | none=>injection hm with hm; subst hm; exact nC R (val_slc R (str:=true) ht hx hl hh fb hr) hd he ue
    | some M=>simp only [gW] at hm; obtain ⟨m',_,rfl⟩:=eD hm; simp [K.run] at hr
   ·rename_i el ht;split at hk
    ·rename_i cz;obtain ⟨z,hz,rfl⟩:=eD hk;rw [y7] at cz;simp [K.run] at hr
    ·obtain ⟨z,hz,rfl⟩:=eD hk;cases M with
     | none=>injection hm with hm; subst hm; exact nC R (val_slc R (str:=false) ⟨el,ht,hz⟩ hx hl hh fb hr) hd he ue
     | some M=>simp only [gW] at hm; obtain ⟨m',_,rfl⟩:=eD hm; simp [K.run] at hr
   ·rename_i n' el ht;cases M with
    | none =>
     injection hm with hm; subst hm;obtain ⟨z,hz,rfl⟩:=eD hk;exact nC R (val_aslc R ht hz hx hl hh fb hr) hd he ue
    | some M=>simp only [gW] at hm; obtain ⟨m',_,rfl⟩:=eD hm; cases hk
   ·cases hk
  ·cases hk
 case fieldAddr t X i =>
  split at hk
  ·rename_i fs x' ht hx;split at hk
   ·rename_i f hf;split at hk
    ·rename_i n hn; injection hk with hk; subst hk; exact nC R (val_faddr R ht hf hn hx fb hr) hd he ue
    ·cases hk
   ·cases hk
  ·cases hk
 case field t X i =>
  split at hk
  ·rename_i fs x' ht hx;split at hk
   ·rename_i f hf;split at hk
    ·rename_i ag z hA hz; injection hk with hk; subst hk; exact nC R (val_field R ht hf hA hz hx fb hr) hd he ue
    ·cases hk
   ·cases hk
  ·cases hk
 case indexAddr t X I =>
  split at hk
  ·rename_i el x' i' ht hx hi;obtain ⟨z,hz,rfl⟩:=eD hk;exact nC R (val_iaddr R ht hz hx hi fb hr) hd he ue
  ·rename_i n' e x' i' ht hx hi;obtain ⟨z,hz,rfl⟩:=eD hk;exact nC R (val_aaddr R ht hz hx hi fb hr) hd he ue
  ·cases hk
 case index t X I =>
  split at hk
  ·rename_i x' i' ht hx hi;cases hk;exact nC R (val_index R ht hx hi fb hr) hd he ue
  ·cases hk
 case makeMap t r =>
  split at hk
  ·rename_i kT eT ht;obtain ⟨ty,ub,rfl⟩:=eD hk;simp only [K.run] at hr;injection hr with hr; injection hr with h1 h2; subst h1; subst h2;cases ca:o.dst with
   | none=>simp [TA.eff,ca] at he
   | some d =>
    simp only [TA.eff,ca] at he;cases he;have h:=op_mkm R fb ca (hd d ca) (hD d ca rfl);exact oc d ca h
  ·cases hk
 case entry X =>
  obtain ⟨x',hx,rfl⟩:=eD hk;simp [K.run] at hr
 case range t X =>
  split at hk
  ·rename_i kT eT ht;obtain ⟨x',hx,rfl⟩:=eD hk;simp [K.run] at hr
  ·cases hk
 case lookup t X I ok =>
  split at hk
  ·rename_i kT eT x' i' ht hx hi;split at hk
   ·rename_i ty z ub hz;cases hk;simp only [K.run] at hr;split at hr
    ·rename_i t' n ee;split at hr
     ·rename_i L hL;split at hr
      ·rename_i aa;injection hr with hr; injection hr with h1 h2; subst h1; subst h2;unfold cX at ub;split at ub
       ·rename_i kk jb;cases ub;exact nC R ⟨rfl,DX R (qU kk) (E4 jb) ht hz aa.2.2 hx hi fb ee hL aa.1 aa.2.1⟩ hd he ue
       ·rename_i jb;cases ub;exact nC R ⟨rfl,DX R wU (R4 jb) ht hz aa.2.2 hx hi fb ee hL aa.1 aa.2.1⟩ hd he ue
       ·obtain ⟨l,_,ub⟩:=ye.1 ub;split at ub
        ·rename_i nr;cases ub;exact nC R ⟨rfl,DX R (MT l) (W4 nr.1) ht hz aa.2.2 hx hi fb ee hL aa.1 aa.2.1⟩ hd he ue
        ·cases ub
      ·cases hr
     ·cases hr
    ·cases hr
   ·cases hk
  ·cases hk
 case mapUpdate t X I Y =>
  split at hk
  ·rename_i kT eT x' i' y' ht hx hi hy;obtain ⟨ty,ub,rfl⟩:=eD hk;simp only [K.run] at hr;split at hr
   ·rename_i t' n ee;split at hr
    ·rename_i L hL;split at hr
     ·rename_i aa;injection hr with hr; injection hr with h1 h2; subst h1; subst h2;simp only [TA.eff] at he;cases he;have key:∃ w',(execOp a.eval o).run P w=.ok .skip w'/\eE P O nt B F0 da w0 D ((s.setObj t' n (TI (UG L (i'.get s) (y'.get s)))).put o.dst ⟨.undef,.no⟩) (a.put o.dst undef) w':=by
       unfold cX at ub;split at ub
       ·rename_i kk jb;cases ub;exact UN R (qU kk) (E4 jb) ht hx hi hy (.inl fb) hd ee hL aa.1 aa.2.1 aa.2.2
       ·rename_i jb;cases ub;exact UN R wU (R4 jb) ht hx hi hy (.inl fb) hd ee hL aa.1 aa.2.1 aa.2.2
       ·obtain ⟨l,_,ub⟩:=ye.1 ub;split at ub
        ·rename_i nr;cases ub;exact UN R (MT l) (W4 nr.1) ht hx hi hy (.inl fb) hd ee hL aa.1 aa.2.1 aa.2.2
        ·cases ub
      obtain ⟨w',ja,hR⟩:=key;unfold Oper.wp;rw [ja,Oper.upon_skip];simp_all
     ·cases hr
    ·cases hr
   ·cases hr
  ·cases hk
 case insert t X I Y =>
  split at hk
  ·rename_i kT eT x' i' y' ht hx hi hy;obtain ⟨ty,ub,rfl⟩:=eD hk;simp only [K.run] at hr;split at hr
   ·rename_i t' n ee;split at hr
    ·rename_i L hL;split at hr
     ·rename_i aa;injection hr with hr; injection hr with h1 h2; subst h1; subst h2;simp only [TA.eff] at he;cases he;have key:∃ w',(execOp a.eval o).run P w=.ok .skip w'/\eE P O nt B F0 da w0 D ((s.setObj t' n (TI (UG L (i'.get s) (y'.get s)))).put o.dst ⟨.undef,.no⟩) (a.put o.dst undef) w':=by
       unfold cX at ub;split at ub
       ·rename_i kk jb;cases ub;exact UN R (qU kk) (E4 jb) ht hx hi hy (.inr fb) hd ee hL aa.1 aa.2.1 aa.2.2
       ·rename_i jb;cases ub;exact UN R wU (R4 jb) ht hx hi hy (.inr fb) hd ee hL aa.1 aa.2.1 aa.2.2
       ·obtain ⟨l,_,ub⟩:=ye.1 ub;split at ub
        ·rename_i nr;cases ub;exact UN R (MT l) (W4 nr.1) ht hx hi hy (.inr fb) hd ee hL aa.1 aa.2.1 aa.2.2
        ·cases ub
      obtain ⟨w',ja,hR⟩:=key;unfold Oper.wp;rw [ja,Oper.upon_skip];simp_all
     ·cases hr
    ·cases hr
   ·cases hr
  ·cases hk
 case extract X i=>obtain ⟨y,hy,rfl⟩:=eD hk; exact nC R (val_ext R hy fb hr) hd he ue
 case call c =>
  obtain ⟨callee,xs,ts⟩:=c;cases callee with
  | invoke r m=>cases hk
  | value f =>
   cases f with
   | func f =>
    have plain:(bH xs.toList).map (.call cl f)=some k->o.wp P a w Kn Q:=fun hk=>by
     obtain ⟨ys,hy,rfl⟩:=eD hk;exact op_call R eb hy fb hd (fun d h=>hD d h rfl) hr he hK
    cases mu with
    | none=>exact plain hk
    | some b =>
     cases b with
     | true =>
      obtain ⟨ys,hy,rfl⟩:=eD (show (bH xs.toList).map (.callr cl f)=some k from hk);exact op_callr R eb hy fb hd hr he hK
     | false =>
      have zc:(match P.funcs[f]? with
       | some fn=>(match fn.resultTypes.toList with
        | [t]=>(match P.underlying t with
         | some (.slice e)=>(match lC P e,bH xs.toList with
          | some z,some xs=>if 0<z then some (K.callf cl f z xs) else none
          | _,_=>none)
         | _=>none)
        | _=>none)
       | none=>none)=some k:=hk
      clear hk;split at zc
      ·split at zc
       ·split at zc
        ·split at zc
         ·rename_i z ys hz hy;split at zc
          ·rename_i lb;injection zc with zc;subst zc;simp [K.run] at hr
          ·cases zc
         ·cases zc
        ·cases zc
       ·cases zc
      ·cases zc
   | tmp tf =>
    obtain ⟨ys,hy,rfl⟩:=eD hk;exact op_callv R eb hy fb hd hr he hK
   | _=>cases hk
  | builtin b =>
  cases b
  case len =>
   simp only at hk;split at hk
   ·rename_i x' t hx tn;have hts:ts=#[t]:=by have h0:=congrArg List.toArray tn; rwa [yX] at h0
    subst hts;obtain ⟨X,hX,kp⟩:=opd_one hx;subst hX;split at hk
    ·rename_i ht; injection hk with hk; subst hk; exact nC R (val_len R (str:=true) ht kp fb hr) hd he ue
    ·rename_i el ht; injection hk with hk; subst hk; exact nC R (val_len R (str:=false) ⟨el,ht⟩ kp fb hr) hd he ue
    ·rename_i kT eT ht;cases hk;simp [K.run] at hr
    ·cases hk
   ·cases hk
  case clear =>
   simp only at hk;split at hk
   ·rename_i x' t hx tn;have hts:ts=#[t]:=by have h0:=congrArg List.toArray tn; rwa [yX] at h0
    subst hts;obtain ⟨X,hX,kp⟩:=opd_one hx;subst hX;split at hk
    ·rename_i el ht;obtain ⟨z,hz,rfl⟩:=eD hk;simp [K.run] at hr
    ·cases hk
   ·cases hk
  case max =>
   simp only at hk;split at hk
   ·rename_i X Y ed;have hX:xs=#[X,Y]:=by rw [<- yX (xs:=xs),ed]
    subst hX;split at hk
    ·rename_i x' y' hx hy;injection hk with hk; subst hk;simp only [K.run] at hr;obtain ⟨v,hv,hr⟩:=eD hr;injection hr with h1 h2; subst h1; subst h2;exact nC R ⟨rfl,val_mm R (mx:=true) hx hy fb hv⟩ hd he ue
    ·cases hk
   ·cases hk
  case min =>
   simp only at hk;split at hk
   ·rename_i X Y ed;have hX:xs=#[X,Y]:=by rw [<- yX (xs:=xs),ed]
    subst hX;split at hk
    ·rename_i x' y' hx hy;injection hk with hk; subst hk;simp only [K.run] at hr;obtain ⟨v,hv,hr⟩:=eD hr;injection hr with h1 h2; subst h1; subst h2;exact nC R ⟨rfl,val_mm R (mx:=false) hx hy fb hv⟩ hd he ue
    ·cases hk
   ·cases hk
  case append =>
   simp only at hk;split at hk
   ·rename_i x' y' t t' hx tn;split at hk
    ·rename_i htt';subst htt';have hts:ts=#[t,t]:=by have h0:=congrArg List.toArray tn; rwa [yX] at h0
     subst hts;obtain ⟨X,Y,hX,kp,tv⟩:∃ X Y,xs=#[X,Y]/\opd X=some x'/\opd Y=some y':=by
      obtain ⟨l⟩:=xs;have key:∀ {r:List Operand} {ys:List aC},bH r=some ys->r.length=ys.length/\∀ j (h:j<r.length),opd r[j]=ys[j]?:=by
       intro r
       induction r with
       | nil=>intro ys h; injection h with h; subst h; exact ⟨rfl,fun j h=>by simp at h⟩
       | cons X r ih =>
        intro ys h;unfold bH at h
        grind
      obtain ⟨h1,h2⟩:=key hx
      match l,h1,h2 with
      | [X,Y],_,h2=>exact ⟨X,Y,rfl,h2 0 (by simp),h2 1 (by simp)⟩
     subst hX;split at hk
     ·rename_i el ht;split at hk
      ·rename_i i z hi hz;split at hk
       ·rename_i aa;injection hk with hk;cases mu with
        | some m =>
         cases ca:o.dst with
         | none=>exact absurd ca (ep (by simp))
         | some d =>
          cases m with
          | true =>
           cases nest with
           | true=>simp only [if_true] at hk; subst hk; exact oc d ca (L4 R ht hi hz aa.1 aa.2 kp tv fb ca (hd d ca) (hD d ca rfl) hr he)
           | false=>simp only [yA,if_false] at hk; subst hk; exact oc d ca (op_appm R ht hi hz aa.1 aa.2 kp tv fb ca (hd d ca) (hD d ca rfl) hr he)
          | false=>simp only at hk; subst hk; exact oc d ca (op_appf R ht hi hz aa.1 aa.2 kp tv fb ca (hd d ca) (hD d ca rfl) hr he)
        | none =>
        simp only at hk;subst hk;cases ca:o.dst with
        | none =>
         have:∃ A,e=.app A 0:=by
          simp only [K.run] at hr
          grind
         obtain ⟨A,rfl⟩:=this;simp [TA.eff,ca] at he
        | some d=>exact run_wp (op_app R ht hi hz aa.1 aa.2 kp tv fb ca (hd d ca) hr he) ue
       ·cases hk
      ·cases hk
     ·cases hk
    ·cases hk
   ·cases hk
  all_goals cases hk
 case makeFunc fn fs Xs =>
  cases fn with
  | func f =>
   simp only at hk;split at hk
   ·rename_i h0;obtain ⟨ys,hy,rfl⟩:=eD hk;exact nC R (val_mkf R h0 hy fb hr) hd he ue
   ·cases hk
  | _=>cases hk
 all_goals cases hk
end
end
section
section
variable {call:JB} {s s' s1 s2:aA}
inductive Tr where
 | id
 | row (t n:Nat) (r:List wA)
 | an (A:An) (d:Nat)
 | obj (t n:Nat) (S:AV)
 | rn (k:Option (Nat × Nat)) (t n:Nat) (r:List wA)
 | ob2 (t n:Nat) (S:AV) (d m:Nat) (r:List wA)
def Tr.ap:Tr->aA->aA
 | .id,s=>s
 | .row t n r,s=>s.setRow t n r
 | .an A d,s=>(s.stripA A).strip d
 | .obj t n S,s=>s.setObj t n S
 | .rn k t n r,s=>(s.killO k).setRow t n r
 | .ob2 t n S d m r,s=>(s.setObj t n S).setRow d m r
def Tr.f:Tr->An->An
 | .an A d,x=>match A with
  | .own k _=>(x.strip k).strip d
  | _=>x.strip d
 | _,x=>x
theorem Tr.ends (T:Tr):w9 T.f:=by
 cases T with
 | an A d =>
  have h:∀ k j e,(An.own j e).strip k≠.ex:=fun k j e=>by simp only [An.strip]; split <;> simp
  have h':∀ k k' j e,((An.own j e).strip k).strip k'≠.ex:=fun k k' j e=>by
   by_cases hj:j=k
   ·simp [An.strip,hj]
   ·rw [show (An.own j e).strip k=An.own j e from if_neg hj];exact h k' j e
  cases A with
  | own k e=>exact ⟨rfl,rfl,fun j e=>h' k d j e⟩
  | no=>exact ⟨rfl,rfl,fun j e=>h d j e⟩
  | ex=>exact ⟨rfl,rfl,fun j e=>h d j e⟩
 | _=>exact ⟨rfl,rfl,fun _ _ h=>by cases h⟩
theorem Tr.ap_an (A:An) (d:Nat) (s:aA):(Tr.an A d).ap s=s.mapAn (Tr.an A d).f:=by
 cases A with
 | own k e=>simp [Tr.ap,aA.stripA,aA.strip,aA.mapAn,wA.strip,Tr.f,Function.comp_def]
 | no=>rfl
 | ex=>rfl
def TA.runG (call:JB) (o:TA) (s:aA):Option (wA × TD) :=
 match o.guard with
 | none=>o.op.run call s
 | some (t,want)=>match (s.env t).v with
  | .bool b=>if b=want then o.op.run call s else some (⟨.tup [],.no⟩,.none)
  | .tup []=>some (⟨.tup [],.no⟩,.none)
  | _=>none
def TA.effT (o:TA) (next:Nat):wA × TD->Option (Tr × wA)
 | (x,.none)=>some (.id,x)
 | (x,.new r)=>match o.dst with
  | none=>none
  | some d=>some (.row d next r,⟨match x.v with | .ref _ _ sz off l c=>.ref d next sz off l c | _=>.ptr d next 0,.no⟩)
 | (x,.set t n r)=>some (.row t n r,x)
 | (x,.app a _)=>match o.dst with
  | none=>none
  | some d=>some (.an a d,⟨x.v,match x.a with | .own _ e=>.own d e | a=>a⟩)
 | (x,.obj t n S)=>some (.obj t n S,x)
 | (x,.mk S)=>match o.dst with
  | none=>none
  | some d=>some (.obj d next S,⟨x.v.named d next,.no⟩)
 | (x,.ob2 t n S r)=>match o.dst with
  | none=>none
  | some d=>some (.ob2 t n S d next r,⟨match x.v with | .ref _ _ sz off l c=>.ref d next sz off l c | _=>.ptr d next 0,.no⟩)
 | (x,.rn k r)=>match o.dst with
  | none=>none
  | some d=>some (.rn k d next r,⟨match x.v with | .ref _ _ sz off l c=>.ref d next sz off l c | _=>.ptr d next 0,.no⟩)
theorem cO (o:TA) (s:aA):o.step call s=(o.runG call s).bind fun p=>(o.effT s.next p).map fun q=>(q.1.ap s).put o.dst q.2:=by
 have h:∀ p,o.eff s p=(o.effT s.next p).map fun q=>(q.1.ap s).put o.dst q.2:=by
  rintro ⟨x,e⟩;cases e with
  | none=>rfl
  | new r=>simp only [TA.eff,TA.effT]; cases o.dst <;> rfl
  | set t n r=>rfl
  | app a k=>simp only [TA.eff,TA.effT]; cases o.dst <;> rfl
  | obj t n S=>rfl
  | mk S=>simp only [TA.eff,TA.effT]; cases o.dst <;> rfl
  | rn k r=>simp only [TA.eff,TA.effT]; cases o.dst <;> rfl
  | ob2 t n S r=>simp only [TA.eff,TA.effT]; cases o.dst <;> rfl
 have hf:o.eff s=fun p=>(o.effT s.next p).map fun q=>(q.1.ap s).put o.dst q.2:=funext h
 unfold TA.step TA.runG;rw [<- hf];cases o.guard with
 | none=>rfl
 | some p =>
  obtain ⟨t,want⟩:=p;simp only;generalize (s.env t).v=y;cases y with
  | bool b=>simp only; split <;> rfl
  | tup l=>cases l <;> rfl
  | _=>rfl
theorem zO (k:K) {x:wA} {e:TD} (h:k.run call s=some (x,e)):match e with
    | .none=>True
    | .new _=>N9 k=true
    | .set t _ _=>isS k=true/\∃ c,k.cl=some c/\c.okPtr t=true
    | .app _ _=>isT k=true
    | .obj _ _ _=>BT k=true/\isR k=false
    | .mk _=>BT k=true/\isR k=false
    | .rn _ _=>isM k=true
    | .ob2 _ _ _ _=>BT k=true/\isR k=false/\N9 k=true:=by
  have hn:e=.none->(match e with
    | .none=>True
    | .new _=>N9 k=true
    | .set t _ _=>isS k=true/\∃ c,k.cl=some c/\c.okPtr t=true
    | .app _ _=>isT k=true
    | .obj _ _ _=>BT k=true/\isR k=false
    | .mk _=>BT k=true/\isR k=false
    | .rn _ _=>isM k=true
    | .ob2 _ _ _ _=>BT k=true/\isR k=false/\N9 k=true):=fun h=>by subst h; trivial
  cases k with
  | callh nt x xs=>cases h
  | nxt x=>cases h
  | ent x=>cases h
  | slz x=>cases h
  | rng x=>cases h
  | alloc z=>simp only [K.run] at h; injection h with h; injection h with _ h; subst h; rfl
  | box z x =>
    simp only [K.run] at h;split at h <;> split at h <;> first | (cases h; done) | (injection h with h; injection h with _ h; subst h; rfl)
  | mks z b zs l c =>
    simp only [K.run] at h;split at h
    · split at h
      · injection h with h; injection h with _ h; subst h; rfl
      · cases h
    · cases h
  | clr cl z x=>cases h
  | store cl g z x y =>
    simp only [K.run] at h;split at h
    · split at h
      · rename_i t n off _ sa
        obtain ⟨r,_,h⟩:=yn.1 h;injection h with _ h;subst h;exact ⟨rfl,cl,rfl,sa⟩
      · cases h
    · cases h
  | app cl e z b x y =>
    simp only [K.run] at h;split at h
    · split at h
      · split at h
        · cases h
        · split at h
          · injection h with h; injection h with _ h; subst h; rfl
          · cases h
        · injection h with h; injection h with _ h; subst h; rfl
      · cases h
    · cases h
  | appf cl e z b x y =>
    simp only [K.run] at h;split at h
    · split at h
      · split at h
        · split at h
          · injection h with h; injection h with _ h; exact hn h.symm
          · injection h with h; injection h with _ h; subst h; rfl
        · cases h
      · cases h
    · cases h
  | appm cl e z b x y =>
    simp only [K.run] at h;split at h
    · split at h
      · split at h
        · split at h
          · injection h with h; injection h with _ h; exact hn h.symm
          · injection h with h; injection h with _ h; subst h; rfl
        · cases h
      · cases h
    · split at h
      · split at h
        · injection h with h; injection h with _ h; subst h; rfl
        · cases h
      · cases h
    · cases h
  | appn cl e z b x y =>
    simp only [K.run] at h;split at h
    · split at h
      · split at h
        · injection h with h; injection h with _ h; subst h; rfl
        · cases h
      · cases h
    · split at h
      · split at h
        · injection h with h; injection h with _ h; subst h; rfl
        · cases h
      · cases h
    · cases h
  | bslr sz z n ps =>
    simp only [K.run] at h;split at h
    · injection h with h; injection h with _ h; subst h; rfl
    · cases h
  | bad=>simp only [K.run] at h; cases h
  | mkm=>simp only [K.run] at h; injection h with h; injection h with _ h; subst h; exact ⟨rfl,rfl⟩
  | mkb T e=>simp only [K.run] at h; injection h with h; injection h with _ h; subst h; exact ⟨rfl,rfl⟩
  | mget ok ty z x k =>
    simp only [K.run] at h;split at h
    · split at h
      · split at h
        · injection h with h; injection h with _ h; exact hn h.symm
        · cases h
      · cases h
    · cases h
  | mset ty x k v =>
    simp only [K.run] at h;split at h
    · split at h
      · split at h
        · injection h with h; injection h with _ h; subst h; exact ⟨rfl,rfl⟩
        · cases h
      · cases h
    · cases h
  | mlen x=>cases h
  | mv x=>simp only [K.run] at h; injection h with h; injection h with _ h; exact hn h.symm
  | pick c a b =>
    simp only [K.run] at h;split at h
    · injection h with h; injection h with _ h; exact hn h.symm
    · cases h
  | build z ps =>
    simp only [K.run] at h;split at h
    · obtain ⟨r,_,h⟩:=yn.1 h; injection h with _ h; exact hn h.symm
    · cases h
  | bsl z n ps =>
    simp only [K.run] at h;split at h
    · injection h with h; injection h with _ h; exact hn h.symm
    · cases h
  | load cl g z x =>
    simp only [K.run] at h;split at h
    · split at h
      · obtain ⟨r,_,h⟩:=yn.1 h; injection h with _ h; exact hn h.symm
      · cases h
    · split at h
      · cases h
      · obtain ⟨r,_,h⟩:=yn.1 h; injection h with _ h; exact hn h.symm
    · split at h
      · cases h
      · obtain ⟨r,_,h⟩:=yn.1 h; injection h with _ h; exact hn h.symm
    · cases h
  | mm b x y=>simp only [K.run] at h; obtain ⟨r,_,h⟩:=yn.1 h; injection h with _ h; exact hn h.symm
  | bin op b x y=>simp only [K.run] at h; obtain ⟨r,_,h⟩:=yn.1 h; injection h with _ h; exact hn h.symm
  | eqa n ks x y =>
    simp only [K.run] at h;split at h
    · obtain ⟨r,_,h⟩:=yn.1 h; injection h with _ h; exact hn h.symm
    · cases h
  | eqn n p x y =>
    simp only [K.run] at h;split at h <;> first | (cases h; done) | (obtain ⟨r,_,h⟩:=yn.1 h; injection h with _ h; exact hn h.symm)
  | un op x =>
    simp only [K.run] at h;split at h <;> first | (cases h; done) | (injection h with h; injection h with _ h; exact hn h.symm)
  | conv o x =>
    simp only [K.run] at h;split at h <;> first | (cases h; done) | (injection h with h; injection h with _ h; exact hn h.symm)
  | slc st z x lo hi mx =>
    cases mx with
    | some m=>simp [K.run] at h
    | none =>
      simp only [K.run] at h;split at h
      · cases h
      · split at h <;> first
          | (cases h; done)
          | (split at h
             · split at h
               · (try split at h) <;> (injection h with h; injection h with _ h; exact hn h.symm)
               · cases h
             · cases h)
  | faddr o x =>
    simp only [K.run] at h;split at h <;> first | (cases h; done) | (injection h with h; injection h with _ h; exact hn h.symm)
  | field g o z x =>
    simp only [K.run] at h;split at h
    · obtain ⟨r,_,h⟩:=yn.1 h; injection h with _ h; exact hn h.symm
    · cases h
  | aaddr l z x i =>
    simp only [K.run] at h;split at h
    · split at h
      · split at h <;> first | (cases h; done) | (injection h with h; injection h with _ h; exact hn h.symm)
      · cases h
    · cases h
  | iaddr z x i =>
    simp only [K.run] at h;split at h
    · split at h
      · obtain ⟨r,_,h⟩:=ye.1 h; split at h <;> first | (cases h; done) | (injection h with h; injection h with _ h; exact hn h.symm)
      · obtain ⟨r,_,h⟩:=ye.1 h; split at h <;> first | (cases h; done) | (injection h with h; injection h with _ h; exact hn h.symm)
      · split at h <;> first | (cases h; done) | (injection h with h; injection h with _ h; exact hn h.symm)
      · cases h
    · cases h
  | index x i =>
    simp only [K.run] at h;split at h
    · obtain ⟨r,_,h⟩:=yn.1 h; injection h with _ h; exact hn h.symm
    · cases h
  | ext x i =>
    simp only [K.run] at h;split at h
    · obtain ⟨r,_,h⟩:=yn.1 h; injection h with _ h; exact hn h.symm
    · cases h
  | call cl f xs =>
    simp only [K.run] at h;obtain ⟨vs,_,h⟩:=ye.1 h;split at h
    · obtain ⟨r,_,h⟩:=ye.1 h
      split at h
      · split at h <;> first | (cases h; done) | (injection h with h; injection h with _ h; exact hn h.symm)
      · split at h <;> first | (cases h; done) | (injection h with h; injection h with _ h; subst h; exact ⟨rfl,rfl⟩)
    · obtain ⟨r,_,h⟩:=ye.1 h
      split at h
      · cases h
      · split at h <;> first | (cases h; done) | (injection h with h; injection h with _ h; subst h; exact ⟨rfl,rfl⟩)
    · cases h
  | callf cl f z xs=>cases h
  | callr cl f xs =>
    simp only [K.run] at h;split at h
    · split at h
      · rename_i sa
        split at h
        · split at h
          · obtain ⟨q,_,h⟩:=ye.1 h
            split at h
            · split at h
              · injection h with h; injection h with _ h; subst h
                exact ⟨rfl,cl,rfl,sa⟩
              · cases h
            · cases h
          · cases h
        · cases h
      · cases h
    · cases h
  | rstr x =>
    simp only [K.run] at h;split at h <;> first | (cases h; done) | (injection h with h; injection h with _ h; exact hn h.symm)
  | bstr cl x =>
    simp only [K.run] at h;split at h
    · obtain ⟨r,_,h⟩:=yn.1 h; injection h with _ h; exact hn h.symm
    · cases h
  | aslc cl l z x lo hi =>
    simp only [K.run] at h;split at h
    · split at h
      · split at h
        · split at h <;> (injection h with h; injection h with _ h; exact hn h.symm)
        · cases h
      · cases h
    · cases h
  | mkf f xs =>
    simp only [K.run] at h;split at h
    · injection h with h; injection h with _ h; exact hn h.symm
    · cases h
  | callv cl x xs =>
    simp only [K.run] at h;split at h
    · split at h
      · obtain ⟨r,_,h⟩:=ye.1 h
        split at h
        · split at h <;> first | (cases h; done) | (injection h with h; injection h with _ h; exact hn h.symm)
        · cases h
      · cases h
    · cases h
  | len st x =>
    simp only [K.run] at h;split at h <;> first
      | (cases h; done)
      | (split at h <;> first | (cases h; done) | (injection h with h; injection h with _ h; exact hn h.symm))
  | nilchk x =>
    simp only [K.run] at h;split at h <;> first | (cases h; done) | (injection h with h; injection h with _ h; exact hn h.symm)
def Tr.of (T:Tr) (o:TA):Prop:=match T with
 | .id=>True
 | .row t _ _=>(N9 o.op=true/\o.dst=some t)\/(isS o.op=true/\∃ c,o.op.cl=some c/\c.okPtr t=true)
 | .an _ d=>isT o.op=true/\o.dst=some d
 | .obj _ _ _=>BT o.op=true/\isR o.op=false
 | .rn ..=>isM o.op=true
 | .ob2 _ _ _ d _ _=>(BT o.op=true/\isR o.op=false/\N9 o.op=true)/\o.dst=some d
theorem R8 (o:TA) {x:wA} {e:TD} (h:o.runG call s=some (x,e)) {n:Nat} {T:Tr} {v:wA} (ht:o.effT n (x,e)=some (T,v)):T.of o:=by
 have key:o.op.run call s=some (x,e)\/e=.none:=by
  unfold TA.runG at h;split at h
  ·exact .inl h
  ·split at h
   ·split at h
    ·exact .inl h
    ·injection h with h; injection h with _ h; exact .inr h.symm
   ·injection h with h; injection h with _ h; exact .inr h.symm
   ·cases h
 cases e with
 | none=>simp only [TA.effT] at ht; injection ht with ht; injection ht with h1 _; subst h1; trivial
 | new r =>
  have:=zO o.op (key.resolve_right (by simp));simp only [TA.effT] at ht;split at ht
  ·cases ht
  ·rename_i d hd; injection ht with ht; injection ht with h1 _; subst h1; exact .inl ⟨this,hd⟩
 | set t n r =>
  have:=zO o.op (key.resolve_right (by simp));simp only [TA.effT] at ht;injection ht with ht; injection ht with h1 _; subst h1;exact .inr this
 | app a k =>
  have:=zO o.op (key.resolve_right (by simp));simp only [TA.effT] at ht;split at ht
  ·cases ht
  ·rename_i d hd; injection ht with ht; injection ht with h1 _; subst h1; exact ⟨this,hd⟩
 | obj t n S =>
  have:=zO o.op (key.resolve_right (by simp));simp only [TA.effT] at ht;injection ht with ht; injection ht with h1 _; subst h1;exact this
 | mk S =>
  have:=zO o.op (key.resolve_right (by simp));simp only [TA.effT] at ht;split at ht
  ·cases ht
  ·injection ht with ht; injection ht with h1 _; subst h1; exact this
 | rn k r =>
  have:=zO o.op (key.resolve_right (by simp));simp only [TA.effT] at ht;split at ht
  ·cases ht
  ·injection ht with ht; injection ht with h1 _; subst h1; exact this
 | ob2 t n S r =>
  have:=zO o.op (key.resolve_right (by simp));simp only [TA.effT] at ht;split at ht
  ·cases ht
  ·rename_i d hd; injection ht with ht; injection ht with h1 _; subst h1; exact ⟨this,hd⟩
theorem get_put {o:aC} {d:Option Nat} {x:wA} (h:∀ n,o=.t n->d≠some n):o.get (s.put d x)=o.get s/\o.an (s.put d x)=o.an s:=by
 cases d with
 | none=>exact ⟨rfl,rfl⟩
 | some d =>
  cases o with
  | c v=>exact ⟨rfl,by cases v <;> first | rfl | (rename_i b l; cases b <;> rfl)⟩
  | t n =>
   have:n≠d:=fun e=>h n rfl (by rw [e])
   simp [aC.get,aC.an,aA.put,this]
theorem looks_opds {o:TA} {n:Nat} {x:aC} (h:x∈o.op.opds) (hx:x=.t n):n∈o.looks:=by
 unfold TA.looks;refine yS _ (List.mem_filterMap.2 ⟨x,h,?_⟩);rw [hx]
theorem BN {x y:TA} (h:x.clear y=true):(∀ n,x.dst=some n->n ∉ y.looks)/\(∀ n,x.dst=some n->y.dst≠some n):=by
 unfold TA.clear at h;constructor
 ·intro n hn;rw [hn] at h;simp at h;exact h.1
 ·intro n hn;rw [hn] at h;simp at h;exact h.2
theorem nT {y:TA} {d:Option Nat} {v:wA} (h:∀ n,d=some n->n ∉ y.looks):y.runG call (s.put d v)=y.runG call s:=by
 have h1:y.op.run call (s.put d v)=y.op.run call s:=cQ _ (fun o ho=>get_put fun n hn hd=>h n hd (looks_opds ho hn)) (fun t n _=>by cases d <;> rfl) (fun _=>by cases d <;> rfl);unfold TA.runG;rw [h1];cases hg:y.guard with
 | none=>rfl
 | some p =>
  obtain ⟨t,want⟩:=p;have:t∈y.looks:=by unfold TA.looks; rw [hg]; simp
  have he:((s.put d v).env t)=s.env t:=by
   cases d with
   | none=>rfl
   | some d =>
    have:t≠d:=fun e=>h d rfl (e ▸ this)
    simp [aA.put,this]
  simp only [he]
def Tr.off (T:Tr) (o:TA):Prop:=match T with
 | .id=>True
 | .row t _ _=>¬ o.op.reads t
 | .an _ _=>isT o.op=false
 | .obj _ _ _=>BT o.op=false
 | .rn ..=>False
 | .ob2 _ _ _ d _ _=>BT o.op=false/\¬ o.op.reads d
def Tr.act (T:Tr) (p:wA × TD):wA × TD:=match T with
 | .an _ _=>(p.1.mapAn T.f,p.2.mapAn T.f)
 | _=>p
theorem runG_tr {y:TA} {T:Tr} (h:T.off y):y.runG call (T.ap s)=(y.runG call s).map T.act:=by
 cases T with
 | rn=>exact absurd h id
 | ob2 t n S d m r =>
  have h1:y.op.run call ((s.setObj t n S).setRow d m r)=y.op.run call s:=cQ _ (fun o ho=>by
   cases o with
   | t n=>exact ⟨rfl,rfl⟩
   | c v=>exact ⟨rfl,by cases v <;> first | rfl | (rename_i b l; cases b <;> rfl)⟩) (fun t' n' hr=>by
   simp only [aA.setRow,aA.setObj];rw [if_neg];rintro ⟨e,_⟩;exact h.2 (e ▸ hr)) (fun ho=>by
    have h':BT y.op=false:=h.1;rw [h'] at ho; cases ho)
  have:y.runG call ((Tr.ob2 t n S d m r).ap s)=y.runG call s:=by
   unfold TA.runG Tr.ap;rw [h1];rfl
  have h2:(Tr.act (.ob2 t n S d m r):wA × TD->wA × TD)=id:=rfl;rw [this,h2,Option.map_id];rfl
 | id =>
  have:(Tr.act .id:wA × TD->wA × TD)=id:=rfl;rw [this,Option.map_id];rfl
 | row t n r =>
  have h1:y.op.run call (s.setRow t n r)=y.op.run call s:=cQ _ (fun o ho=>by
   cases o with
   | t n=>exact ⟨rfl,rfl⟩
   | c v=>exact ⟨rfl,by cases v <;> first | rfl | (rename_i b l; cases b <;> rfl)⟩) (fun t' n' hr=>by
   simp only [aA.setRow];rw [if_neg];rintro ⟨e,_⟩;exact h (e ▸ hr)) (fun _=>rfl)
  have:y.runG call ((Tr.row t n r).ap s)=y.runG call s:=by
   unfold TA.runG Tr.ap;rw [h1];rfl
  have h2:(Tr.act (.row t n r):wA × TD->wA × TD)=id:=rfl;rw [this,h2,Option.map_id];rfl
 | obj t n S =>
  have h1:y.op.run call (s.setObj t n S)=y.op.run call s:=cQ _ (fun o ho=>by
   cases o with
   | t n=>exact ⟨rfl,rfl⟩
   | c v=>exact ⟨rfl,by cases v <;> first | rfl | (rename_i b l; cases b <;> rfl)⟩) (fun t' n' hr=>rfl) (fun ho=>by
    have h':BT y.op=false:=h;rw [h'] at ho; cases ho)
  have:y.runG call ((Tr.obj t n S).ap s)=y.runG call s:=by
   unfold TA.runG Tr.ap;rw [h1];rfl
  have h2:(Tr.act (.obj t n S):wA × TD->wA × TD)=id:=rfl;rw [this,h2,Option.map_id];rfl
 | an A d =>
  rw [Tr.ap_an];have h1:=run_mapAn (call:=call) (s:=s) (Tr.ends (.an A d)) y.op h;unfold TA.runG;rw [h1];cases y.guard with
  | none=>rfl
  | some p =>
   obtain ⟨t,want⟩:=p;simp only [aA.mapAn];generalize (s.env t).v=y;cases y with
   | bool b =>
    simp only;split
    ·rfl
    ·simp [Tr.act,wA.mapAn,TD.mapAn,(Tr.ends (.an A d)).no]
   | tup l=>cases l <;> simp [Tr.act,wA.mapAn,TD.mapAn,(Tr.ends (.an A d)).no]
   | _=>rfl
theorem S7 {x y:TA} (h:gI x y=true):gI y x=true:=by
 unfold gI at h ⊢;simp only [y7] at h ⊢;obtain ⟨⟨⟨⟨⟨⟨⟨m1,m2⟩,h1⟩,h0⟩,h2⟩,h3⟩,h4⟩,h5⟩:=h;refine ⟨⟨⟨⟨⟨⟨⟨m2,m1⟩,by rw [Bool.or_comm]; exact h1⟩,by rw [Bool.or_comm (!BT y.op),Bool.and_comm]; exact h0⟩,?_⟩,h4⟩,h3⟩,?_⟩
 ·cases hc:x.op.cl with
  | none=>cases y.op.cl <;> rfl
  | some c =>
   cases hd:y.op.cl with
   | none=>rfl
   | some d =>
    rw [hc,hd] at h2;simp only [yT] at h2 ⊢;refine h2.imp (fun h=>by rw [Bool.or_comm]; exact h) fun h=>?_
    cases c <;> cases d <;> first | rfl | exact h | (simp at h ⊢; exact fun e=>h e.symm) | (simp at h)
 ·simp only [yT] at h5 ⊢;rcases h5 with (h | h) | h
  ·exact .inl (.inr h)
  ·exact .inl (.inl h)
  ·exact .inr (by simp at h ⊢; exact fun e=>h e.symm)
theorem off_of {T:Tr} {x y:TA} (h:T.of x) (sa:gI x y=true):T.off y:=by
 unfold gI at sa;simp only [y7] at sa;obtain ⟨⟨⟨⟨⟨⟨⟨m1,m2⟩,h1⟩,h0⟩,h2⟩,h3⟩,h4⟩,h5⟩:=sa;cases T with
 | id=>trivial
 | rn k t n r =>
  have h':isM x.op=true:=h;rw [h'] at m1;cases m1
 | ob2 t n S d m r =>
  obtain ⟨⟨g1,g2,ha⟩,hd⟩:=h;rw [g1,g2] at h0;refine ⟨by simpa using h0,fun hr=>?_⟩;unfold K.reads at hr;rw [ha,hd] at h3;cases fc:y.op.cl with
  | none=>rw [fc] at hr; exact hr
  | some c =>
   rw [fc] at hr h3;cases c with
   | any=>simp at h3
   | imm=>exact hr
   | root r=>simp at h3; exact h3 hr
   | out L=>simp only [Bool.not_true,Bool.false_or] at h3 hr; rw [h3] at hr; cases hr
 | an A d =>
  have:=h.1;rw [this] at h1;show isT y.op=false;simpa using h1
 | obj t n S =>
  obtain ⟨g1,g2⟩:BT x.op=true/\isR x.op=false:=h;rw [g1,g2] at h0;show BT y.op=false;simpa using h0
 | row t n r =>
  intro hr;unfold K.reads at hr;rcases h with ⟨ha,hd⟩ | ⟨hs,hc⟩
  ·rw [ha,hd] at h3;cases fc:y.op.cl with
   | none=>rw [fc] at hr; exact hr
   | some c =>
    rw [fc] at hr h3;cases c with
    | any=>simp at h3
    | imm=>exact hr
    | root r=>simp at h3; exact h3 hr
    | out L=>simp only [Bool.not_true,Bool.false_or] at h3 hr; rw [h3] at hr; cases hr
  ·cases fc:y.op.cl with
   | none=>rw [fc] at hr; exact hr
   | some c =>
    rw [fc] at hr;obtain ⟨c0,hc,hp⟩:=hc;rw [hc,fc,hs] at h2;cases c0 with
    | imm=>simp [Cl.okPtr] at hp
    | any=>cases c <;> first | exact hr | (simp at h2)
    | root r0 =>
     simp [Cl.okPtr] at hp;subst hp;cases c with
     | imm=>exact hr
     | any=>simp at h2
     | root r=>simp at h2; exact h2 hr
     | out L=>simp at h2 hr; exact hr h2
    | out L0 =>
     simp [Cl.okPtr] at hp;cases c with
     | imm=>exact hr
     | any=>simp at h2
     | root r=>simp at h2 hr; subst hr; exact hp h2
     | out L=>simp at h2
theorem row_ne {t n t' n':Nat} {r r':List wA} {x y:TA} (h:(Tr.row t n r).of x) (h':(Tr.row t' n' r').of y) (sa:gI x y=true):t≠t':=by
 unfold gI at sa;simp only [y7] at sa;obtain ⟨⟨⟨⟨⟨⟨⟨m1,m2⟩,h1⟩,h0⟩,h2⟩,h3⟩,h4⟩,h5⟩:=sa;rintro rfl;rcases h with ⟨ha,hd⟩ | ⟨hs,hc⟩ <;> rcases h' with ⟨al,aj⟩ | ⟨cj,ae⟩
 ·rw [ha,al,hd,aj] at h5; simp at h5
 ·rw [ha,hd] at h3;obtain ⟨c,ae,hp⟩:=ae;rw [ae] at h3;cases c <;> simp [Cl.okPtr] at h3 hp <;> first | exact h3 hp.symm | exact hp h3
 ·rw [al,aj] at h4;obtain ⟨c,hc,hp⟩:=hc;rw [hc] at h4;cases c <;> simp [Cl.okPtr] at h4 hp <;> first | exact h4 hp.symm | exact hp h4
 ·obtain ⟨c,hc,hp⟩:=hc;obtain ⟨c',ae,hp'⟩:=ae;rw [hc,ae,hs] at h2;cases c <;> cases c' <;> simp [Cl.okPtr] at h2 hp hp'
  ·subst hp; subst hp'; exact h2 rfl
  ·subst hp; exact hp' h2
  ·subst hp'; exact hp h2
def Tr.conj (T:Tr):Tr->Tr
 | .row t n r=>match T with
  | .an A d=>.row t n (r.map (wA.mapAn (Tr.an A d).f))
  | _=>.row t n r
 | .ob2 t n S d m r=>match T with
  | .an A d'=>.ob2 t n S d m (r.map (wA.mapAn (Tr.an A d').f))
  | _=>.ob2 t n S d m r
 | T'=>T'
def Tr.actS (T:Tr) (v:wA):wA:=match T with
 | .an A d=>v.mapAn (Tr.an A d).f
 | _=>v
theorem D6 {T:Tr} {o:TA} {n:Nat} {p:wA × TD} {T':Tr} {v:wA} (h:o.effT n p=some (T',v)) (hT:(∃ A d,T=.an A d)->∀ A d,T'≠.an A d) (hR:∀ k t m r,T'≠.rn k t m r):o.effT n (T.act p)=some (T.conj T',T.actS v):=by
 obtain ⟨x,e⟩:=p;cases T with
 | id=>rw [show Tr.id.act (x,e)=(x,e) from rfl,h]; cases T' <;> rfl
 | row t m r=>rw [show (Tr.row t m r).act (x,e)=(x,e) from rfl,h]; cases T' <;> rfl
 | obj t m S=>rw [show (Tr.obj t m S).act (x,e)=(x,e) from rfl,h]; cases T' <;> rfl
 | rn k t m r=>rw [show (Tr.rn k t m r).act (x,e)=(x,e) from rfl,h]; cases T' <;> rfl
 | ob2 t n S d m r=>rw [show (Tr.ob2 t n S d m r).act (x,e)=(x,e) from rfl,h]; cases T' <;> rfl
 | an A d =>
  cases e with
  | none=>simp only [TA.effT] at h; injection h with h; injection h with h1 h2; subst h1; subst h2; rfl
  | new r =>
   simp only [TA.effT] at h;split at h
   ·cases h
   ·rename_i d' hd;injection h with h; injection h with h1 h2; subst h1; subst h2;simp only [Tr.act,TA.effT,TD.mapAn,hd,Tr.conj,Tr.actS,wA.mapAn,(Tr.ends (.an A d)).no]
  | set t m r =>
   simp only [TA.effT] at h;injection h with h; injection h with h1 h2; subst h1; subst h2;simp only [Tr.act,TA.effT,TD.mapAn,Tr.conj,Tr.actS,wA.mapAn,(Tr.ends (.an A d)).no]
  | app a k =>
   simp only [TA.effT] at h;split at h
   ·cases h
   ·injection h with h; injection h with h1 h2; subst h1; exact absurd rfl (hT ⟨A,d,rfl⟩ _ _)
  | obj t m S =>
   simp only [TA.effT] at h;injection h with h; injection h with h1 h2; subst h1; subst h2;rfl
  | mk S =>
   simp only [TA.effT] at h;split at h
   ·cases h
   ·rename_i d' hd;injection h with h; injection h with h1 h2; subst h1; subst h2;simp only [Tr.act,TA.effT,TD.mapAn,hd,Tr.conj,Tr.actS,wA.mapAn,(Tr.ends (.an A d)).no]
  | rn k r =>
   simp only [TA.effT] at h;split at h
   ·cases h
   ·injection h with h; injection h with h1 h2; exact absurd h1.symm (hR _ _ _ _)
  | ob2 t n S r =>
   simp only [TA.effT] at h;split at h
   ·cases h
   ·rename_i d' hd;injection h with h; injection h with h1 h2; subst h1; subst h2;simp only [Tr.act,TA.effT,TD.mapAn,hd,Tr.conj,Tr.actS,wA.mapAn,(Tr.ends (.an A d)).no]
theorem rD {d d':Option Nat} (h:∀ n,d=some n->d'≠some n) (v v':wA):(s.put d v).put d' v'=(s.put d' v').put d v:=by
 cases d with
 | none=>rfl
 | some d =>
  cases d' with
  | none=>rfl
  | some d' =>
   have:d≠d':=fun e=>h d rfl (by rw [e])
   simp only [aA.put];congr 1;funext t;by_cases h1:t=d'
   ·by_cases h2:t=d
    ·exact absurd (h2.symm.trans h1) this
    ·rw [h1]; simp only [if_true]; rw [if_neg (fun e=>this e.symm)]
   ·simp [h1]
theorem UI (f:An->An) (d:Option Nat) (v:wA):(s.put d v).mapAn f=(s.mapAn f).put d (v.mapAn f):=by
 cases d with
 | none=>rfl
 | some d =>
  simp only [aA.put,aA.mapAn];congr 1;funext t;by_cases h:t=d <;> simp [h,wA.mapAn]
theorem RL (f:An->An) (t n:Nat) (r:List wA):(s.setRow t n r).mapAn f=(s.mapAn f).setRow t n (r.map (wA.mapAn f)):=by
 simp only [aA.setRow,aA.mapAn];congr 1;funext t' n';by_cases h:t'=t/\n'=n
 ·simp only [h,and_self,if_true,yr]; rfl
 ·simp [h]
theorem JC (d:Option Nat) (v:wA) (t n:Nat) (r:List wA):(s.put d v).setRow t n r=(s.setRow t n r).put d v:=by cases d <;> rfl
theorem MP {t n t' n':Nat} (h:t≠t') (r r':List wA):(s.setRow t n r).setRow t' n' r'=(s.setRow t' n' r').setRow t n r:=by
 simp only [aA.setRow];congr 1;funext a b;by_cases h1:a=t'
 ·have:¬ (a=t/\b=n):=fun e=>h (e.1.symm.trans h1)
  simp [this]
 ·have:¬ (a=t'/\b=n'):=fun e=>h1 e.1
  simp [this]
theorem xE (d:Option Nat) (v:wA) (t n:Nat) (S:AV):(s.put d v).setObj t n S=(s.setObj t n S).put d v:=by cases d <;> rfl
theorem EL (f:An->An) (t n:Nat) (S:AV):(s.setObj t n S).mapAn f=(s.mapAn f).setObj t n S:=rfl
theorem tR (t n:Nat) (r:List wA) (t' n':Nat) (S:AV):(s.setRow t n r).setObj t' n' S=(s.setObj t' n' S).setRow t n r:=rfl
theorem J5 {t n:Nat} {S:AV} {d m:Nat} {r:List wA} {o:TA} (h:(Tr.ob2 t n S d m r).of o):(Tr.row d m r).of o:=.inl ⟨h.1.2.2,h.2⟩
theorem next_tr (T:Tr) (s:aA) (d:Option Nat) (v:wA):((T.ap s).put d v).next=s.next:=by
 have:(T.ap s).next=s.next:=by
  cases T with
  | an A d=>rw [Tr.ap_an]; rfl
  | rn k t n r=>cases k <;> rfl
  | _=>rfl
 cases d <;> exact this
theorem commute0 {x y:TA} (xl:LJ x y=true) (sa:gI x y=true) (h1:x.step call s=some s1) (h2:y.step call s1=some s2):∃ lr,y.step call s=some lr/\x.step call lr=some s2:=by
 unfold LJ at xl;simp only [y7] at xl;obtain ⟨a1,a2⟩:=BN xl.1;obtain ⟨a3,a4⟩:=BN xl.2;rw [cO] at h1 h2;obtain ⟨p,hp,h1⟩:=ye.1 h1;obtain ⟨⟨Tx,vx⟩,hx,h1⟩:=yn.1 h1;obtain ⟨q,hq,h2⟩:=ye.1 h2;obtain ⟨⟨Ty,vy⟩,hy,h2⟩:=yn.1 h2;simp only at h1 h2;subst h1;have ofx:Tx.of x:=R8 x (x:=p.1) (e:=p.2) hp hx;have offy:=off_of ofx sa;rw [nT a1,runG_tr offy] at hq;obtain ⟨q0,hq0,rfl⟩:=yn.1 hq;rw [next_tr] at hy
 -- y in the first state
 have ij:∃ Ty0 vy0,y.effT s.next q0=some (Ty0,vy0):=by
  obtain ⟨u,e⟩:=q0;cases e with
  | none=>exact ⟨_,_,rfl⟩
  | new r =>
   cases hd:y.dst with
   | none =>
    exfalso;cases Tx <;> simp [Tr.act,TA.effT,TD.mapAn,hd] at hy
   | some d=>exact ⟨.row d s.next r,_,by simp only [TA.effT,hd]; rfl⟩
  | set t n r=>exact ⟨_,_,rfl⟩
  | obj t n S=>exact ⟨_,_,rfl⟩
  | mk S =>
   cases hd:y.dst with
   | none =>
    exfalso;cases Tx <;> simp [Tr.act,TA.effT,TD.mapAn,hd] at hy
   | some d=>exact ⟨.obj d s.next S,_,by simp only [TA.effT,hd]; rfl⟩
  | app a k =>
   cases hd:y.dst with
   | none =>
    exfalso;cases Tx <;> simp [Tr.act,TA.effT,TD.mapAn,hd] at hy
   | some d=>exact ⟨.an a d,_,by simp only [TA.effT,hd]; rfl⟩
  | rn k r =>
   cases hd:y.dst with
   | none =>
    exfalso;cases Tx <;> simp [Tr.act,TA.effT,TD.mapAn,hd] at hy
   | some d=>exact ⟨.rn k d s.next r,_,by simp only [TA.effT,hd]; rfl⟩
  | ob2 t n S r =>
   cases hd:y.dst with
   | none =>
    exfalso;cases Tx <;> simp [Tr.act,TA.effT,TD.mapAn,hd] at hy
   | some d=>exact ⟨.ob2 t n S d s.next r,_,by simp only [TA.effT,hd]; rfl⟩
 obtain ⟨Ty0,vy0,ij⟩:=ij;have ofy:Ty0.of y:=R8 y (x:=q0.1) (e:=q0.2) hq0 ij;have offx:=off_of ofy (S7 sa);have notT:∀ A d A' d',Tx=.an A d->Ty0=.an A' d'->False:=fun A d A' d' e e'=>by
  subst e; subst e';have:=ofy.1;rw [show isT y.op=false from offy] at this;cases this
 have noM:∀ {T:Tr} {o:TA},T.of o->isM o.op=false->∀ k t m r,T≠.rn k t m r:=fun h hm k t m r e=>by
  subst e;have h':isM _=true:=h;rw [hm] at h';cases h'
 have hMx:isM x.op=false:=by unfold gI at sa; simp only [y7] at sa; simpa using sa.1.1.1.1.1.1.1
 have hMy:isM y.op=false:=by unfold gI at sa; simp only [y7] at sa; simpa using sa.1.1.1.1.1.1.2
 have nx:=noM ofx hMx;have ny:=noM ofy hMy;have hyc:=D6 (T:=Tx) ij (hR:=ny) (fun ⟨A,d,e⟩ A' d' e'=>notT A d A' d' e e');rw [hyc] at hy;injection hy with hy;injection hy with e1 e2;subst e1; subst e2;have hxc:=D6 (T:=Ty0) hx (hR:=nx) (fun ⟨A,d,e⟩ A' d' e'=>notT A' d' A d e' e);refine ⟨(Ty0.ap s).put y.dst vy0,by rw [cO,hq0,J,ij]; rfl,?_⟩;rw [cO,nT a3,runG_tr offx,hp];simp only [yr,J,next_tr,hxc];rw [<- h2];congr 1;have notO:∀ t n S t' n' S',Tx=.obj t n S->Ty0=.obj t' n' S'->False:=fun t n S t' n' S' e e'=>by
  subst e; subst e';have h1:BT y.op=true:=ofy.1;rw [show BT y.op=false from offy] at h1;cases h1
 cases Tx with
 | rn=>exact absurd rfl (nx _ _ _ _)
 | id =>
  cases Ty0 with
  | rn=>exact absurd rfl (ny _ _ _ _)
  | ob2 t n S d m r=>simp only [Tr.ap,Tr.conj,Tr.actS]; rw [xE,JC]; exact (rD a2 _ _).symm
  | id=>exact (rD a2 _ _).symm
  | row t n r=>simp only [Tr.ap,Tr.conj,Tr.actS]; rw [JC]; exact (rD a2 _ _).symm
  | an A d =>
   simp only [Tr.conj,Tr.actS,Tr.ap_an,UI];exact (rD a2 _ _).symm
  | obj t n S=>simp only [Tr.ap,Tr.conj,Tr.actS]; rw [xE]; exact (rD a2 _ _).symm
 | row t n r =>
  cases Ty0 with
  | rn=>exact absurd rfl (ny _ _ _ _)
  | ob2 t' n' S d m r' =>
   have ma:=row_ne (x:=x) (y:=y) ofx (J5 ofy) sa;simp only [Tr.ap,Tr.conj,Tr.actS];rw [JC,xE,JC,tR,MP ma];exact (rD a2 _ _).symm
  | id=>simp only [Tr.ap,Tr.conj,Tr.actS]; rw [JC]; exact (rD a2 _ _).symm
  | row t' n' r' =>
   simp only [Tr.ap,Tr.conj,Tr.actS];rw [JC,JC,MP (row_ne ofx ofy sa)];exact (rD a2 _ _).symm
  | an A d =>
   simp only [Tr.conj,Tr.actS,Tr.ap_an,UI];simp only [Tr.ap,RL,JC];exact (rD a2 _ _).symm
  | obj t' n' S =>
   simp only [Tr.ap,Tr.conj,Tr.actS];rw [xE,JC];exact (rD a2 _ _).symm
 | an A d =>
  cases Ty0 with
  | rn=>exact absurd rfl (ny _ _ _ _)
  | ob2 t' n' S d' m r' =>
   simp only [Tr.conj,Tr.actS,Tr.ap_an,UI];simp only [Tr.ap,RL,EL,xE,JC];exact (rD a2 _ _).symm
  | id =>
   simp only [Tr.conj,Tr.actS,Tr.ap_an,UI];exact (rD a2 _ _).symm
  | row t' n' r' =>
   simp only [Tr.conj,Tr.actS,Tr.ap_an,UI];simp only [Tr.ap,RL,JC];exact (rD a2 _ _).symm
  | an A' d'=>exact (notT A d A' d' rfl rfl).elim
  | obj t' n' S =>
   simp only [Tr.conj,Tr.actS,Tr.ap_an,UI];simp only [Tr.ap,EL,xE];exact (rD a2 _ _).symm
 | obj t n S =>
  cases Ty0 with
  | rn=>exact absurd rfl (ny _ _ _ _)
  | ob2 t' n' S' d m r'=>exact absurd ofy.1.1 (by rw [show BT y.op=false from offy]; decide)
  | id=>simp only [Tr.ap,Tr.conj,Tr.actS]; rw [xE]; exact (rD a2 _ _).symm
  | row t' n' r' =>
   simp only [Tr.ap,Tr.conj,Tr.actS];rw [JC,xE];exact (rD a2 _ _).symm
  | an A d =>
   simp only [Tr.conj,Tr.actS,Tr.ap_an,UI];simp only [Tr.ap,EL,xE];exact (rD a2 _ _).symm
  | obj t' n' S'=>exact (notO t n S t' n' S' rfl rfl).elim
 | ob2 t n S d m r =>
  have hyO:BT y.op=false:=offy.1;cases Ty0 with
  | rn=>exact absurd rfl (ny _ _ _ _)
  | id=>simp only [Tr.ap,Tr.conj,Tr.actS]; rw [xE,JC]; exact (rD a2 _ _).symm
  | row t' n' r' =>
   have ma:=row_ne (x:=x) (y:=y) (J5 ofx) ofy sa;simp only [Tr.ap,Tr.conj,Tr.actS];rw [JC,xE,JC,<- tR,MP ma];exact (rD a2 _ _).symm
  | an A d' =>
   simp only [Tr.conj,Tr.actS,Tr.ap_an,UI];simp only [Tr.ap,RL,EL,xE,JC];exact (rD a2 _ _).symm
  | obj t' n' S'=>exact absurd ofy.1 (by rw [hyO]; decide)
  | ob2 t' n' S' d' m' r'=>exact absurd ofy.1.1 (by rw [hyO]; decide)
def Tr.kl (T:Tr) (w:wA):wA:=match T with
 | .rn (some p) _ _ _=>w.kill p.1 p.2
 | _=>w
theorem isN_eff {k:K} (hk:isN k=true) {v:wA} {e:TD} (h:k.run call s=some (v,e)):e=.none\/(∃ r,e=.new r)\/∃ q r,e=.rn q r:=by
 cases k with
 | appm cl e' z b x y =>
  simp only [K.run] at h;split at h
  ·split at h
   ·split at h
    ·split at h
     ·injection h with h; injection h with _ h; exact .inl h.symm
     ·injection h with h; injection h with _ h; exact .inr (.inl ⟨_,h.symm⟩)
    ·cases h
   ·cases h
  ·split at h
   ·split at h
    ·injection h with h; injection h with _ h; exact .inr (.inr ⟨_,_,h.symm⟩)
    ·cases h
   ·cases h
  ·cases h
 | appn cl e' z b x y =>
  simp only [K.run] at h;split at h
  ·split at h
   ·split at h
    ·injection h with h; injection h with _ h; exact .inr (.inl ⟨_,h.symm⟩)
    ·cases h
   ·cases h
  ·split at h
   ·split at h
    ·injection h with h; injection h with _ h; exact .inr (.inr ⟨_,_,h.symm⟩)
    ·cases h
   ·cases h
  ·cases h
 | _=>cases hk
theorem isN_tr {x:TA} (hk:isN x.op=true) {p:wA × TD} (hp:x.runG call s=some p) {n:Nat} {T:Tr} {v:wA} (ht:x.effT n p=some (T,v)):T=.id\/(∃ t m r,T=.row t m r)\/∃ q t m r,T=.rn q t m r:=by
 have he:p.2=.none\/(∃ r,p.2=.new r)\/∃ q r,p.2=.rn q r:=by
  unfold TA.runG at hp;split at hp
  ·exact isN_eff hk (v:=p.1) (e:=p.2) hp
  ·split at hp
   ·split at hp
    ·exact isN_eff hk (v:=p.1) (e:=p.2) hp
    ·injection hp with hp; subst hp; exact .inl rfl
   ·injection hp with hp; subst hp; exact .inl rfl
   ·cases hp
 obtain ⟨v0,e⟩:=p;rcases he with he | ⟨r,he⟩ | ⟨q,r,he⟩
 ·simp only at he; subst he; injection ht with ht; injection ht with h1 _; exact .inl h1.symm
 ·simp only at he;subst he;simp only [TA.effT] at ht;split at ht
  ·cases ht
  ·injection ht with ht; injection ht with h1 _; exact .inr (.inl ⟨_,_,_,h1.symm⟩)
 ·simp only at he;subst he;simp only [TA.effT] at ht;split at ht
  ·cases ht
  ·injection ht with ht; injection ht with h1 _; exact .inr (.inr ⟨_,_,_,_,h1.symm⟩)
theorem Q4 {T:Tr} (h:T=.id\/(∃ t m r,T=.row t m r)\/∃ q t m r,T=.rn q t m r) (s:aA) (d:Nat) (w:wA):T.ap (s.put (some d) w)=(T.ap s).put (some d) (T.kl w)/\∀ z,(T.ap s).env z=T.kl (s.env z):=by
 rcases h with rfl | ⟨t,m,r,rfl⟩ | ⟨q,t,m,r,rfl⟩
 ·exact ⟨rfl,fun _=>rfl⟩
 ·exact ⟨rfl,fun _=>rfl⟩
 ·cases q with
  | none=>exact ⟨rfl,fun _=>rfl⟩
  | some p =>
   refine ⟨?_,fun _=>rfl⟩;simp only [Tr.ap,aA.killO,aA.kill,aA.put,aA.setRow,Tr.kl];congr 1;funext j;by_cases hj:j=d <;> simp [hj]
theorem isMv_eq {y:TA} (h:isMv y=true):∃ d z,y=⟨d,.mv (.t z),none⟩:=by
 obtain ⟨d,k,g⟩:=y;unfold isMv at h;simp only at h;split at h
 ·exact ⟨_,_,rfl⟩
 ·cases h
theorem I6 {x y:TA} (xl:LJ x y=true) (hx:isN x.op=true) (hy:isMv y=true):(∀ s s1 s2,x.step call s=some s1->y.step call s1=some s2->∃ lr,y.step call s=some lr/\x.step call lr=some s2)/\∀ s s1 s2,y.step call s=some s1->x.step call s1=some s2->∃ lr,x.step call s=some lr/\y.step call lr=some s2:=by
 obtain ⟨d,z,rfl⟩:=isMv_eq hy;unfold LJ at xl;simp only [y7] at xl;obtain ⟨a1,a2⟩:=BN xl.1;obtain ⟨a3,a4⟩:=BN xl.2;have hz:∀ n,x.dst=some n->n≠z:=fun n hn e=>a1 n hn (by subst e; simp [TA.looks,K.opds])
 have hyr:∀ s:aA,(⟨d,.mv (.t z),none⟩:TA).step call s=some (s.put d ⟨(s.env z).v,(s.env z).a⟩):=fun _=>rfl
 have key:∀ (s:aA) (p:wA × TD) (T:Tr) (v:wA),x.runG call s=some p->x.effT s.next p=some (T,v)->(T.ap (s.put d (s.env z))).put x.dst v=((T.ap s).put x.dst v).put d ((((T.ap s).put x.dst v).env z))/\x.step call (s.put d (s.env z))=some ((T.ap (s.put d (s.env z))).put x.dst v):=fun s p T v hp hT=>by
  have hk:=isN_tr hx hp hT;constructor
  ·have he:((T.ap s).put x.dst v).env z=T.kl (s.env z):=by
    cases hd:x.dst with
    | none=>exact (Q4 hk s 0 v).2 z
    | some n =>
     simp only [aA.put];rw [if_neg (fun e=>hz n hd e.symm)];exact (Q4 hk s 0 v).2 z
   rw [he];cases d with
   | none=>rfl
   | some d =>
    rw [(Q4 hk s d _).1];exact (rD (fun n hn e=>a4 n hn e) _ _)
  ·rw [cO,nT (fun n hn=>a3 n hn),hp];have hn:(s.put d (s.env z)).next=s.next:=by cases d <;> rfl
   simp only [J,hn,hT,yr]
 refine ⟨fun s s1 s2 h1 h2=>?_,fun s s1 s2 h1 h2=>?_⟩
 ·rw [cO] at h1;obtain ⟨p,hp,h1⟩:=ye.1 h1;obtain ⟨⟨T,v⟩,hT,h1⟩:=yn.1 h1;simp only at h1;rw [hyr] at h2;injection h2 with h2;refine ⟨_,hyr s,?_⟩;obtain ⟨k1,k2⟩:=key s p T v hp hT;have k2':x.step call (s.put d ⟨(s.env z).v,(s.env z).a⟩)=some ((T.ap (s.put d (s.env z))).put x.dst v):=k2;rw [k2',k1,<- h2,<- h1]
 ·rw [hyr] at h1;injection h1 with h1;subst h1;have gr:x.step call (s.put d (s.env z))=some s2:=h2;rw [cO,nT (fun n hn=>a3 n hn)] at gr;obtain ⟨p,hp,gr⟩:=ye.1 gr;obtain ⟨⟨T,v⟩,hT,gr⟩:=yn.1 gr;have hn:(s.put d (s.env z)).next=s.next:=by cases d <;> rfl
  rw [hn] at hT;obtain ⟨k1,_⟩:=key s p T v hp hT;refine ⟨(T.ap s).put x.dst v,by rw [cO,hp]; simp only [J,hT,yr],?_⟩;rw [hyr,<- gr];simp only;rw [k1]
theorem B5 {x y:TA} (h:LJ x y=true):LJ y x=true:=by
 unfold LJ at h ⊢;rw [Bool.and_comm];exact h
theorem commute {x y:TA} (xl:LJ x y=true) (sa:oO x y=true) (h1:x.step call s=some s1) (h2:y.step call s1=some s2):∃ lr,y.step call s=some lr/\x.step call lr=some s2:=by
 unfold oO at sa;simp only [yT,y7] at sa;rcases sa with h | ⟨h,h'⟩ | ⟨h,h'⟩
 ·exact commute0 xl h h1 h2
 ·exact (I6 (B5 xl) h' h).2 s s1 s2 h1 h2
 ·exact (I6 xl h' h).1 s s1 s2 h1 h2
end
end
section
open Go Go.RowKit
section
variable {P:Program} {O:PH} {nt B:Nat} {F0:XO} {da:Av} {w0:World} {s s':aA} {a:Act} {w w':World} {ι:Ix} {Θ:CK} {call:JB} {lh:LH} {Q:Exit->Act->World->Prop}
def gsh (nt:Nat) (a:Act) (g:Nat->Value):Nat->Value:=fun t=>if t<nt then a.tmps.getD t undef else g (t - nt)
def XO.wait (F0:XO) (nt:Nat) (a:Act):XO:=⟨F0.b,F0.p,F0.r,F0.z,gsh nt a F0.g⟩
def aA.bare (s:aA):aA:={ s with env:=fun _=>⟨.undef,.no⟩ }
def D5 (P:Program) (O:PH) (B:Nat) (F0:XO) (da:Av) (w0:World) (s:aA) (w:World) (ι:Ix) (Θ:CK):Prop:=mC P O 0 B F0 da w0 (fun _=>False) s.bare ⟨#[],[]⟩ w ι Θ
def EH (ι:Ix) (Θ:CK) (av avb:Av) (w:World):List wA->List Value->Prop
 | [],us=>us=[]
 | x :: r,us=>∃ u ta,us=u :: ta/\tB ι av avb w x.v u/\DL Θ x.a u/\EH ι Θ av avb w r ta
theorem CR {av avb:Av}:∀ {xs ys:List wA} {us vs:List Value},EH ι Θ av avb w xs us->EH ι Θ av avb w ys vs->EH ι Θ av avb w (xs++ys) (us++vs)
 | [],_,_,_,h,h'=>by simp only [EH] at h; subst h; exact h'
 | x :: r,_,_,_,h,h'=>by
  simp only [EH] at h;obtain ⟨u,ta,rfl,h0,h1,h⟩:=h;exact ⟨u,ta++_,rfl,h0,h1,CR h h'⟩
def H3 (P:Program) (O:PH) (hp:HpT):Prop:=∀ f xs s k r,hp f xs s k=some r->(∀ vs w,(callFunc f vs).run P w=.ok (.enter f vs) w) ∧
 ∀ (B:Nat) (F0:XO) (da:Av) (w0 w:World) (ι:Ix) (Θ:CK) (us:List Value) (E:Ending->World->Prop),D5 P O B F0 da w0 s w ι Θ->EH ι Θ (KC da ι Θ) (DC ι Θ) w xs us →
  (∀ y s' w' ι' Θ' v,D5 P O B F0 da w0 s' w' ι' Θ'->tB ι' (KC da ι' Θ') (DC ι' Θ') w' y.v v->DL Θ' y.a v->k y s'=some r->E (.returned v) w')->Calls P f us.toArray w E
theorem mC.wait {D:Nat->Prop} (R:mC P O nt B F0 da w0 D s a w ι Θ):D5 P O B (F0.wait nt a) da w0 (s.enter nt) w ι Θ :=
 ⟨rfl,rfl,fun _=>trivial,fun _=>trivial,R.rows,fun t n b h=>let ⟨h1,h2,h3⟩:=R.mine t n b h; ⟨h1,h2,.inl (by simp only [aA.bare,aA.enter]; rcases h3 with h | h <;> omega)⟩,R.inj,R.tok,R.tinj,R.apart,R.out,R.pin,R.kept,R.base,R.objs,fun t n H h=>let ⟨h1,h2⟩:=R.obs t n H h; ⟨h1,.inl (by simp only [aA.bare,aA.enter]; rcases h2 with h | h <;> omega)⟩,fun t=>by
  simp only [aA.bare,aA.enter,XO.wait,gsh];split
  ·exact R.env t
  ·exact R.gen _,fun t=>by
  simp only [aA.bare,aA.enter,XO.wait,gsh];split
  ·exact R.ann t
  ·exact R.gann _⟩
theorem mC.resume {D D':Nat->Prop} {s':aA} {ι':Ix} {Θ':CK} (R:mC P O nt B F0 da w0 D s a w ι Θ) (R':D5 P O B (F0.wait nt a) da w0 s' w' ι' Θ'):mC P O nt B F0 da w0 D' (s'.leave nt) a w' ι' Θ' :=
 ⟨R.defers,R.size,fun t=>by
  have:=R'.gen t;simp only [aA.bare,XO.wait,gsh] at this;simp only [aA.leave];split
  ·rename_i h; rw [if_pos h] at this; exact this
  ·trivial,fun t=>by
  have:=R'.gann t;simp only [aA.bare,XO.wait,gsh] at this;simp only [aA.leave];split
  ·rename_i h; rw [if_pos h] at this; exact this
  ·trivial,R'.rows,fun t n b h=>let ⟨h1,h2,h3⟩:=R'.mine t n b h; ⟨h1,h2,h3.imp id fun h=>h.2.elim⟩,R'.inj,R'.tok,R'.tinj,R'.apart,R'.out,R'.pin,R'.kept,R'.base,R'.objs,fun t n H h=>let ⟨h1,h2⟩:=R'.obs t n H h; ⟨h1,h2.imp id fun h=>h.2.elim⟩,fun t=>by
  have:=R'.gen (t + nt);simp only [aA.bare,XO.wait,gsh] at this;rw [if_neg (by omega),Nat.add_sub_cancel] at this;exact this,fun t=>by
  have:=R'.gann (t + nt);simp only [aA.bare,XO.wait,gsh] at this;rw [if_neg (by omega),Nat.add_sub_cancel] at this;exact this⟩
theorem MR {D:Nat->Prop} (R:mC P O nt B F0 da w0 D s a w ι Θ):∀ {Xs:List Operand} {xs:List aC},bH Xs=some xs->EH ι Θ (KC da ι Θ) (DC ι Θ) w (fP s xs) (Xs.map a.eval)
 | [],xs,h=>by injection h with h; subst h; rfl
 | X :: Xs,xs,h=>by
  unfold bH at h;split at h
  ·rename_i x l hx hl;injection h with h;subst h;exact ⟨_,_,rfl,(R.opd hx).1,(R.opd hx).2,MR R hl⟩
  ·cases h
theorem W6 {av avb:Av}:∀ {cs:List AV} {us:List Value},CG ι av avb w cs us->EH ι Θ av avb w (cs.map (⟨·,.no⟩)) us
 | [],_,h=>h
 | x :: r,_,h=>by
  simp only [CG] at h;obtain ⟨u,ta,rfl,h0,h⟩:=h;refine ⟨u,ta,rfl,?_,trivial,W6 h⟩;cases x with
  | bp cs=>exact h0
  | int k n=>exact HD (x:=.int k n) h0
  | bool b=>exact HD (x:=.bool b) h0
  | str b=>exact HD (x:=.str b) h0
  | nilP=>exact HD (x:=.nilP) h0
  | ptr t n o=>exact HD (x:=.ptr t n o) h0
  | ip cs=>exact HD (x:=.ip cs) h0
  | sl n l=>exact HD (x:=.sl n l) h0
  | bl l=>exact HD (x:=.bl l) h0
  | ref a b c d e f=>exact HD (x:=.ref a b c d e f) h0
  | mp t n=>exact HD (x:=.mp t n) h0
  | fn f cs=>exact HD (x:=.fn f cs) h0
  | agg cs=>exact HD (x:=.agg cs) h0
  | tup cs=>exact HD (x:=.tup cs) h0
  | undef=>trivial
theorem L7 {D:Nat->Prop} (R:mC P O nt B F0 da w0 D s a w ι Θ) {lh:LH} (di:H3 P O lh.h) {o:Oper} {hs:Nat->Bool} {nt':Nat} {x:aC} {xs:List aC} (hk:W1 nt hs o.op=some (.callh nt' x xs)) (hd:∀ d,o.dst=some d->d<nt) {k:aA->Option RV} {r:RV} (hr:KO lh o.dst nt' x xs s k=some r)
  {Kn:Act->World->Prop} {Q:Exit->Act->World->Prop} (hK:∀ s' a' w',eE P O nt B F0 da w0 (fun t=>D t\/o.dst=some t) s' a' w'->k s'=some r->Kn a' w'):o.wp P a w Kn Q:=by
 have go:∀ {f:FuncId} {Xs:Array Operand} {cs:List AV} {us:List Value},nt'=nt->bH Xs.toList=some xs->CG ι (KC da ι Θ) (DC ι Θ) w cs us->lh.h f (fP s xs++cs.map (⟨·,.no⟩)) (s.enter nt) (fun y s'=>k ((s'.leave nt).put o.dst y))=some r->((∀ vs w,(callFunc f vs).run P w=.ok (.enter f vs) w)->(execOp a.eval o).run P w=.ok (.enter f (Xs.map a.eval++us.toArray)) w)->o.wp P a w Kn Q:=fun {f Xs cs us} hn hx io hh run=>by
  obtain ⟨h1,h2⟩:=di _ _ _ _ _ hh;unfold Oper.wp;rw [run h1,Oper.upon_enter];have sf:(Xs.toList.map a.eval++us).toArray=Xs.map a.eval++us.toArray:=by
   apply Array.ext';simp
  rw [<- sf];refine h2 B (F0.wait nt a) da w0 w ι Θ _ _ R.wait (CR (MR R hx) (W6 io)) fun y s' w' ι' Θ' v R' hv ha fe=>?_
  exact hK _ _ _ ⟨ι',Θ',((R.resume (D':=D) R').putN hd hv ha).more fun _ h=>.inl h⟩ fe
 unfold W1 at hk;split at hk
 ·rename_i f Xs ts ho;split at hk
  ·obtain ⟨l,hl,hk⟩:=yn.1 hk;injection hk with hn hx ed;subst hx;subst ed;simp only [KO,aC.get] at hr;refine go (cs:=[]) (us:=[]) hn.symm hl rfl (by rw [hn]; exact hr) fun md=>?_
   simp only [execOp,ho,resolve,Act.eval,Deferred.ofValue,Sem.run_bind,Sem.run_pure,Result.andThen_ok,invoke];have:=md (#[]++Xs.map a.eval++#[]) w;simp only [Array.empty_append,Array.append_empty] at this ⊢;exact this
  ·cases hk
 ·rename_i tf Xs ts ho;split at hk
  ·obtain ⟨l,hl,hk⟩:=yn.1 hk;injection hk with hn hx ed;subst hx;subst ed;simp only [KO,aC.get] at hr;split at hr
   ·rename_i f cs pr;have hF:=R.env tf;rw [pr] at hF;obtain ⟨us,sd,io⟩:=hF;refine go (cs:=cs) (us:=us.toList) hn.symm hl io (by rw [hn]; exact hr) fun md=>?_
    have hev:a.eval (.tmp tf)=.func (.func f) #[] us:=sd;simp only [execOp,ho,resolve,hev,Deferred.ofValue,Sem.run_bind,Sem.run_pure,Result.andThen_ok,invoke];have:=md (#[]++Xs.map a.eval++us) w;simp only [Array.empty_append] at this ⊢;exact this
   ·cases hr
  ·cases hk
 ·obtain ⟨_,_,h⟩:=yn.1 hk; cases h
 ·cases hk
theorem op_nxt {D:Nat->Prop} (R:mC P O nt B F0 da w0 D s a w ι Θ) {o:Oper} {X:Operand} {x:aC} (hx:opd X=some x) (ho:o.op=.next X false) (hd:∀ d,o.dst=some d->d<nt) {k:aA->Option RV} {r:RV} (hr:GX o.dst x s k=some r)
  {Kn:Act->World->Prop} {Q:Exit->Act->World->Prop} (hK:∀ s' a' w',eE P O nt B F0 da w0 (fun t=>D t\/o.dst=some t) s' a' w'->k s'=some r->Kn a' w'):o.wp P a w Kn Q:=by
 unfold GX at hr;cases hr
structure S5 (P:Program) (nt:Nat) (ops:Array Oper) (o:Oper) (c:TA):Prop where
 dst:c.dst=o.dst
 op:(isH c.op=false/\∃ cl mu b q,O6 P cl mu b q o.op=some c.op/\(mu≠none->o.dst≠none))\/∃ hs,W1 nt hs o.op=some c.op
 lt:∀ d,o.dst=some d->d<nt
 guard:match o.guard with
  | none=>c.guard=none
  | some (g,want)=>∃ t,(ops[g]?).bind (·.dst)=some t/\c.guard=some (t,want)
theorem cV {boxes:List Nat} {all:List Oper} {draw:Bool}:∀ {ops:List Oper} {cs:List TA},lS P boxes nt all draw ops=some cs->cs.length=ops.length/\∀ (i:Nat) (o:Oper),ops[i]?=some o->∃ c,cs[i]?=some c/\S5 P nt all.toArray o c
 | [],cs,h=>by injection h with h; subst h; exact ⟨rfl,fun i o ho=>by simp at ho⟩
 | o :: r,cs,h=>by
  unfold lS at h;split at h
  ·rename_i k l hk hl;split at h
   ·rename_i fa;have ga:∀ d,o.dst=some d->d<nt:=fun d hd=>by rw [hd] at fa; simpa [dstOk] using fa
    obtain ⟨h1,h2⟩:=cV hl;have fin:∀ c,cs=c :: l->S5 P nt all.toArray o c->cs.length=(o :: r).length/\∀ (i:Nat) (o':Oper),(o :: r)[i]?=some o'->∃ c,cs[i]?=some c/\S5 P nt all.toArray o' c:=fun c e hc=>by
     subst e;refine ⟨by simp [h1],fun i o' ho=>?_⟩;cases i with
     | zero=>simp at ho; subst ho; exact ⟨c,rfl,hc⟩
     | succ i=>simpa using h2 i o' (by simpa using ho)
    have ep:(match o.dst with | some d=>if boxes.contains (nt + 1 + (2 * d + 1)) then some true else if boxes.contains (nt + 1 + 2 * d) then some false else none | none=>none)≠none->o.dst≠none:=fun h e=>by rw [e] at h; exact h rfl
    have fb:(isH k=false/\∃ cl mu b q,O6 P cl mu b q o.op=some k/\(mu≠none->o.dst≠none))\/∃ hs,W1 nt hs o.op=some k:=by
     split at hk
     ·rename_i k' zc;injection hk with hk;exact .inr ⟨_,hk ▸ zc⟩
     ·obtain ⟨h1,h2⟩:=Option.filter_eq_some_iff.1 hk;exact .inl ⟨by simpa using h2,_,_,_,_,h1,ep⟩
    cases hg:o.guard with
    | none =>
     simp only [hg] at h;injection h with h;exact fin _ h.symm ⟨rfl,fb,ga,by rw [hg]⟩
    | some p =>
     obtain ⟨g,want⟩:=p;simp only [hg] at h;split at h
     ·rename_i t ht;injection h with h;exact fin _ h.symm ⟨rfl,fb,ga,by rw [hg]; exact ⟨t,by simpa using ht,rfl⟩⟩
     ·cases h
   ·cases h
  ·cases h
section
variable {D:Nat->Prop} (R:eE P O nt B F0 da w0 D s a w) (eb:∀ f args S r,call f args S=some r->DD P O f args S r)
include D R eb
theorem step_sound {ops:Array Oper} {i:Nat} {o:Oper} {c:TA} (ho:ops[i]?=some o) (ok:S5 P nt ops o c) (hD:∀ d,o.dst=some d->(N9 c.op||BT c.op)=true->¬ D d) (fb:∃ cl mu b q,O6 P cl mu b q o.op=some c.op/\(mu≠none->o.dst≠none)) (hs:c.step call s=some s')
  {Kn:Act->World->Prop} (hK:∀ a' w',eE P O nt B F0 da w0 (fun t=>D t\/o.dst=some t) s' a' w'->Kn a' w'):wpOp P ops Q i Kn a w:=by
 obtain ⟨ι,Θ,R⟩:=R;obtain ⟨cl,mu,b,q,fb,ep⟩:=fb;obtain ⟨cd,cop,cg⟩:=c;have ca:cd=o.dst:=ok.dst;subst ca;have main:cop.run call s≠none->(cop.run call s).bind (TA.eff ⟨o.dst,cop,cg⟩ s)=some s'->o.wp P a w Kn Q:=fun _ h=>by
  obtain ⟨xe,hx,he⟩:=ye.1 h;unfold O6 at fb;split at fb
  ·rename_i k hk;injection fb with fb;subst fb;exact op_sound R eb hk ep ok.lt hD hx he hK
  ·split at fb
   ·injection fb with fb;subst fb;cases hx
   ·cases fb
 have main':(cop.run call s).bind (TA.eff ⟨o.dst,cop,cg⟩ s)=some s'->o.wp P a w Kn Q:=fun h=>main (fun e=>by rw [e] at h; cases h) h
 unfold wpOp;simp only [ho];have tx:tB ι (KC da ι Θ) (DC ι Θ) w (.tup []) undef:=⟨#[],rfl,rfl⟩;have hg:=ok.guard;cases fu:o.guard with
 | none =>
  rw [fu] at hg;simp only at hg;subst hg;have:Region.wanted o (yielded ops a.tmps)=true:=by simp [Region.wanted,fu]
  rw [if_pos this];exact .inl (main' hs)
 | some p =>
  obtain ⟨g,want⟩:=p;rw [fu] at hg;obtain ⟨t,ht,hg⟩:=hg;simp only at hg;subst hg;unfold TA.step at hs;simp only at hs;split at hs
  ·rename_i b hb;have hr:=R.env t;rw [hb,LB] at hr;have hy:yielded ops a.tmps g=some b:=by
    unfold yielded;rw [ht];simp only [J];rw [Y01] at hr;cases hh:a.tmps[t]? with
    | none=>rw [hh] at hr; simp [undef] at hr
    | some v=>rw [hh] at hr; simp only [Option.getD_some] at hr; subst hr; rfl
   have hw:Region.wanted o (yielded ops a.tmps)=(b == want):=by
    simp only [Region.wanted,fu,hy];cases b <;> cases want <;> rfl
   rw [hw];split at hs
   ·rename_i e;subst e;rw [if_pos (by simp)];exact .inl (main' hs)
   ·rename_i e;injection hs with hs;subst hs;rw [if_neg (by simpa using e)];exact hK _ _ ⟨ι,Θ,(R.putN ok.lt (x:=⟨.tup [],.no⟩) tx trivial).more fun _ h=>.inl h⟩
  ·rename_i hb;have hr:=R.env t;rw [hb] at hr;obtain ⟨us,hv,zd⟩:=hr;have hy:yielded ops a.tmps g=none:=by
    unfold yielded;rw [ht];simp only [J];rw [Y01] at hv;cases hh:a.tmps[t]? with
    | none=>rfl
    | some v=>rw [hh] at hv; simp only [Option.getD_some] at hv; subst hv; rfl
   have hw:Region.wanted o (yielded ops a.tmps)=false:=by
    simp only [Region.wanted,fu,hy];cases want <;> rfl
   rw [hw];injection hs with hs;subst hs;rw [if_neg (by decide)];exact hK _ _ ⟨ι,Θ,(R.putN ok.lt (x:=⟨.tup [],.no⟩) tx trivial).more fun _ h=>.inl h⟩
  ·cases hs
theorem HV (di:H3 P O lh.h) {ops:Array Oper} {i:Nat} {o:Oper} {c:TA} (ho:ops[i]?=some o) (ok:S5 P nt ops o c) (hD:∀ d,o.dst=some d->(N9 c.op||BT c.op)=true->¬ D d) {k:aA->Option RV} {r:RV} (hs:c.stepK call lh s k=some r)
  {Kn:Act->World->Prop} (hK:∀ s' a' w',eE P O nt B F0 da w0 (fun t=>D t\/o.dst=some t) s' a' w'->k s'=some r->Kn a' w'):wpOp P ops Q i Kn a w:=by
 rcases ok.op with ⟨hH,fb⟩ | ⟨cj,fb⟩
 ·have hb:(c.step call s).bind k=some r:=by
   unfold TA.stepK at hs;split at hs
   ·rename_i h; rw [h] at hH; cases hH
   ·rename_i h; rw [h] at hH; cases hH
   ·exact hs
  obtain ⟨s1,h1,h2⟩:=ye.1 hb;exact step_sound R eb ho ok hD fb h1 fun a' w' R'=>hK s1 a' w' R' h2
 ·obtain ⟨cd,cop,cg⟩:=c;have ca:cd=o.dst:=ok.dst;subst ca;simp only at fb;obtain ⟨ι,Θ,R⟩:=R;obtain ⟨st,lc,main'⟩:∃ st,TA.stepK call lh ⟨o.dst,cop,cg⟩ s k=BJ s o.dst cg st k/\(st=some r->o.wp P a w Kn Q):=by
   have tj:=fb;unfold W1 at tj;split at tj
   ·split at tj
    ·obtain ⟨_,_,h⟩:=yn.1 tj; subst h; exact ⟨_,rfl,fun h=>L7 R di fb ok.lt h hK⟩
    ·cases tj
   ·split at tj
    ·obtain ⟨_,_,h⟩:=yn.1 tj; subst h; exact ⟨_,rfl,fun h=>L7 R di fb ok.lt h hK⟩
    ·cases tj
   ·rename_i X hox;obtain ⟨x,hx,h⟩:=yn.1 tj;subst h;exact ⟨_,rfl,fun h=>op_nxt R hx hox ok.lt h hK⟩
   ·cases tj
  rw [lc] at hs;unfold wpOp;simp only [ho];have tx:tB ι (KC da ι Θ) (DC ι Θ) w (.tup []) undef:=⟨#[],rfl,rfl⟩;have hg:=ok.guard;cases fu:o.guard with
  | none =>
   rw [fu] at hg;simp only at hg;subst hg;have:Region.wanted o (yielded ops a.tmps)=true:=by simp [Region.wanted,fu]
   rw [if_pos this];exact .inl (main' hs)
  | some p =>
   obtain ⟨g,want⟩:=p;rw [fu] at hg;obtain ⟨t,ht,hg⟩:=hg;simp only at hg;subst hg;unfold BJ at hs;simp only at hs;split at hs
   ·rename_i b hb;have hr:=R.env t;rw [hb,LB] at hr;have hy:yielded ops a.tmps g=some b:=by
     unfold yielded;rw [ht];simp only [J];rw [Y01] at hr;cases hh:a.tmps[t]? with
     | none=>rw [hh] at hr; simp [undef] at hr
     | some v=>rw [hh] at hr; simp only [Option.getD_some] at hr; subst hr; rfl
    have hw:Region.wanted o (yielded ops a.tmps)=(b == want):=by
     simp only [Region.wanted,fu,hy];cases b <;> cases want <;> rfl
    rw [hw];split at hs
    ·rename_i e;subst e;rw [if_pos (by simp)];exact .inl (main' hs)
    ·rename_i e;rw [if_neg (by simpa using e)];exact hK _ _ _ ⟨ι,Θ,(R.putN ok.lt (x:=⟨.tup [],.no⟩) tx trivial).more fun _ h=>.inl h⟩ hs
   ·rename_i hb;have hr:=R.env t;rw [hb] at hr;obtain ⟨us,hv,zd⟩:=hr;have hy:yielded ops a.tmps g=none:=by
     unfold yielded;rw [ht];simp only [J];rw [Y01] at hv;cases hh:a.tmps[t]? with
     | none=>rfl
     | some v=>rw [hh] at hv; simp only [Option.getD_some] at hv; subst hv; rfl
    have hw:Region.wanted o (yielded ops a.tmps)=false:=by
     simp only [Region.wanted,fu,hy];cases want <;> rfl
    rw [hw];rw [if_neg (by decide)];exact hK _ _ _ ⟨ι,Θ,(R.putN ok.lt (x:=⟨.tup [],.no⟩) tx trivial).more fun _ h=>.inl h⟩ hs
   ·cases hs
end
theorem eE.next {D:Nat->Prop} (R:eE P O nt B F0 da w0 D s a w):eE P O nt B F0 da w0 (fun _=>False) { s with next:=s.next + 1 } a w:=by
 obtain ⟨ι,Θ,R⟩:=R;exact ⟨ι,Θ,R.defers,R.size,R.env,R.ann,R.rows,fun t n b h=>let ⟨h1,h2,h3⟩:=R.mine t n b h; ⟨h1,h2,.inl (by rcases h3 with h | h <;> simp only <;> omega)⟩,R.inj,R.tok,R.tinj,R.apart,R.out,R.pin,R.kept,R.base,R.objs,fun t n H h=>let ⟨h1,h2⟩:=R.obs t n H h; ⟨h1,.inl (by rcases h2 with h | h <;> simp only <;> omega)⟩,R.gen,R.gann⟩
theorem iX {cs:List TA} (h:mS cs=true) {i j:Nat} {x y:TA} (hx:cs[i]?=some x) (hy:cs[j]?=some y) (ma:i≠j) (hA:(N9 y.op||BT y.op)=true) (cv:y.dst.isSome=true):x.dst≠y.dst:=by
 have hj:=(y9.1 hy).1;have hi:=(y9.1 hx).1;have h1:=y6.1 h j (List.mem_range.2 hj);rw [hy] at h1;simp only [hA,cv,Bool.true_and,Bool.not_true,Bool.false_or] at h1;have h2:=y6.1 h1 i (List.mem_range.2 hi);rw [hx] at h2;simp only [yT] at h2;rcases h2 with h2 | h2
 ·exact absurd (by simpa using h2) ma
 ·simpa using h2
theorem O2 {ops:Array Oper} {cs:List TA} (eb:∀ f args S r,call f args S=some r->DD P O f args S r) (di:H3 P O lh.h) (sa:∀ (i:Nat) (o:Oper),ops[i]?=some o->∃ c,cs[i]?=some c/\S5 P nt ops o c) (ia:cs.length=ops.size) (hf:mS cs=true) {k:aA->Option RV} {r:RV} :
  ∀ (n i:Nat) (s:aA) (a:Act) (w:World),i + n=ops.size->eE P O nt B F0 da w0 (fun t=>∃ j c,j<i/\cs[j]?=some c/\c.dst=some t) s a w->OG call lh (cs.drop i) s k=some r →
   (∀ s' a' w',eE P O nt B F0 da w0 (fun _=>True) s' a' w'->k s'=some r->Q .normal a' w')->wpOps P ops Q (List.range' i n) a w
 | 0,i,s,a,w,hi,R,hr,hQ=>by
  have:cs.drop i=[]:=yk (by omega);rw [this] at hr;obtain ⟨ι,Θ,R⟩:=R;exact hQ s a w ⟨ι,Θ,R.more fun _ _=>trivial⟩ hr
 | n + 1,i,s,a,w,hi,R,hr,hQ=>by
  have fa:i<ops.size:=by omega
  obtain ⟨c,hc,ok⟩:=sa i ops[i] (Y03 fa);have fc:i<cs.length:=by omega
  have hci:cs[i]=c:=(y9.1 hc).2;rw [yb fc,hci] at hr;unfold OG at hr;rw [List.range'_succ,wpOps_cons];refine HV R eb di (Y03 fa) ok (fun d hd hA ⟨j,c',hj,ae,aj⟩=>?_) hr fun s' a' w' R' hk=>?_
  ·exact iX hf ae hc (by omega) hA (by rw [ok.dst,hd]; rfl) (by rw [aj,ok.dst,hd])
  ·refine O2 eb di sa ia hf n (i + 1) s' a' w' (by omega) ?_ hk hQ;obtain ⟨ι,Θ,R'⟩:=R';refine ⟨ι,Θ,R'.more fun t ht=>?_⟩;rcases ht with ⟨j,c',hj,ae,aj⟩ | ht
   ·exact ⟨j,c',by omega,ae,aj⟩
   ·exact ⟨i,c,by omega,hc,by rw [ok.dst,ht]⟩
end
end
section
open Go Go.RowKit
section
variable {P:Program} {O:PH} {nt B:Nat} {F0:XO} {da:Av} {w0:World} {s s':aA} {a:Act} {w w':World} {call:JB} {lh:LH} {Q:Exit->Act->World->Prop}
noncomputable def uK (call:JB) (lh:LH) (cs:List TA):List Nat->aA->(aA->Option RV)->Option RV
 | [],s,k=>k s
 | i :: r,s,k=>match cs[i]? with
  | some c=>c.stepK call lh s fun s=>uK call lh cs r s k
  | none=>none
theorem HY (cs:List TA) (k:aA->Option RV):∀ (n i:Nat) (s:aA),i + n=cs.length->OG call lh (cs.drop i) s k=uK call lh cs (List.range' i n) s k
 | 0,i,s,h=>by rw [yk (by omega)]; rfl
 | n + 1,i,s,h=>by
  have fa:i<cs.length:=by omega
  rw [yb fa,List.range'_succ];unfold OG uK;rw [y5 fa];simp only;congr 1;funext s1;exact HY cs k n (i + 1) s1 (by omega)
theorem AI {c:TA} (h:isH c.op=false) (s:aA) (k:aA->Option RV):c.stepK call lh s k=(c.step call s).bind k:=by
 unfold TA.stepK;split
 ·rename_i e; rw [e] at h; cases h
 ·rename_i e; rw [e] at h; cases h
 ·rfl
theorem isM_H {k:K} (h:isM k=false):isH k=false:=by
 cases k <;> first | rfl | cases h
theorem pair_H {x y:TA} (h:oO x y=true):isH x.op=false/\isH y.op=false:=by
 have hN:∀ {k:K},isN k=true->isH k=false:=fun {k} h=>by cases k <;> first | rfl | cases h
 have hV:∀ {o:TA},isMv o=true->isH o.op=false:=fun h=>by obtain ⟨d,z,rfl⟩:=isMv_eq h; rfl
 unfold oO at h;simp only [yT,y7] at h;rcases h with h | ⟨h,h'⟩ | ⟨h,h'⟩
 ·unfold gI at h;simp only [y7] at h;exact ⟨isM_H (by simpa using h.1.1.1.1.1.1.1),isM_H (by simpa using h.1.1.1.1.1.1.2)⟩
 ·exact ⟨hV h,hN h'⟩
 ·exact ⟨hN h',hV h⟩
theorem bubble0 {cs:List TA} {i:Nat} {c:TA} (hc:cs[i]?=some c) (hH:isH c.op=false) {L2:List Nat} {k:aA->Option RV} {r:RV}:∀ {L1:List Nat} {s:aA},(∀ r∈L1,∃ cr,cs[r]?=some cr/\LJ cr c=true/\oO cr c=true)->uK call lh cs (L1++i :: L2) s k=some r →
  ∃ s1,c.step call s=some s1/\uK call lh cs (L1++L2) s1 k=some r
 | [],s,_,h=>by
  simp only [List.nil_append,uK,hc,AI hH] at h;obtain ⟨s1,h1,h2⟩:=ye.1 h;exact ⟨s1,h1,h2⟩
 | q :: L1,s,hL,h=>by
  obtain ⟨cr,hr,ha,ho⟩:=hL q (yl);simp only [yR,uK,hr,AI (pair_H ho).1] at h;obtain ⟨s1,h1,h2⟩:=ye.1 h;obtain ⟨s2,h3,h4⟩:=bubble0 hc hH (fun q hq=>hL q (yo _ hq)) h2;obtain ⟨lr,h5,h6⟩:=commute ha ho h1 h3;refine ⟨lr,h5,?_⟩;simp only [yR,uK,hr,AI (pair_H ho).1,h6,J];exact h4
theorem bubble {cs:List TA} {i:Nat} {c:TA} (hc:cs[i]?=some c) {L2:List Nat} {k:aA->Option RV} {r:RV} {L1:List Nat} {s:aA} (hL:∀ r∈L1,∃ cr,cs[r]?=some cr/\LJ cr c=true/\oO cr c=true) (h:uK call lh cs (L1++i :: L2) s k=some r) :
  c.stepK call lh s (fun s1=>uK call lh cs (L1++L2) s1 k)=some r:=by
 cases L1 with
 | nil=>simpa only [List.nil_append,uK,hc] using h
 | cons q L1 =>
  obtain ⟨cr,hr,ha,ho⟩:=hL q (yl);have hH:=(pair_H ho).2;obtain ⟨s1,h1,h2⟩:=bubble0 hc hH hL h;rw [AI hH,h1,J];exact h2
theorem E2 {o:Oper} {e:Nat}:e∈nK o ↔ ∃ d∈o.after,Region.binds .any d=true/\d.on=e:=by
 unfold nK;rw [List.mem_filterMap];constructor
 ·rintro ⟨d,hd,h⟩;split at h
  ·rename_i hb; injection h with h; exact ⟨d,by simpa using hd,hb,h⟩
  ·cases h
 ·rintro ⟨d,hd,hb,rfl⟩;exact ⟨d,by simpa using hd,by rw [if_pos hb]⟩
theorem bf_spec {ops:List Oper} {bf:List Nat} (h:bfOk ops bf=true) {i:Nat} {o:Oper} (ho:ops[i]?=some o):(∀ e∈nK o,e<i)/\∀ r,r<i->(bf.getD i 0).testBit r=true->∃ e∈nK o,e=r\/(r<e/\(bf.getD e 0).testBit r=true):=by
 have hi:=(y9.1 ho).1;have h1:=y6.1 h i (List.mem_range.2 hi);rw [ho] at h1;simp only [y7] at h1;refine ⟨fun e he=>by simpa using y6.1 h1.1 e he,fun r hr hb=>?_⟩;have h2:=y6.1 h1.2 r (List.mem_range.2 hr);simp only [hb,Bool.not_true,Bool.false_or,List.any_eq_true,yT,beq_iff_eq,y7,decide_eq_true_eq] at h2;exact h2
theorem H0 {ops:List Oper} {bf:List Nat} (h:bfOk ops bf=true) {L:List Nat} (fc:∀ (j:Nat) (o:Oper),ops[j]?=some o->j ∉ L->∀ e∈nK o,e ∉ L):∀ (n i:Nat) (o:Oper),i<n->ops[i]?=some o->(∀ e∈nK o,e ∉ L)->∀ r,r<i->(bf.getD i 0).testBit r=true->r ∉ L
 | 0,i,o,hn,_,_,_,_,_=>by omega
 | n + 1,i,o,hn,ho,hed,r,hr,hb=>by
  obtain ⟨h1,h2⟩:=bf_spec h ho;obtain ⟨e,he,hor⟩:=h2 r hr hb;rcases hor with rfl | ⟨bj,hbe⟩
  ·exact hed _ he
  ·have hei:=h1 e he;have fa:i<ops.length:=(y9.1 ho).1;have hoe:ops[e]?=some ops[e]:=y5 (by omega);exact H0 h fc n e _ (by omega) hoe (fc e _ hoe (hed e he)) r bj hbe
theorem draw_pair {ops:List Oper} {cs:List TA} (h:HT ops cs=true) {i j:Nat} (hj:j<ops.length) (hij:i<j) (hb:((aQ ops).getD j 0).testBit i=false):∃ x y,cs[i]?=some x/\cs[j]?=some y/\LJ x y=true/\oO x y=true:=by
 unfold HT at h;simp only [y7] at h;have h1:=y6.1 h.2 j (List.mem_range.2 hj);have h2:=y6.1 h1 i (List.mem_range.2 hij);rw [hb,Bool.false_or] at h2;split at h2
 ·rename_i x y hx hy;simp only [y7] at h2;exact ⟨x,y,hx,hy,h2.1,h2.2⟩
 ·cases h2
theorem P0 {ops:Array Oper} {cs:List TA} (eb:∀ f args S r,call f args S=some r->DD P O f args S r) (di:H3 P O lh.h) (sa:∀ (i:Nat) (o:Oper),ops[i]?=some o->∃ c,cs[i]?=some c/\S5 P nt ops o c) (ia:cs.length=ops.size) (hf:mS cs=true) (hdr:HT ops.toList cs=true) {k:aA->Option RV} {r:RV}
  (hQ:∀ s' a' w',eE P O nt B F0 da w0 (fun _=>True) s' a' w'->k s'=some r->Q .normal a' w') :
  ∀ (fuel:Nat) (L:List Nat) (listed:Array Bool) (s:aA) (a:Act) (w:World),L.length=fuel->(∀ i,i<ops.size->(listed.getD i true=false ↔ i∈L))->listed.size=ops.size->L.Pairwise (·<·)->(∀ i∈L,i<ops.size) →
   (∀ (j:Nat) (o:Oper),ops.toList[j]?=some o->j ∉ L->∀ e∈nK o,e ∉ L)->eE P O nt B F0 da w0 (fun t=>∃ j c,j ∉ L/\cs[j]?=some c/\c.dst=some t) s a w->uK call lh cs L s k=some r->wpAny P .any ops Q fuel listed a w
 | 0,L,listed,s,a,w,hl,hlist,tb,_,_,_,R,hr=>by
  have:L=[]:=yM hl;subst this;refine ⟨?_,?_⟩
  ·refine List.eq_nil_iff_forall_not_mem.2 fun i hi=>?_
   obtain ⟨tx,o,ho,_⟩:=mem_ready.1 hi;have nd:=(Array.getElem?_eq_some_iff.1 ho).1;have:=(hlist i nd).1 tx;cases this
  ·obtain ⟨ι,Θ,R⟩:=R;exact hQ s a w ⟨ι,Θ,R.more fun _ _=>trivial⟩ hr
 | fuel + 1,L,listed,s,a,w,hl,hlist,tb,hsort,pe,fc,R,hr=>by
  have hbf:bfOk ops.toList (aQ ops.toList)=true:=by
   unfold HT at hdr;simp only [y7] at hdr;exact hdr.1
  refine ⟨fun hnone=>?_,fun i hi=>?_⟩
  ·exfalso;cases L with
   | nil=>simp at hl
   | cons i0 L0 =>
    have jg:=pe i0 (yl);have ho:ops.toList[i0]?=some ops[i0]:=by simp [jg]
    have la:i0∈Region.ready .any ops listed:=by
     refine mem_ready.2 ⟨(hlist i0 jg).2 (yl),ops[i0],Y03 jg,fun e he hb=>?_⟩;have fa:=(bf_spec hbf ho).1 e.on (E2.2 ⟨e,he,hb,rfl⟩);have hnot:e.on ∉ i0 :: L0:=fun hm=>by
      rcases yg.1 hm with h | h
      ·omega
      ·have:=(List.pairwise_cons.1 hsort).1 _ h; omega
     have h1:listed.getD e.on true≠false:=fun h=>hnot ((hlist e.on (by omega)).1 h)
     have hs:e.on<listed.size:=by omega
     simp only [Y01,Y03 hs,Option.getD_some] at h1 ⊢;simpa using h1
    rw [hnone] at la;cases la
  ·obtain ⟨tx,o,ho,hed⟩:=mem_ready.1 hi;have nd:=(Array.getElem?_eq_some_iff.1 ho).1;have hiL:=(hlist i nd).1 tx;have hol:ops.toList[i]?=some o:=by simpa using ho
   have hedL:∀ e∈nK o,e ∉ L:=fun e he=>by
    obtain ⟨d,hd,hb,rfl⟩:=E2.1 he;have h1:=hed d hd hb;intro hm;have fa:=pe _ hm;have h2:=(hlist _ fa).2 hm;have hs:d.on<listed.size:=by omega
    simp only [Y01,Y03 hs,Option.getD_some] at h1 h2;rw [h1] at h2;cases h2
   obtain ⟨L1,L2,rfl⟩:=List.append_of_mem hiL;obtain ⟨c,hc,ok⟩:=sa i o ho;have rh:=List.pairwise_append.1 hsort;have hL1:∀ r∈L1,∃ cr,cs[r]?=some cr/\LJ cr c=true/\oO cr c=true:=fun r hr=>by
    have hri:r<i:=rh.2.2 r hr i (yl);have hbit:((aQ ops.toList).getD i 0).testBit r=false:=by
     cases hb:((aQ ops.toList).getD i 0).testBit r with
     | false=>rfl
     | true=>exact absurd (yS _ hr) (H0 hbf fc (i + 1) i o (by omega) hol hedL r hri hb)
    obtain ⟨x,y,hx,hy,h1,h2⟩:=draw_pair hdr (by simpa using nd) hri hbit;rw [hc] at hy;injection hy with hy;subst hy;exact ⟨x,hx,h1,h2⟩
   have h1:=bubble hc hL1 hr;have hnd:i ∉ L1++L2:=fun hm=>by
    rcases yx.1 hm with h | h
    ·have:=rh.2.2 i h i (yl); omega
    ·have:=(List.pairwise_cons.1 rh.2.1).1 i h; omega
   have je:∀ j,j ∉ L1++i :: L2 ↔ (j ∉ L1++L2/\j≠i):=fun j=>by
    simp only [yx,yg,not_or];exact ⟨fun ⟨h1,h2,h3⟩=>⟨⟨h1,h3⟩,h2⟩,fun ⟨⟨h1,h3⟩,h2⟩=>⟨h1,h2,h3⟩⟩
   refine HV R eb di ho ok (fun d hd hA ⟨j,c',hj,ae,aj⟩=>?_) h1 fun s1 a' w' R' h2=>?_
   ·have:j≠i:=((je j).1 hj).2;exact iX hf ae hc this hA (by rw [ok.dst,hd]; rfl) (by rw [aj,ok.dst,hd])
   ·refine P0 eb di sa ia hf hdr hQ fuel (L1++L2) (listed.setIfInBounds i true) s1 a' w' (by simp at hl ⊢; omega) (fun j hj=>?_) (by simpa using tb) ?_ (fun j hj=>pe j ?_) (fun j o' ho' hj e he hm=>?_) ?_ h2
    ·have hjs:j<listed.size:=by omega
     by_cases e:i=j
     ·subst e;simp only [Y01,Array.getElem?_setIfInBounds,if_true,hjs,Option.getD_some];exact ⟨fun h=>by simp at h,fun h=>absurd h hnd⟩
     ·simp only [Y01,Array.getElem?_setIfInBounds,if_neg e];have:=hlist j hj;simp only [Y01] at this;rw [this];simp only [yx,yg];exact ⟨fun h=>by rcases h with h | h | h; exact .inl h; exact absurd h.symm e; exact .inr h,fun h=>by rcases h with h | h; exact .inl h; exact .inr (.inr h)⟩
    ·exact List.pairwise_append.2 ⟨rh.1,(List.pairwise_cons.1 rh.2.1).2,fun x hx y hy=>rh.2.2 x hx y (yo _ hy)⟩
    ·rcases yx.1 hj with h | h
     ·exact yS _ h
     ·exact List.mem_append_right _ (yo _ h)
    ·have tc:e∈L1++i :: L2:=by
      rcases yx.1 hm with h | h
      ·exact yS _ h
      ·exact List.mem_append_right _ (yo _ h)
     by_cases e':j=i
     ·subst e';rw [hol] at ho';injection ho' with ho';subst ho';exact hedL e he tc
     ·exact fc j o' ho' ((je j).2 ⟨hj,e'⟩) e he tc
    ·obtain ⟨ι,Θ,R'⟩:=R';refine ⟨ι,Θ,R'.more fun t ht=>?_⟩;rcases ht with ⟨j,c',hj,ae,aj⟩ | ht
     ·exact ⟨j,c',((je j).1 hj).1,ae,aj⟩
     ·exact ⟨i,c,hnd,hc,by rw [ok.dst,ht]⟩
theorem C4 (hm:P.follows .mixedOrders=true) (eb:∀ f args S r,call f args S=some r->DD P O f args S r) (di:H3 P O lh.h) {boxes:List Nat} {id:Nat} {ops:Array Oper} {draw:Bool} {cs:List TA} (hc:lS P boxes nt ops.toList draw ops.toList=some cs) (hf:mS cs=true) (hd:draw=true->HT ops.toList cs=true)
  (R:eE P O nt B F0 da w0 (fun _=>False) s a w) {k:aA->Option RV} {r:RV} (hr:OG call lh cs s k=some r) (hQ:∀ s' a' w',eE P O nt B F0 da w0 (fun _=>False) { s' with next:=s'.next + 1 } a' w'->k s'=some r->Q .normal a' w'):(Code.region id ops draw).wp P Q a w:=by
 obtain ⟨ia,mj⟩:=cV hc;have ou:cs.length=ops.size:=by simpa using ia
 have sa:∀ (i:Nat) (o:Oper),ops[i]?=some o->∃ c,cs[i]?=some c/\S5 P nt ops o c:=fun i o ho=>by
  have:=mj i o (by simpa using ho);rw [yX] at this;exact this
 have hQ':∀ s' a' w',eE P O nt B F0 da w0 (fun _=>True) s' a' w'->k s'=some r->Q .normal a' w':=fun s' a' w' h hk=>hQ s' a' w' h.next hk
 cases draw with
 | false =>
  refine wp_region ?_;rw [List.range_eq_range'];refine O2 eb di sa ou hf ops.size 0 s a w (by omega) ?_ (by simpa using hr) hQ';obtain ⟨ι,Θ,R⟩:=R;exact ⟨ι,Θ,R.more fun _ h=>h.elim⟩
 | true =>
  refine wp_region_any hm ?_;have ja:uK call lh cs (List.range' 0 ops.size) s k=some r:=by
   rw [<- ou,<- HY cs k cs.length 0 s (by omega)];simpa using hr
  refine P0 eb di sa ou hf (hd rfl) hQ' ops.size (List.range' 0 ops.size) _ s a _ (by simp) (fun i hi=>?_) (by simp) List.pairwise_lt_range' (fun i hi=>?_) (fun j o ho hj=>?_) ?_ ja
  ·simp [hi]
  ·simpa using hi
  ·have:=(y9.1 ho).1;exact absurd (by simpa using this) (by simpa using hj)
  ·obtain ⟨ι,Θ,R⟩:=R;exact ⟨ι,Θ,(R.grow (w':=w.drew) (fun _ _=>rfl) (yj _) R.kept.drew).more fun _ h=>h.elim⟩
end
end
section
open Go Go.RowKit
section
variable {P:Program} {O:PH} {nt B:Nat} {F0:XO} {da:Av} {w0:World} {s s':aA} {a:Act} {w w':World} {call:JB} {lp:LH}
def exOf:Ex->Exit
 | .nrm=>.normal
 | .exit id=>.exit id
 | .ret=>.ret
def LpOk (P:Program) (O:PH) (N:Nat) (lp:LpT):Prop :=
 ∀ (boxes:List Nat) (nt B:Nat) (F0:XO) (da:Av) (w0:World) (code:Code) (b:C) (s:aA) (k:Ex->aA->Option RV) (r:RV) (a:Act) (w:World) (Q:Exit->Act->World->Prop),comp P boxes nt code=some b->lp b s k=some r->eE P O nt B F0 da w0 (fun _=>False) s a w →
  (∀ e s' a' w',eE P O nt B F0 da w0 (fun _=>False) s' a' w'->k e s'=some r->Q (exOf e) a' w')->Code.rounds P code Q N a w
theorem zF (hm:P.follows .mixedOrders=true) (eb:∀ f args S r,call f args S=some r->DD P O f args S r) {N:Nat} (ui:LpOk P O N lp.l) (di:H3 P O lp.h) {boxes:List Nat} :
  ∀ (code:Code) (c:C) (s:aA) (k:Ex->aA->Option RV) (r:RV) (a:Act) (w:World) (Q:Exit->Act->World->Prop),comp P boxes nt code=some c->c.run call lp s k=some r->eE P O nt B F0 da w0 (fun _=>False) s a w →
   (∀ e s' a' w',eE P O nt B F0 da w0 (fun _=>False) s' a' w'->k e s'=some r->Q (exOf e) a' w')->code.wp P Q a w
 | .skip,c,s,k,r,a,w,Q,hc,hr,R,hk=>by
  injection hc with hc;subst hc;exact wp_skip (hk .nrm s a w R hr)
 | .seq x y,c,s,k,r,a,w,Q,hc,hr,R,hk=>by
  unfold comp at hc;split at hc
  ·rename_i cx cy hx hy;injection hc with hc;subst hc;refine wp_seq (zF hm eb ui di x cx s _ r a w _ hx hr R fun e s' a' w' R' he=>?_);cases e with
   | nrm=>exact zF hm eb ui di y cy s' k r a' w' Q hy he R' hk
   | exit id=>exact hk _ _ _ _ R' he
   | ret=>exact hk _ _ _ _ R' he
  ·cases hc
 | .region id ops draw,c,s,k,r,a,w,Q,hc,hr,R,hk=>by
  unfold comp at hc;split at hc
  ·rename_i cs io;split at hc
   ·rename_i sa;injection hc with hc;subst hc;simp only [y7,yT] at sa;simp only [C.run] at hr;exact C4 hm eb di io sa.1 (fun h=>by rcases sa.2 with h' | h'; rw [h] at h'; cases h'; exact h') R hr fun s' a' w' R' zc=>hk .nrm _ _ _ R' zc
   ·cases hc
  ·cases hc
 | .cond x t e,c,s,k,r,a,w,Q,hc,hr,R,hk=>by
  unfold comp at hc;split at hc
  ·rename_i cx ct ce hx ht he;injection hc with hc;subst hc;simp only [C.run] at hr;split at hr
   ·rename_i b hb;have hv:a.eval x=.bool b:=by
     obtain ⟨ι,Θ,R⟩:=R;have:=(R.opd hx).1
     rwa [hb,LB] at this
    cases b with
    | true=>exact wp_cond_true hv (zF hm eb ui di t ct s k r a w Q ht (by simpa using hr) R hk)
    | false=>exact wp_cond_false hv (zF hm eb ui di e ce s k r a w Q he (by simpa using hr) R hk)
   ·cases hr
  ·cases hc
 | .block id b,c,s,k,r,a,w,Q,hc,hr,R,hk=>by
  unfold comp at hc;obtain ⟨cb,hb,rfl⟩:=yn.1 hc;refine wp_block (zF hm eb ui di b cb s _ r a w _ hb hr R fun e s' a' w' R' he=>?_);cases e with
  | nrm=>exact hk _ _ _ _ R' he
  | ret=>exact hk _ _ _ _ R' he
  | exit j =>
   simp only at he;show Exit.inBlock id Q (.exit j) a' w';unfold Exit.inBlock;split at he
   ·rename_i e; simp only [e,if_true]; exact hk _ _ _ _ R' he
   ·rename_i e; simp only [e,if_false]; exact hk _ _ _ _ R' he
 | .loop b,c,s,k,r,a,w,Q,hc,hr,R,hk=>by
  unfold comp at hc;obtain ⟨cb,hb,rfl⟩:=yn.1 hc;exact wp_loop_rounds N (ui boxes nt B F0 da w0 b cb s k r a w Q hb hr R hk)
 | .exit id,c,s,k,r,a,w,Q,hc,hr,R,hk=>by
  injection hc with hc;subst hc;exact wp_exit (hk (.exit id) s a w R hr)
 | .ret,c,s,k,r,a,w,Q,hc,hr,R,hk=>by
  injection hc with hc;subst hc;exact wp_ret (hk .ret s a w R hr)
 | .scope b,c,s,k,r,a,w,Q,hc,hr,R,hk=>by
  unfold comp at hc;refine wp_scope_straight (zF hm eb ui di b c s k r a w _ hc hr R fun e s' a' w' R' he=>?_);have:=hk _ _ _ _ R' he;cases e <;> exact this
 | .rangeFunc ..,_,_,_,_,_,_,_,hc,_,_,_=>by cases hc
 | .label _,_,_,_,_,_,_,_,hc,_,_,_=>by cases hc
 | .goto _,_,_,_,_,_,_,_,hc,_,_,_=>by cases hc
 | .refuse _,_,_,_,_,_,_,_,hc,_,_,_=>by cases hc
theorem rep_of_S {ι:Ix} {av:Av} {x:AV} {v:Value} (h:tB ι av (fun _ _=>False) w x v) (hx:x.free=true):UE av w x v:=by
  cases x <;> first
    | exact h
    | (simp [AV.free,AV.free0] at hx; done)
    | (obtain ⟨us,hv,hc⟩:=h
       exact ⟨us,hv,pH hc fun y hy=>y6.1 hx y hy⟩)
theorem dV {av:Av}:∀ {xs:List AV} {us:List Value},KN av w xs us->us.length=xs.length
 | [],_,h=>by simp only [KN] at h; subst h; rfl
 | x :: r,_,h=>by
  simp only [KN] at h;obtain ⟨u,ta,rfl,_,h⟩:=h;simp [dV h]
theorem XR {p:Nat} {av:Av}:∀ {xs:List AV} {us:List Value},LL p av w xs us->us.length=xs.length
 | [],_,h=>by simp only [LL] at h; subst h; rfl
 | x :: r,_,h=>by
  simp only [LL] at h;obtain ⟨u,ta,rfl,_,h⟩:=h;simp [XR h]
def sN (ι:Ix) (av avb:Av) (w:World):List AV->List Value->Prop
 | [],us=>us=[]
 | x :: r,us=>∃ u ta,us=u :: ta/\tB ι av avb w x u/\sN ι av avb w r ta
theorem tB.toRep {ι:Ix} {av db avb:Av} {x:AV} {v:Value} (h:tB ι av avb w x v) (hx:x.free=true) (oe:∀ b o,db b o->av b o):UE db w x v :=
 UE.held (qB.less oe) _ _ (rep_of_S (C6 (ι':=ι) h hx) hx)
theorem sN.toT {ι:Ix} {av db avb:Av} (oe:∀ b o,db b o->av b o):∀ {xs:List AV} {us:List Value},sN ι av avb w xs us->(∀ v∈xs,v.free=true)->KN db w xs us
 | [],_,h,_=>h
 | x :: r,_,h,hf=>by
  simp only [sN] at h;obtain ⟨u,ta,rfl,h0,h⟩:=h;exact ⟨u,ta,rfl,h0.toRep (hf x yl) oe,h.toT oe fun v hv=>hf v (yo _ hv)⟩
theorem unname_ptr {t n:Nat} {x:AV} (h:(QJ t n x).isObj=true):x=.ptr t n 0:=by
 cases x with
 | ptr t' n' o =>
  simp only [QJ] at h;split at h
  ·rename_i e; obtain ⟨rfl,rfl,rfl⟩:=e; rfl
  ·cases h
 | _=>cases h
theorem K8 {t n:Nat} {x:AV} (h:(QJ t n x).free=true):QJ t n x=x:=by
 cases x with
 | ptr t' n' o =>
  simp only [QJ] at h;split at h <;> cases h
 | _=>rfl
theorem sN.toO {ι:Ix} {av db avb:Av} {t n p:Nat} (hp:ι t n=some p) (oe:∀ b o,db b o->av b o):∀ {xs:List AV} {us:List Value},sN ι av avb w xs us->(∀ v∈xs,((QJ t n v).free||(QJ t n v).isObj)=true)->LL p db w (xs.map (QJ t n)) us
 | [],_,h,_=>h
 | x :: r,_,h,hf=>by
  simp only [sN] at h;obtain ⟨u,ta,rfl,h0,h⟩:=h;refine ⟨u,ta,rfl,?_,h.toO hp oe fun v hv=>hf v (yo _ hv)⟩;have h1:=hf x yl;unfold PT;split
  ·rename_i ho;have:=unname_ptr ho;subst this;obtain ⟨b,hb,hv⟩:=h0;rw [hp] at hb;injection hb with hb;rw [hv,hb]
  ·rename_i ho;have ly:(QJ t n x).free=true:=by
    rcases Bool.or_eq_true_iff.1 h1 with h | h
    ·exact h
    ·exact absurd h ho
   have gv:=K8 ly;rw [gv] at ly ⊢;exact h0.toRep ly oe
def avF (s:aA) (av:Av) (ι:Ix):Av:=fun b o=>av b o/\¬ ∃ t n r,s.mem t n=some r/\ι t n=some b
theorem wB.frz1 {D:Nat->Prop} {ι:Ix} {Θ:CK} (R:mC P O nt B F0 da w0 D s a w ι Θ) {x:AV} {u:Value} (h:wB ι (KC da ι Θ) w x u):wB ι (avF s (KC da ι Θ) ι) w (x.frz1 s) u:=by
 have less:qB (KC da ι Θ) (avF s (KC da ι Θ) ι) w w:=qB.less fun b o h=>h.1
 have same:=wB.held (Ix.Le.refl ι) less x u h;cases x with
 | ref t n sz off len c =>
  simp only [AV.frz1];split
  ·rename_i l hl;obtain ⟨r,hm,hl⟩:=ye.1 hl;obtain ⟨b,hb,bc,cc,oi,hz,hv⟩:=h;obtain ⟨nb,b',cur,ty,wa,ua,na,_⟩:=R.rows t n r hm;rw [hb] at wa;injection wa with wa;subst wa;obtain ⟨h1,h2,us,hL,zd⟩:=ZK na ua hl;subst h1;show UE _ w (.sl false l) u;simp only [UE];refine ⟨_,cc,hv,Nat.le_trans bc oi,fun x hx y hy=>(h2 x hx).trans (h2 y hy).symm,(fun h=>by cases h),fun _=>⟨fun h=>(by cases h),fun _=>⟨b,off,rfl,?_⟩⟩⟩;rw [IF];exact RK (lD.held less _ _ hL) fun j u hj=>⟨zd j u hj,fun h=>h.2 ⟨t,n,r,hm,hb⟩⟩
  ·exact same
 | _=>exact same
theorem FA.frz1 {D:Nat->Prop} {ι:Ix} {Θ:CK} (R:mC P O nt B F0 da w0 D s a w ι Θ):∀ {xs:List AV} {us:List Value},FA ι (KC da ι Θ) w xs us->FA ι (avF s (KC da ι Θ) ι) w (xs.map (AV.frz1 s)) us
 | [],_,h=>h
 | x :: r,_,h=>by
  simp only [FA] at h;obtain ⟨u,ta,rfl,h0,h1,h⟩:=h;exact ⟨u,ta,rfl,h0.frz1 R,h1,h.frz1 R⟩
theorem wB.frz {D:Nat->Prop} {ι:Ix} {Θ:CK} (R:mC P O nt B F0 da w0 D s a w ι Θ) {x:AV} {u:Value} (h:wB ι (KC da ι Θ) w x u):wB ι (avF s (KC da ι Θ) ι) w (x.frz0 s) u:=by
 have less:qB (KC da ι Θ) (avF s (KC da ι Θ) ι) w w:=qB.less fun b o h=>h.1
 have same:=wB.held (Ix.Le.refl ι) less x u h;cases x with
 | ref t n sz off len c =>
  simp only [AV.frz0];split
  ·rename_i l hl;obtain ⟨r,hm,hl⟩:=ye.1 hl;obtain ⟨b,hb,bc,cc,oi,hz,hv⟩:=h;obtain ⟨nb,b',cur,ty,wa,ua,na,_⟩:=R.rows t n r hm;rw [hb] at wa;injection wa with wa;subst wa;obtain ⟨h1,h2,us,hL,zd⟩:=ZK na ua hl;subst h1;show UE _ w (.sl false l) u;simp only [UE];refine ⟨_,cc,hv,Nat.le_trans bc oi,fun x hx y hy=>(h2 x hx).trans (h2 y hy).symm,(fun h=>by cases h),fun _=>⟨fun h=>(by cases h),fun _=>⟨b,off,rfl,?_⟩⟩⟩;rw [IF];exact RK (lD.held less _ _ hL) fun j u hj=>⟨zd j u hj,fun h=>h.2 ⟨t,n,r,hm,hb⟩⟩
  ·split
   ·rename_i l hl;obtain ⟨r,hm,hl⟩:=ye.1 hl;obtain ⟨l0,fh,hl⟩:=ye.1 hl;split at hl
    ·rename_i cf;injection hl with hl;subst hl;obtain ⟨b,hb,bc,cc,oi,hz,hv⟩:=h;obtain ⟨nb,b',cur,ty,wa,ua,na,_⟩:=R.rows t n r hm;rw [hb] at wa;injection wa with wa;subst wa;obtain ⟨h1,h2,us,hL,zd⟩:=BP na ua fh;subst h1;have hL1:=FA.frz1 R hL;rw [List.map_flatten] at hL1;have hL2:=pH hL1 fun x hx=>y6.1 cf x hx
     show UE _ w (.sl false _) u;simp only [UE];refine ⟨_,cc,by rw [yu]; exact hv,by rw [yu]; exact Nat.le_trans bc oi,fun x hx y hy=>?_,(fun h=>by cases h),fun _=>⟨fun h=>(by cases h),fun _=>⟨b,off,rfl,?_⟩⟩⟩
     ·obtain ⟨x',kp,rfl⟩:=yp.1 hx;obtain ⟨y',tv,rfl⟩:=yp.1 hy;rw [yu,yu,h2 x' kp,h2 y' tv]
     ·rw [IF];exact RK hL2 fun j u hj=>⟨zd j u hj,fun h=>h.2 ⟨t,n,r,hm,hb⟩⟩
    ·cases hl
   ·exact same
 | _=>exact same
theorem FA.frz {D:Nat->Prop} {ι:Ix} {Θ:CK} (R:mC P O nt B F0 da w0 D s a w ι Θ):∀ {xs:List AV} {us:List Value},FA ι (KC da ι Θ) w xs us->FA ι (avF s (KC da ι Θ) ι) w (xs.map (AV.frz0 s)) us
 | [],_,h=>h
 | x :: r,_,h=>by
  simp only [FA] at h;obtain ⟨u,ta,rfl,h0,h1,h⟩:=h;exact ⟨u,ta,rfl,h0.frz R,h1,h.frz R⟩
theorem tB.frz {D:Nat->Prop} {ι:Ix} {Θ:CK} (R:mC P O nt B F0 da w0 D s a w ι Θ) {x:AV} {u:Value} (h:tB ι (KC da ι Θ) (DC ι Θ) w x u):tB ι (avF s (KC da ι Θ) ι) (DC ι Θ) w (x.frz s) u:=by
 have less:qB (KC da ι Θ) (avF s (KC da ι Θ) ι) w w:=qB.less fun b o h=>h.1
 have same:=tB.held (Ix.Le.refl ι) less (qB.refl _ _) x u h;cases x with
 | agg cs=>obtain ⟨us,hv,hc⟩:=h; exact ⟨us,hv,hc.frz R⟩
 | ref t n sz off len c =>
  have:=wB.frz R (x:=.ref t n sz off len c) h;show tB _ _ _ w (AV.frz0 s (.ref t n sz off len c)) u;generalize hy:AV.frz0 s (.ref t n sz off len c)=y at this ⊢;simp only [AV.frz0] at hy;split at hy
  ·subst hy; exact this
  ·split at hy <;> (subst hy; exact this)
 | _=>exact same
theorem sN.frz {D:Nat->Prop} {ι:Ix} {Θ:CK} (R:mC P O nt B F0 da w0 D s a w ι Θ):∀ {xs:List AV} {us:List Value},sN ι (KC da ι Θ) (DC ι Θ) w xs us->sN ι (avF s (KC da ι Θ) ι) (DC ι Θ) w (xs.map (AV.frz s)) us
 | [],_,h=>h
 | x :: r,_,h=>by
  simp only [sN] at h;obtain ⟨u,ta,rfl,h0,h⟩:=h;exact ⟨u,ta,rfl,h0.frz R,h.frz R⟩
def JP (us:List Value):Value:=if h:us.toArray.size=1 then us.toArray[0] else .tuple us.toArray
theorem kY {av:Av}:∀ {xs:List AV} {us:List Value},KN av w xs us->UE av w (jW xs) (JP us)
 | [],us,h=>by simp only [KN] at h; subst h; exact ⟨#[],rfl,rfl⟩
 | [x],us,h=>by
  simp only [KN] at h;obtain ⟨u,ta,rfl,h0,rfl⟩:=h;exact h0
 | x :: y :: r,us,h=>by
  have hl:=dV h;have:¬ us.toArray.size=1:=by simp; simp at hl; omega
  unfold JP;rw [dif_neg this];exact ⟨_,rfl,h⟩
theorem pack_repN {p:Nat} {av:Av}:∀ {xs:List AV} {us:List Value},LL p av w xs us->(∀ v∈xs,(v.free||v.isObj)=true)->i9 p av w (jW xs) (JP us)
 | [],us,h,_=>by simp only [LL] at h; subst h; exact ⟨#[],rfl,rfl⟩
 | [x],us,h,hf=>by
  simp only [LL] at h;obtain ⟨u,ta,rfl,h0,rfl⟩:=h;have:=hf x yl;cases x with
  | tup vs=>cases this
  | _=>exact h0
 | x :: y :: r,us,h,_=>by
  have hl:=XR h;have:¬ us.toArray.size=1:=by simp; simp at hl; omega
  unfold JP;rw [dif_neg this];exact ⟨_,rfl,h⟩
def jO (tmps:Array Value):ResultVar->Sem Value
 | .tmp t=>pure (tmps.getD t undef)
 | .cell b t=>do loadVar t (<- asAddr (tmps.getD b undef))
theorem EW {D:Nat->Prop} {ι:Ix} {Θ:CK} (R:mC P O nt B F0 da w0 D s a w ι Θ):∀ {rs:List ResultVar} {cs:List ResC} {vs:List AV},WL P rs=some cs->zT s cs=some vs →
  ∃ us,(rs.mapM (jO a.tmps)).run P w=Result.ok us w/\sN ι (KC da ι Θ) (DC ι Θ) w vs us
 | [],cs,vs,h,hr=>by
  injection h with h;subst h;injection hr with hr;subst hr;exact ⟨[],by simp,rfl⟩
 | .tmp t :: rs,cs,vs,h,hr=>by
  unfold WL at h;obtain ⟨l,hl,rfl⟩:=yn.1 h;simp only [zT] at hr;obtain ⟨mw,hv,rfl⟩:=yn.1 hr;obtain ⟨us,hu,hT⟩:=EW R hl hv;refine ⟨a.tmps.getD t undef :: us,by rw [List.mapM_cons]; simp only [jO,Sem.run_bind,Sem.run_pure,Result.andThen_ok,hu],_,us,rfl,R.env t,hT⟩
 | .cell b t :: rs,cs,vs,h,hr=>by
  unfold WL at h;split at h
  ·rename_i ag z l hA hz hl;injection h with h;subst h;simp only [zT] at hr;split at hr
   ·rename_i t' n off hb;cases hm:s.mem t' n with
    | none=>rw [hm] at hr; cases hr
    | some row =>
     rw [hm,J] at hr;obtain ⟨x,hx,hr⟩:=ye.1 hr;obtain ⟨mw,hv,rfl⟩:=yn.1 hr;obtain ⟨us,hu,hT⟩:=EW R hl hv;have hv:=R.env b;rw [hb,mG] at hv;obtain ⟨bb,hbb,hv⟩:=hv;obtain ⟨zm,b',cur,ty,wa,ua,na,_⟩:=R.rows t' n row hm;rw [hbb] at wa;injection wa with wa;subst wa;have ec:∀ (j:Nat) (u:Value),((cur.toList.take row.length).drop off)[j]?=some u->w.cell? ⟨bb,off + j,none⟩=some u:=fun j u hu=>by
      rw [cell_of_row w bb (off + j) cur ty (0,0) ua];rw [yU,yV] at hu;split at hu
      ·simpa using hu
      ·cases hu
     have kc:=kF off na.rep;have hi:xG ag z ((row.map (·.v)).drop off)=some x.v:=by
      cases ag with
      | true =>
       simp only [RB,if_true] at hx;split at hx
       ·rename_i bc;injection hx with hx;subst hx;simp only [xG,if_true,List.length_drop,yu];rw [if_pos (by omega)];simp [List.map_take,List.map_drop]
       ·cases hx
      | false =>
       simp only [RB,yA,if_false] at hx;simp [xG,yU,hx]
     obtain ⟨u,ja,hS,_⟩:=IP (P:=P) (avb:=DC ι Θ) hA hz kc ec hi;refine ⟨u :: us,by rw [List.mapM_cons]; simp only [jO,Sem.run_bind,hv,asAddr,Sem.run_pure,Result.andThen_ok,ja,hu],_,us,rfl,hS,hT⟩
   ·cases hr
  ·cases h
structure cA (P:Program) (f:FuncId) (c:MA):Prop where
 enter:∀ xs w,(callFunc f xs).run P w=.ok (.enter f xs) w
 fn:∃ fn,P.funcs[f]?=some fn/\xV P c.mu fn=some c
theorem aV {ι:Ix} {av avl:Av}:∀ {xs:List AV} {us:List Value},JL ι av avl w xs us->us.length=xs.length
 | [],_,h=>by simp only [JL] at h; subst h; rfl
 | x :: r,_,h=>by
  simp only [JL] at h;obtain ⟨u,ta,rfl,_,h⟩:=h;simp [aV h]
theorem F5 {ι:Ix} {av avl:Av}:∀ {xs:List AV} {us:List Value} (_:JL ι av avl w xs us) (t:Nat),tB ι av avl w (xs.getD t .undef) (us.getD t undef)
 | [],_,_,_=>by simp [tB]
 | x :: r,_,h,t=>by
  simp only [JL] at h;obtain ⟨u,ta,rfl,h0,h⟩:=h;cases t with
  | zero=>simpa using h0
  | succ t=>simpa using F5 h t
section
variable {vs:List Value} {args:List AV}
include vs args
theorem CT {ι:Ix} {av avl:Av} {np:Nat} (h:JL ι av avl w args vs) (hl:args.length=np) (hn:np<=nt):(vs.toArray++Array.replicate (nt - vs.toArray.size) undef).size=nt:=by
 have:=aV h;simp;omega
theorem jX {ι ι':Ix} {av db avb avl:Av} {S0:Option AV} (h:JL ι av avl w args vs) (hι:Ix.Le ι ι') (hA:qB av db w w) (hB:qB avl avb w w) (t:Nat) :
  tB ι' db avb w ((aA.init args S0).env t).v ((vs.toArray++Array.replicate (nt - vs.toArray.size) undef).getD t undef):=by
 have h1:=tB.held hι hA hB _ _ (F5 h t);have h2:(vs.toArray++Array.replicate (nt - vs.toArray.size) undef).getD t undef=vs.getD t undef:=by
  simp only [Y01,List.getD_eq_getElem?_getD,Array.getElem?_append,List.size_toArray,List.getElem?_toArray];split
  ·rfl
  ·rename_i uf;rw [yY (by omega)];simp only [Array.getElem?_replicate];split <;> rfl
 rw [h2];exact h1
theorem A1 {av:Av} {np:Nat} (h:JL Ix.none av (fun _ _=>False) w args vs) (oe:∀ b o,av b o->b<w.heap.size) (hl:args.length=np) (hn:np<=nt) :
  eE P O nt w.heap.size ⟨fun _=>False,none,fun _=>False,0,fun _=>undef⟩ av w (fun _=>False) (aA.init args none) { tmps:=vs.toArray++Array.replicate (nt - vs.toArray.size) undef,defers:=[] } w:=by
 have xv:∀ b o,DC Ix.none (fun _=>none) b o->False:=fun b o h=>by rcases h with (⟨t,n,h⟩ | ⟨t,n,H,h,_⟩) | ⟨k,ow,h,_⟩ <;> cases h
 have hA:qB av (KC av Ix.none (fun _=>none)) w w:=qB.less fun b o h=>h.resolve_right (xv b o)
 have hB:qB (fun _ _=>False) (DC Ix.none (fun _=>none)) w w:=qB.less fun b o h=>xv b o h
 exact ⟨Ix.none,fun _=>none,rfl,CT h hl hn,fun t=>jX h (Ix.Le.refl _) hA hB t,fun t=>trivial,fun t n r h=>(by cases h),fun t n b h=>(by cases h),fun _ _ _ _ _ h=>(by cases h),fun _ _ h=>(by cases h),fun _ _ _ _ h=>(by cases h),fun _ _ _ _ h=>(by cases h),oe,fun _ h=>(by cases h),FD.refl _ _,rfl,fun t n S h=>(by simp [aA.init] at h),fun t n H h=>(by cases h),fun _=>trivial,fun _=>trivial⟩
theorem init_some {av:Av} {np p:Nat} {H:Nat->Prop} {S:AV} (h:JL (Ix.one p) av (fun b _=>H b) w args vs) (oe:∀ b o,av b o->b<w.heap.size) (hH:∀ b o,H b->av b o) (ne:O.at_ S H p w) (hni:noIt S=true) (hl:args.length=np) (hn:np<=nt) :
  eE P O nt w.heap.size ⟨H,some p,fun _=>False,0,fun _=>undef⟩ av w (fun _=>False) (aA.init args (some S)) { tmps:=vs.toArray++Array.replicate (nt - vs.toArray.size) undef,defers:=[] } w:=by
 obtain ⟨ι,hι⟩:∃ ι:Ix,ι=⟨fun t n=>if t=0/\n=0 then some p else none,fun t n=>if t=0/\n=0 then some H else none,fun _=>0⟩:=⟨_,rfl⟩;have hf:∀ t n b,ι t n=some b->t=0/\n=0/\b=p:=fun t n b h=>by
  subst hι;have h':(if t=0/\n=0 then some p else none)=some b:=h;split at h'
  ·rename_i e; injection h' with h'; exact ⟨e.1,e.2,h'.symm⟩
  ·cases h'
 have ho:∀ t n H1,ι.ob t n=some H1->t=0/\n=0/\H1=H:=fun t n b h=>by
  subst hι;simp only at h;split at h
  ·rename_i e; injection h with h'; exact ⟨e.1,e.2,h'.symm⟩
  ·cases h
 have h0:ι 0 0=some p:=by subst hι; rfl
 have h1:ι.ob 0 0=some H:=by subst hι; rfl
 have je:∀ t n b,Ix.one p t n=some b->ι t n=some b:=fun t n b h=>by subst hι; exact h
 have bc:Ix.Le (Ix.one p) ι:=⟨je,fun _ _ _ _=>by subst hι; rfl⟩;clear hι;have hpH:=O.main ne;have xv:∀ b o,DC ι (fun _=>none) b o->H b:=fun b o h=>by
  rcases h with (⟨t,n,h⟩ | ⟨t,n,H1,h,hb⟩) | ⟨k,ow,h,_⟩
  ·rw [(hf _ _ _ h).2.2]; exact hpH
  ·rw [(ho _ _ _ h).2.2] at hb; exact hb
  ·cases h
 have hA:qB av (KC av ι (fun _=>none)) w w:=qB.less fun b o h=>h.elim id fun h=>hH b o (xv b o h)
 refine ⟨ι,fun _=>none,rfl,CT h hl hn,fun t=>?_,fun t=>trivial,fun t n r h=>(by cases h),fun t n b h=>?_,fun t n t' n' b h h'=>?_,fun _ _ h=>(by cases h),fun _ _ _ _ h=>(by cases h),fun _ _ _ _ h=>(by cases h),oe,fun q h=>?_,FD.refl _ _,rfl,fun t n S1 h=>?_,fun t n H1 h=>?_,fun _=>trivial,fun _=>trivial⟩
 ·exact jX h bc hA (qB.less fun b o h=>xv b o h) t
 ·obtain ⟨rfl,rfl,rfl⟩:=hf _ _ _ h;exact ⟨.inr hpH,O.lt ne hpH,.inl (by simp [aA.init])⟩
 ·obtain ⟨rfl,rfl,_⟩:=hf _ _ _ h;obtain ⟨rfl,rfl,_⟩:=hf _ _ _ h';exact ⟨rfl,rfl⟩
 ·injection h with h;subst h;exact ⟨h0,.inr ⟨H,h1⟩⟩
 ·simp only [aA.init] at h;split at h
  ·rename_i e;injection h with h;subst h;exact ⟨p,H,by rw [e.1,e.2]; exact h0,by rw [e.1,e.2]; exact h1,ne,Tie.no hni⟩
  ·cases h
 ·obtain ⟨rfl,rfl,rfl⟩:=ho _ _ _ h;refine ⟨fun b hb=>⟨.inr hb,O.lt ne hb,fun t' n' h=>?_,fun _ _ h=>(by cases h),fun t' n' H' h _=>?_⟩,.inl (by simp [aA.init])⟩
  ·obtain ⟨rfl,rfl,_⟩:=hf _ _ _ h; exact ⟨rfl,rfl⟩
  ·obtain ⟨rfl,rfl,_⟩:=ho _ _ _ h; exact ⟨rfl,rfl⟩
end
theorem init_row {vs:List Value} {args cs:List AV} {av:Av} {np p:Nat} {cur:Array Value} {ty:TypeId} (h:JL (Ix.row p cur.size) av (fun b _=>b=p) w args vs) (oe:∀ b o,av b o->b<w.heap.size) (xl:∀ o,av p o) (ua:w.heap[p]?=some (.cells cur ty (0,0))) (io:cs.length<=cur.size) (kc:lD av w cs (cur.toList.take cs.length)) (hl:args.length=np) (hn:np<=nt) :
  eE P O nt w.heap.size ⟨fun b=>b=p,some p,fun b=>b=p,cur.size,fun _=>undef⟩ av w (fun _=>False) (aA.initR args cs) { tmps:=vs.toArray++Array.replicate (nt - vs.toArray.size) undef,defers:=[] } w:=by
 have hf:∀ t n b,(Ix.row p cur.size) t n=some b->t=0/\n=0/\b=p:=fun t n b h=>by
  have h':(if t=0/\n=0 then some p else none)=some b:=h;split at h'
  ·rename_i e; injection h' with h'; exact ⟨e.1,e.2,h'.symm⟩
  ·cases h'
 have xv:∀ b o,DC (Ix.row p cur.size) (fun _=>none) b o->b=p:=fun b o h=>by
  rcases h with (⟨t,n,h⟩ | ⟨t,n,H1,h,hb⟩) | ⟨k,ow,h,_⟩
  ·exact (hf _ _ _ h).2.2
  ·cases h
  ·cases h
 have hA:qB av (KC av (Ix.row p cur.size) (fun _=>none)) w w:=qB.less fun b o h=>h.elim id fun h=>xv b o h ▸ xl o
 refine ⟨Ix.row p cur.size,fun _=>none,rfl,CT h hl hn,fun t=>?_,fun t=>trivial,fun t n r h=>?_,fun t n b h=>?_,fun t n t' n' b h h'=>?_,fun _ _ h=>(by cases h),fun _ _ _ _ h=>(by cases h),fun _ _ _ _ h=>(by cases h),oe,fun q h=>?_,FD.refl _ _,rfl,fun t n S1 h=>(by cases h),fun t n H1 h=>(by cases h),fun _=>trivial,fun _=>trivial⟩
 ·exact jX (S0:=none) h (Ix.Le.refl _) hA (qB.less fun b o h=>xv b o h) t
 ·simp only [aA.initR] at h;split at h
  ·rename_i e;injection h with h;subst h;refine ⟨rfl,p,cur,ty,by rw [e.1,e.2]; rfl,ua,row_ofz (lD.held hA _ _ kc) fun j u hu=>?_,.inr rfl,rfl⟩;have hj:j<cs.length:=by
    have:=(y9.1 hu).1;rw [yL] at this;omega
   rw [List.getElem?_take_of_lt hj] at hu;simpa using hu
  ·cases h
 ·obtain ⟨rfl,rfl,rfl⟩:=hf _ _ _ h;exact ⟨.inr rfl,LA ua,.inl (by simp [aA.initR])⟩
 ·obtain ⟨rfl,rfl,_⟩:=hf _ _ _ h;obtain ⟨rfl,rfl,_⟩:=hf _ _ _ h';exact ⟨rfl,rfl⟩
 ·injection h with h;subst h;exact ⟨rfl,.inl ⟨rfl,rfl⟩⟩
theorem mC.drop0 {D:Nat->Prop} {ι:Ix} {Θ:CK} (R:mC P O nt B F0 da w0 D s a w ι Θ):mC P O nt B F0 da w0 D s.drop0 a w ι Θ :=
 ⟨R.defers,R.size,R.env,R.ann,fun t n r h=>by
  simp only [aA.drop0] at h;split at h
  ·cases h
  ·exact R.rows t n r h,R.mine,R.inj,R.tok,R.tinj,R.apart,R.out,R.pin,R.kept,R.base,R.objs,R.obs,R.gen,R.gann⟩
theorem row_sound (hm:P.follows .mixedOrders=true) {call:JB} {lp:LH} {N:Nat} (eb:∀ f args S r,call f args S=some r->DD P O f args S r) (ui:LpOk P O N lp.l) (di:H3 P O lp.h) {f:FuncId} {fn:Func} {c:MA} (md:∀ xs w,(callFunc f xs).run P w=.ok (.enter f xs) w) (pr:P.funcs[f]?=some fn) (we:xV P c.mu fn=some c) {rest cs:List AV} {r:RV} (ia:rest.length=c.np)
  (h:c.code.run call lp (aA.initR rest cs) (iG c cs.length)=some r):F3 P f rest (some (.agg cs)) r:=by
 unfold xV at we;split at we
 ·cases we
 ·rename_i code zl;split at we
  ·rename_i cc rr oi hrr;split at we
   ·rename_i aa;injection we with we;obtain ⟨mu,ep⟩:∃ mu,mu=c.mu:=⟨_,rfl⟩;rw [<- ep] at we oi;clear ep;subst we;have uu:fn.params.size + fn.nfree<=fn.ntmps:=aa;refine ⟨md,?_⟩;obtain ⟨r1,r2⟩:=r
    match r2,h with
    | some (.agg ba),h =>
     intro av w vs p cur ty oe xl ua bc kc rd;refine calls_of_wp pr zl ?_;refine zF hm eb ui di code cc _ _ _ _ w _ oi h (init_row rd oe xl ua bc kc ia uu) fun e s' a' w' R' he=>?_
     have dm:e=.nrm\/e=.ret:=by
      cases e with
      | nrm=>exact .inl rfl
      | ret=>exact .inr rfl
      | exit id=>cases he
     have fi:∃ xs,zT s' rr=some xs/\dE cs.length s' (xs.map (AV.frz s'.drop0))=some (r1,some (.agg ba)):=by
      rcases dm with rfl | rfl <;> exact ye.1 he
     obtain ⟨xs,ed,sd⟩:=fi;obtain ⟨ι,Θ,R'⟩:=R';obtain ⟨us,zd,hT'⟩:=EW R' hrr ed;have se:(results fn a'.tmps).run P w'=.ok (JP us) w':=by
      have he:results fn a'.tmps=(do let vs <- fn.results.mapM (jO a'.tmps); pure (if h:vs.size=1 then vs[0] else .tuple vs)):=rfl;rw [he,Array.mapM_eq_mapM_toList];simp only [Sem.run_bind,Sem.run_map,zd,Result.andThen_ok,Sem.run_pure];rfl
     have hs:=hT'.frz R'.drop0;unfold dE at sd;split at sd
     ·rename_i za;obtain ⟨row,zu,sd⟩:=ye.1 sd;split at sd
      ·rename_i aa;injection sd with sd;injection sd with hfv1 hfv2;injection hfv2 with hfv2;injection hfv2 with hfv2;subst hfv1;subst hfv2;obtain ⟨nb,b,gc,ss,hb,zo,na,_,hz⟩:=R'.rows 0 0 row zu;obtain ⟨px,hpz⟩:=R'.pin p rfl;rw [px] at hb;injection hb with hb;subst hb;have hz':ι.z p=cur.size:=by
        rcases hpz with ⟨_,h⟩ | ⟨H,h⟩
        ·exact h
        ·rw [h] at nb; cases nb
       have je:∀ b o,av b o->avF s'.drop0 (KC av ι Θ) ι b o:=fun b o h=>⟨.inl h,fun ⟨t,n,r,hm,hb⟩=>by
        simp only [aA.drop0] at hm;split at hm
        ·cases hm
        ·rename_i hn;obtain ⟨_,b',_,_,wa,_,_,pk,_⟩:=R'.rows t n r hm;rw [hb] at wa;injection wa with wa;subst wa;rcases pk with pk | pk
         ·have:=oe _ _ h; omega
         ·have:b=p:=pk;subst this;exact hn (R'.inj _ _ _ _ _ hb px)⟩
       have post:a'.defers=[]/\∃ v,(results fn a'.tmps).run P w'=.ok v w'/\∃ v' cur'' ty'',Ending.returned v=.returned v'/\UE av w' (jW (xs.map (AV.frz s'.drop0))) v'/\w'.heap[p]?=some (.cells cur'' ty'' (0,0))/\cur''.size=cur.size/\lD av w' (row.map fun x=>AV.frz0 s'.drop0 x.v) (cur''.toList.take (row.map fun x=>AV.frz0 s'.drop0 x.v).length)/\FD (fun b=>b=p) w w':=by
        refine ⟨R'.defers,_,se,_,gc,ss,rfl,kY (hs.toT je fun v hv=>y6.1 za v hv),zo,hz.trans hz',?_,R'.kept⟩;have h1:=na.rep.frz R'.drop0;rw [y3] at h1;have h2:=pH h1 fun x hx=>y6.1 aa.1 x hx
        rw [yu];exact lD.held (qB.less je) _ _ h2
       rcases dm with rfl | rfl <;> exact post
      ·cases sd
     ·cases sd
    | none,h=>trivial
    | some (.int ..),h=>trivial
    | some (.bool _),h=>trivial
    | some (.str _),h=>trivial
    | some .nilP,h=>trivial
    | some (.ptr ..),h=>trivial
    | some (.ip _),h=>trivial
    | some (.bp _),h=>trivial
    | some (.sl ..),h=>trivial
    | some (.bl _),h=>trivial
    | some (.ref ..),h=>trivial
    | some (.mp ..),h=>trivial
    | some (.fn ..),h=>trivial
    | some (.tup _),h=>trivial
    | some .undef,h=>trivial
   ·cases we
  ·cases we
theorem RY {D:Nat->Prop} {ι:Ix} {Θ:CK} (R:mC P O nt B F0 da w0 D s a w ι Θ):∀ {rs:List ResultVar} {cs:List ResC} {vs:List wA},WL P rs=some cs->EY s cs=some vs →
  ∃ us,(rs.mapM (jO a.tmps)).run P w=Result.ok us w/\EH ι Θ (KC da ι Θ) (DC ι Θ) w vs us
 | [],cs,vs,h,hr=>by
  injection h with h;subst h;injection hr with hr;subst hr;exact ⟨[],by simp,rfl⟩
 | .tmp t :: rs,cs,vs,h,hr=>by
  unfold WL at h;obtain ⟨l,hl,rfl⟩:=yn.1 h;simp only [EY] at hr;obtain ⟨mw,hv,rfl⟩:=yn.1 hr;obtain ⟨us,hu,hT⟩:=RY R hl hv;refine ⟨a.tmps.getD t undef :: us,by rw [List.mapM_cons]; simp only [jO,Sem.run_bind,Sem.run_pure,Result.andThen_ok,hu],_,us,rfl,R.env t,R.ann t,hT⟩
 | .cell b t :: rs,cs,vs,h,hr=>by
  unfold WL at h;split at h
  ·rename_i ag z l hA hz hl;injection h with h;subst h;simp only [EY] at hr;split at hr
   ·rename_i t' n off hb;cases hm:s.mem t' n with
    | none=>rw [hm] at hr; cases hr
    | some row =>
     rw [hm,J] at hr;obtain ⟨x,hx,hr⟩:=ye.1 hr;obtain ⟨mw,hv,rfl⟩:=yn.1 hr;obtain ⟨us,hu,hT⟩:=RY R hl hv;have hv:=R.env b;rw [hb,mG] at hv;obtain ⟨bb,hbb,hv⟩:=hv;obtain ⟨zm,b',cur,ty,wa,ua,na,_⟩:=R.rows t' n row hm;rw [hbb] at wa;injection wa with wa;subst wa;have ec:∀ (j:Nat) (u:Value),((cur.toList.take row.length).drop off)[j]?=some u->w.cell? ⟨bb,off + j,none⟩=some u:=fun j u hu=>by
      rw [cell_of_row w bb (off + j) cur ty (0,0) ua];rw [yU,yV] at hu;split at hu
      ·simpa using hu
      ·cases hu
     have kc:=kF off na.rep;have hi:xG ag z ((row.map (·.v)).drop off)=some x.v:=by
      cases ag with
      | true =>
       simp only [RB,if_true] at hx;split at hx
       ·rename_i bc;injection hx with hx;subst hx;simp only [xG,if_true,List.length_drop,yu];rw [if_pos (by omega)];simp [List.map_take,List.map_drop]
       ·cases hx
      | false =>
       simp only [RB,yA,if_false] at hx;simp [xG,yU,hx]
     obtain ⟨u,ja,hS,_⟩:=IP (P:=P) (avb:=DC ι Θ) hA hz kc ec hi;refine ⟨u :: us,by rw [List.mapM_cons]; simp only [jO,Sem.run_bind,hv,asAddr,Sem.run_pure,Result.andThen_ok,ja,hu],u,us,rfl,hS,trivial,hT⟩
   ·cases hr
  ·cases h
theorem JN {ι:Ix} {Θ:CK} {av avb:Av}:∀ {xs:List wA} {us:List Value},EH ι Θ av avb w xs us->us.length=xs.length
 | [],_,h=>by simp only [EH] at h; subst h; rfl
 | x :: r,_,h=>by
  simp only [EH] at h;obtain ⟨u,ta,rfl,_,_,h⟩:=h;simp [JN h]
theorem AT {ι:Ix} {Θ:CK} {av avb:Av}:∀ {xs:List wA} {us:List Value} (_:EH ι Θ av avb w xs us) (t:Nat),tB ι av avb w (xs.getD t ⟨.undef,.no⟩).v (us.getD t undef)/\DL Θ (xs.getD t ⟨.undef,.no⟩).a (us.getD t undef)
 | [],_,_,_=>by simp [tB,DL]
 | x :: r,_,h,t=>by
  simp only [EH] at h;obtain ⟨u,ta,rfl,h0,h1,h⟩:=h;cases t with
  | zero=>simpa using ⟨h0,h1⟩
  | succ t=>simpa using AT h t
theorem RepU_ofS {ι:Ix} {av avb:Av} {x:AV} {v:Value} (h:tB ι av avb w x v) (hx:x.tupOk=true):aP ι av w x v:=by
 cases x <;> first
  | exact h
  | (cases hx; done)
theorem AW {ι:Ix} {Θ:CK} {av avb:Av}:∀ {xs:List wA} {us:List Value},EH ι Θ av avb w xs us->xs.all (fun x=>x.v.tupOk)=true->AG ι av w (xs.map (·.v)) us
 | [],_,h,_=>h
 | x :: r,_,h,hf=>by
  simp only [EH] at h;obtain ⟨u,ta,rfl,h0,_,h⟩:=h;simp only [List.all_cons,y7] at hf;exact ⟨u,ta,rfl,RepU_ofS h0 hf.1,AW h hf.2⟩
theorem packS_rep {ι:Ix} {Θ:CK} {av avb:Av}:∀ {xs:List wA} {us:List Value} {y:wA},EH ι Θ av avb w xs us->DV xs=some y->tB ι av avb w y.v (JP us)/\DL Θ y.a (JP us)
 | [],us,y,h,hp=>by
  simp only [EH] at h;subst h;injection hp with hp;subst hp;exact ⟨⟨#[],rfl,rfl⟩,trivial⟩
 | [x],us,y,h,hp=>by
  simp only [EH] at h;obtain ⟨u,ta,rfl,h0,h1,rfl⟩:=h;injection hp with hp;subst hp;exact ⟨h0,h1⟩
 | x :: z :: r,us,y,h,hp=>by
  have hl:=JN h;have:¬ us.toArray.size=1:=by simp; simp at hl; omega
  unfold JP;rw [dif_neg this];unfold DV at hp;split at hp
  ·rename_i e; cases e
  ·split at hp
   ·rename_i za;injection hp with hp;subst hp;exact ⟨⟨_,rfl,AW h za⟩,trivial⟩
   ·cases hp
theorem initH_rel {B:Nat} {F0:XO} {da:Av} {w0 w:World} {ι:Ix} {Θ:CK} {xs:List wA} {us:List Value} (R:D5 P O B F0 da w0 s w ι Θ) (h:EH ι Θ (KC da ι Θ) (DC ι Θ) w xs us) {np:Nat} (hl:xs.length=np) (hn:np<=nt) :
  mC P O nt B F0 da w0 (fun _=>False) (s.initH xs) { tmps:=us.toArray++Array.replicate (nt - us.toArray.size) undef,defers:=[] } w ι Θ:=by
 have hg:∀ t,(us.toArray++Array.replicate (nt - us.toArray.size) undef).getD t undef=us.getD t undef:=fun t=>by
  simp only [Y01,List.getD_eq_getElem?_getD,Array.getElem?_append,List.size_toArray,List.getElem?_toArray];split
  ·rfl
  ·rename_i uf;rw [yY (by omega)];simp only [Array.getElem?_replicate];split <;> rfl
 have tb:(us.toArray++Array.replicate (nt - us.toArray.size) undef).size=nt:=by
  have:=JN h;simp;omega
 exact ⟨rfl,tb,fun t=>by simp only [aA.initH]; rw [hg]; exact (AT h t).1,fun t=>by simp only [aA.initH]; rw [hg]; exact (AT h t).2,R.rows,R.mine,R.inj,R.tok,R.tinj,R.apart,R.out,R.pin,R.kept,R.base,R.objs,R.obs,R.gen,R.gann⟩
theorem mC.bare {D:Nat->Prop} {ι:Ix} {Θ:CK} (R:mC P O nt B F0 da w0 (fun _=>False) s a w ι Θ):D5 P O B F0 da w0 s w ι Θ :=
 ⟨rfl,rfl,fun _=>trivial,fun _=>trivial,R.rows,R.mine,R.inj,R.tok,R.tinj,R.apart,R.out,R.pin,R.kept,R.base,R.objs,R.obs,R.gen,R.gann⟩
theorem L9 (hm:P.follows .mixedOrders=true) {call:JB} {lp:LH} {N:Nat} (eb:∀ f args S r,call f args S=some r->DD P O f args S r) (ui:LpOk P O N lp.l) (di:H3 P O lp.h) {f:FuncId} {fn:Func} {c:MA} (md:∀ xs w,(callFunc f xs).run P w=.ok (.enter f xs) w) (pr:P.funcs[f]?=some fn) (we:xV P c.mu fn=some c) {xs:List wA} {k:wA->aA->Option RV} {r:RV} (ia:xs.length=c.np)
  (h:c.code.run call lp (s.initH xs) (mP c k)=some r):(∀ vs w,(callFunc f vs).run P w=.ok (.enter f vs) w) ∧
 ∀ (B:Nat) (F0:XO) (da:Av) (w0 w:World) (ι:Ix) (Θ:CK) (us:List Value) (E:Ending->World->Prop),D5 P O B F0 da w0 s w ι Θ->EH ι Θ (KC da ι Θ) (DC ι Θ) w xs us →
  (∀ y s' w' ι' Θ' v,D5 P O B F0 da w0 s' w' ι' Θ'->tB ι' (KC da ι' Θ') (DC ι' Θ') w' y.v v->DL Θ' y.a v->k y s'=some r->E (.returned v) w')->Calls P f us.toArray w E:=by
 unfold xV at we;split at we
 ·cases we
 ·rename_i code zl;split at we
  ·rename_i cc rr oi hrr;split at we
   ·rename_i aa;injection we with we;obtain ⟨mu,ep⟩:∃ mu,mu=c.mu:=⟨_,rfl⟩;rw [<- ep] at we oi;clear ep;subst we;have uu:fn.params.size + fn.nfree<=fn.ntmps:=aa;refine ⟨md,fun B F0 da w0 w ι Θ us E R ed hE=>?_⟩;refine calls_of_wp pr zl ?_;refine zF hm eb ui di code cc _ _ _ _ w _ oi h ⟨ι,Θ,initH_rel R ed ia uu⟩ fun e s' a' w' R' he=>?_
    have dm:e=.nrm\/e=.ret:=by
     cases e with
     | nrm=>exact .inl rfl
     | ret=>exact .inr rfl
     | exit id=>cases he
    have fi:∃ y,(EY s' rr).bind DV=some y/\k y s'=some r:=by
     rcases dm with rfl | rfl <;> exact ye.1 he
    obtain ⟨y,hy,hk⟩:=fi;obtain ⟨l,hl,hp⟩:=ye.1 hy;obtain ⟨ι',Θ',R'⟩:=R';obtain ⟨vs,hvs,hT'⟩:=RY R' hrr hl;have se:(results fn a'.tmps).run P w'=.ok (JP vs) w':=by
     have he:results fn a'.tmps=(do let vs <- fn.results.mapM (jO a'.tmps); pure (if h:vs.size=1 then vs[0] else .tuple vs)):=rfl;rw [he,Array.mapM_eq_mapM_toList];simp only [Sem.run_bind,Sem.run_map,hvs,Result.andThen_ok,Sem.run_pure];rfl
    obtain ⟨kf,wi⟩:=packS_rep hT' hp;have post:a'.defers=[]/\∃ v,(results fn a'.tmps).run P w'=.ok v w'/\E (.returned v) w':=⟨R'.defers,_,se,hE y s' w' ι' Θ' _ (mC.bare (D:=fun _=>False) R') kf wi hk⟩;rcases dm with rfl | rfl <;> exact post
   ·cases we
  ·cases we
theorem markR_some {args rest:List AV} (h:qR args=some rest):args=.undef :: .undef :: rest:=by
 unfold qR at h;split at h
 ·injection h with h; subst h; rfl
 ·cases h
theorem GW (hm:P.follows .mixedOrders=true) {T:Nat->Option MA} {ext:JB} (hT:∀ f c,T f=some c->cA P f c) (xt:∀ f args S r,ext f args S=some r->DD P O f args S r) :
  ∀ N,(∀ f args S r,uE T ext N f args S=some r->DD P O f args S r)/\LpOk P O N (BK T ext N)/\H3 P O (kM T ext N)
 | 0=>by
  refine ⟨fun f args S r h=>?_,fun _ _ _ _ _ _ _ _ _ _ _ _ _ _ _ h _ _=>(by cases h),fun _ _ _ _ _ h=>(by cases h)⟩;unfold uE at h;split at h
  ·exact xt f args S r h
  ·cases h
 | N + 1=>by
  obtain ⟨kq,eo,lq⟩:=GW hm hT xt N;refine ⟨fun f args S0 r h=>?_,fun boxes nt B F0 da w0 code b s k r a w Q hc h R hk=>?_,fun f xs s k r h=>?_⟩
  ·unfold uE at h;split at h
   ·exact xt f args S0 r h
   ·rename_i c hTc;obtain ⟨md,fn,pr,we⟩:=hT f c hTc;cases hmk:qR args with
    | some rest =>
     rw [hmk] at h
     match S0,h with
     | some (.agg cs),h =>
      simp only at h;split at h
      ·rename_i hl;rw [markR_some hmk];exact row_sound (lp:=⟨BK T ext N,kM T ext N⟩) hm kq eo lq md pr we hl.1 h
      ·cases h
     | none,h=>cases h
     | some (.int ..),h=>cases h
     | some (.bool _),h=>cases h
     | some (.str _),h=>cases h
     | some .nilP,h=>cases h
     | some (.ptr ..),h=>cases h
     | some (.ip _),h=>cases h
     | some (.bp _),h=>cases h
     | some (.sl ..),h=>cases h
     | some (.bl _),h=>cases h
     | some (.ref ..),h=>cases h
     | some (.mp ..),h=>cases h
     | some (.fn ..),h=>cases h
     | some (.tup _),h=>cases h
     | some .undef,h=>cases h
    | none =>
    rw [hmk] at h;simp only at h;split at h
    ·rename_i hlm;obtain ⟨ia,hmark,hnoit⟩:=hlm;unfold xV at we;split at we
     ·cases we
     ·rename_i code zl;split at we
      ·rename_i cc rr oi hrr;split at we
       ·rename_i aa;injection we with we;obtain ⟨mu,ep⟩:∃ mu,mu=c.mu:=⟨_,rfl⟩;rw [<- ep] at we oi;clear ep;subst we;have uu:fn.params.size + fn.nfree<=fn.ntmps:=aa;have ending:∀ {F0:XO} {av:Av} {w:World} {vs:List Value} {E:Ending->World->Prop},
          eE P O fn.ntmps w.heap.size F0 av w (fun _=>False) (aA.init args S0) { tmps:=vs.toArray++Array.replicate (fn.ntmps - vs.toArray.size) undef,defers:=[] } w →
          (∀ (s':aA) (a':Act) (w':World) (ι:Ix) (Θ:CK) (us:List Value) (xs:List AV),mC P O fn.ntmps w.heap.size F0 av w (fun _=>False) s' a' w' ι Θ->sN ι (avF s' (KC av ι Θ) ι) (DC ι Θ) w' xs us->tX S0 s' xs=some r->E (.returned (JP us)) w')->Calls P f vs.toArray w E:=fun {F0 av w vs E} R hE=>by
         refine calls_of_wp pr zl ?_;refine zF (lp:=⟨BK T ext N,kM T ext N⟩) hm kq eo lq code cc _ _ r _ w _ oi h R fun e s' a' w' R' he=>?_
         have dm:e=.nrm\/e=.ret:=by
          cases e with
          | nrm=>exact .inl rfl
          | ret=>exact .inr rfl
          | exit id=>cases he
         have fi:∃ xs,zT s' rr=some xs/\tX S0 s' (xs.map (AV.frz s'))=some r:=by
          rcases dm with rfl | rfl <;> exact ye.1 he
         obtain ⟨xs,ed,sd⟩:=fi;obtain ⟨ι,Θ,R'⟩:=R';obtain ⟨us,zd,hT'⟩:=EW R' hrr ed;have se:(results fn a'.tmps).run P w'=.ok (JP us) w':=by
          have he:results fn a'.tmps=(do let vs <- fn.results.mapM (jO a'.tmps); pure (if h:vs.size=1 then vs[0] else .tuple vs)):=rfl;rw [he,Array.mapM_eq_mapM_toList];simp only [Sem.run_bind,Sem.run_map,zd,Result.andThen_ok,Sem.run_pure];rfl
         have post:a'.defers=[]/\∃ v,(results fn a'.tmps).run P w'=.ok v w'/\E (.returned v) w':=⟨R'.defers,_,se,hE s' a' w' ι Θ us _ R' (hT'.frz R') sd⟩;rcases dm with rfl | rfl <;> exact post
        refine (DD.of hmark).2 ⟨md,?_⟩;obtain ⟨r1,r2⟩:=r;cases S0 with
        | none =>
         cases r2 with
         | none =>
          intro av w vs oe rd;refine ending (A1 rd oe ia uu) fun s' a' w' ι Θ us xs R' hs sd=>?_
          refine ⟨_,rfl,?_,R'.kept.below⟩;simp only [tX] at sd;split at sd
          ·rename_i za;injection sd with sd;injection sd with sd;subst sd;exact kY (hs.toT (fun b o h=>⟨.inl h,fun ⟨t,n,r,hm,hb⟩=>by
            obtain ⟨_,b',cur,ty,wa,_,_,pk,_⟩:=R'.rows t n r hm;rw [hb] at wa;injection wa with wa;subst wa;have:=oe _ _ h;have:=pk.elim id False.elim;omega⟩) fun v hv=>y6.1 za v hv)
          ·split at sd
           ·split at sd
            ·split at sd <;> cases sd
            ·cases sd
           ·cases sd
         | some S' =>
          intro av w vs oe rd;refine ending (A1 rd oe ia uu) fun s' a' w' ι Θ us xs R' hs sd=>?_
          simp only [tX] at sd;split at sd
          ·cases sd
          ·split at sd
           ·rename_i t n _;split at sd
            ·rename_i S hS;split at sd
             ·rename_i za;injection sd with sd;injection sd with hfv1 hfv2;injection hfv2 with hfv2;subst hfv1;subst hfv2;obtain ⟨p,H,hp,uc,ne,_⟩:=R'.objs t n S hS;refine ⟨_,p,H,rfl,?_,ne,fun b hb=>(((R'.obs t n H uc).1 b hb).1).elim id False.elim,R'.kept.below⟩;have nc:∀ v∈xs,((QJ t n v).free||(QJ t n v).isObj)=true:=fun v hv=>y6.1 za _ (Y00 hv)
              refine pack_repN (hs.toO hp (fun b o h=>?_) nc) fun v hv=>y6.1 za v hv
              refine ⟨?_,fun ⟨t',n',r,hm,hb⟩=>?_⟩
              ·rcases h with h | h
               ·exact .inl h
               ·exact .inr (.inl (.inr ⟨t,n,H,uc,h⟩))
              ·obtain ⟨nb,b',cur,ty,wa,_,_,pk,_⟩:=R'.rows t' n' r hm;rw [hb] at wa;injection wa with wa;subst wa;rcases h with h | h
               ·have:=oe _ _ h;have:=pk.elim id False.elim;omega
               ·have e:=((R'.obs t n H uc).1 b h).2.2.1 t' n' hb;rw [e.1,e.2,uc] at nb;cases nb
             ·cases sd
            ·cases sd
           ·cases sd
        | some S =>
         cases r2 with
         | none =>
          trivial
         | some S' =>
          intro av w vs p H oe hH ne rd;have hni:noIt S=true:=hnoit;refine ending (init_some rd oe hH ne hni ia uu) fun s' a' w' ι Θ us xs R' hs sd=>?_
          simp only [tX] at sd;split at sd
          ·rename_i za;obtain ⟨S1,hS1,sd⟩:=yn.1 sd;injection sd with hfv1 hfv2;injection hfv2 with hfv2;subst hfv1;subst hfv2;obtain ⟨p',H',hp,uc,mt,_⟩:=R'.objs 0 0 S1 hS1;have px:=(R'.pin p rfl).1;rw [px] at hp;injection hp with hp;subst hp;refine ⟨_,H',rfl,kY (hs.toT (fun b o h=>?_) fun v hv=>y6.1 za v hv),mt,fun b hb=>(((R'.obs 0 0 H' uc).1 b hb).1).symm,R'.kept⟩;refine ⟨?_,fun ⟨t',n',r,hm,hb⟩=>?_⟩
           ·rcases h with h | h
            ·exact .inl h
            ·exact .inr (.inl (.inr ⟨0,0,H',uc,h⟩))
           ·obtain ⟨nb,b',cur,ty,wa,_,_,pk,_⟩:=R'.rows t' n' r hm;rw [hb] at wa;injection wa with wa;subst wa;rcases h with h | h
            ·have:=oe _ _ h;have:=pk.elim id False.elim;omega
            ·have e:=((R'.obs 0 0 H' uc).1 b h).2.2.1 t' n' hb;rw [e.1,e.2,uc] at nb;cases nb
          ·cases sd
       ·cases we
      ·cases we
    ·cases h
  ·unfold BK at h;rw [rounds_succ];refine zF (lp:=⟨BK T ext N,kM T ext N⟩) hm kq eo lq code b s _ r a w _ hc h R fun e s' a' w' R' he=>?_
   cases e with
   | nrm=>exact eo boxes nt B F0 da w0 code b s' k r a' w' Q hc he R' hk
   | exit id=>exact hk _ _ _ _ R' he
   | ret=>exact hk _ _ _ _ R' he
  ·unfold kM at h;split at h
   ·cases h
   ·rename_i c hTc;obtain ⟨md,fn,pr,we⟩:=hT f c hTc;split at h
    ·rename_i ia;exact L9 (lp:=⟨BK T ext N,kM T ext N⟩) hm kq eo lq md pr we ia h
    ·cases h
end
end
section
section
variable {α:Type}
def BB (p:Nat->Prop):Prop:=∃ n,∀ m,n<=m->p m
theorem BB.and {p q:Nat->Prop} (h:BB p) (h':BB q):BB fun m=>p m/\q m:=by
 obtain ⟨n,h⟩:=h;obtain ⟨n',h'⟩:=h';exact ⟨max n n',fun m hm=>⟨h m (by omega),h' m (by omega)⟩⟩
theorem BB.imp {p q:Nat->Prop} (h:BB p) (hi:∀ m,p m->q m):BB q:=by
 obtain ⟨n,h⟩:=h;exact ⟨n,fun m hm=>hi m (h m hm)⟩
theorem BB.now {p:Prop} (h:p):BB fun _=>p:=⟨0,fun _ _=>h⟩
theorem BB.succ {p:Nat->Prop} (h:BB p):BB fun m=>p (m + 1):=by
 obtain ⟨n,h⟩:=h;exact ⟨n,fun m hm=>h (m + 1) (by omega)⟩
theorem BB.pred {p:Nat->Prop} (h:BB fun m=>p (m + 1)):BB p:=by
 obtain ⟨n,h⟩:=h;exact ⟨n + 1,fun m hm=>by have:=h (m - 1) (by omega); simp only at this; rwa [show m - 1 + 1=m from by omega] at this⟩
theorem BB.some {p:Nat->Prop} (h:BB p):∃ m,p m:=by
 obtain ⟨n,h⟩:=h;exact ⟨n,h n (yj _)⟩
theorem T8 {s:aA} {callA:JB} {callB:Nat->JB} (hc:∀ f args S r,callA f args S=some r->BB fun m=>callB m f args S=some r) (k:K) {xe:wA × TD} (h:k.run callA s=some xe):BB fun m=>k.run (callB m) s=some xe:=by
 cases k with
 | call cl f xs =>
  simp only [K.run] at h ⊢;cases hl:TF s cl xs with
  | none=>rw [hl] at h; cases h
  | some vs =>
   rw [hl] at h;simp only [J] at h ⊢;split at h
   ·obtain ⟨r,hr,h⟩:=ye.1 h;exact (hc f vs _ r hr).imp fun m hm=>by rw [hm]; exact h
   ·obtain ⟨r,hr,h⟩:=ye.1 h;exact (hc f vs _ r hr).imp fun m hm=>by rw [hm]; exact h
   ·cases h
 | callf cl f z xs=>cases h
 | callv cl x xs =>
  simp only [K.run] at h ⊢;split at h
  ·rename_i f cs hx
   try simp only [hx]
   split at h
   ·rename_i vs ws hl hw ho
    try simp only [hl,hw,ho]
    obtain ⟨r,hr,h⟩:=ye.1 h;exact (hc f (vs++ws) _ r hr).imp fun m hm=>by rw [hm]; exact h
   ·cases h
  ·cases h
 | callr cl f xs =>
  simp only [K.run] at h ⊢;split at h
  ·rename_i t n hp
   try simp only [hp]
   split at h
   ·rename_i sa;simp only [if_pos sa];split at h
    ·rename_i r vs hr hv
     try simp only [hr,hv]
     split at h
     ·rename_i za;simp only [if_pos za];obtain ⟨q,hq,h⟩:=ye.1 h;exact (hc f _ _ q hq).imp fun m hm=>by rw [hm]; exact h
     ·cases h
    ·cases h
   ·cases h
  ·cases h
 | _=>exact BB.now h
theorem step_late {s s1:aA} {callA:JB} {callB:Nat->JB} (hc:∀ f args S r,callA f args S=some r->BB fun m=>callB m f args S=some r) (o:TA) (h1:o.step callA s=some s1):BB fun m=>o.step (callB m) s=some s1:=by
 unfold TA.step at h1 ⊢;cases hg:o.guard with
 | none =>
  rw [hg] at h1;simp only at h1 ⊢;obtain ⟨xe,hx,he⟩:=ye.1 h1;exact (T8 hc o.op hx).imp fun m hm=>by rw [hm]; exact he
 | some p =>
  obtain ⟨t,want⟩:=p;rw [hg] at h1;simp only at h1 ⊢;cases hv:(s.env t).v with
  | bool b =>
   rw [hv] at h1;simp only at h1 ⊢;by_cases hb:b=want
   ·rw [if_pos hb] at h1;simp only [if_pos hb];obtain ⟨xe,hx,he⟩:=ye.1 h1;exact (T8 hc o.op hx).imp fun m hm=>by rw [hm]; exact he
   ·rw [if_neg hb] at h1;simp only [if_neg hb];exact BB.now h1
  | tup l=>rw [hv] at h1; cases l with
   | nil=>exact BB.now h1
   | cons=>cases h1
  | _=>rw [hv] at h1; cases h1
def uV (hA:HpT) (hB:Nat->HpT):Prop:=∀ f xs s k r (km:Nat->wA->aA->Option RV),(∀ y s' r',k y s'=some r'->BB fun m=>km m y s'=some r')->hA f xs s k=some r->BB fun m=>hB m f xs s (km m)=some r
theorem fX {s:aA} {lhA:LH} {lhB:Nat->LH} (hh:uV lhA.h fun m=>(lhB m).h) (d:Option Nat) (nt:Nat) (x:aC) (xs:List aC) {k:aA->Option RV} {r:RV} {km:Nat->aA->Option RV} (hk:∀ s' r',k s'=some r'->BB fun m=>km m s'=some r') (h:KO lhA d nt x xs s k=some r):BB fun m=>KO (lhB m) d nt x xs s (km m)=some r:=by
 unfold KO at h ⊢;split at h
 ·rename_i f cs hx
  try simp only [hx]
  exact hh _ _ _ _ _ (fun m y s'=>km m ((s'.leave nt).put d y)) (fun y s' r' h'=>hk _ _ h') h
 ·cases h
theorem BB.all {l:List Nat} {Q:Nat->Nat->Prop} (h:∀ i∈l,BB fun m=>Q i m):BB fun m=>∀ i∈l,Q i m:=by
 induction l with
 | nil=>exact ⟨0,fun m _ i hi=>by cases hi⟩
 | cons a r ih =>
  refine ((h a yl).and (ih fun i hi=>h i (yo _ hi))).imp fun m hm i hi=>?_
  rcases yg.1 hi with rfl | hi
  ·exact hm.1
  ·exact hm.2 i hi
theorem HX {s:aA} (d:Option Nat) (x:aC) {k:aA->Option RV} {r:RV} {km:Nat->aA->Option RV} (hk:∀ s' r',k s'=some r'->BB fun m=>km m s'=some r') (h:GX d x s k=some r):BB fun m=>GX d x s (km m)=some r:=by
 unfold GX at h;cases h
theorem stepK_late {s:aA} {callA:JB} {callB:Nat->JB} {lhA:LH} {lhB:Nat->LH} (hc:∀ f args S r,callA f args S=some r->BB fun m=>callB m f args S=some r) (hh:uV lhA.h fun m=>(lhB m).h) (o:TA) {k:aA->Option RV} {r:RV} {km:Nat->aA->Option RV} (hk:∀ s' r',k s'=some r'->BB fun m=>km m s'=some r') (h:o.stepK callA lhA s k=some r):BB fun m=>o.stepK (callB m) (lhB m) s (km m)=some r:=by
 obtain ⟨d,op,g⟩:=o;by_cases fb:isH op=true
 ·cases op with
  | callh nt x xs =>
   simp only [TA.stepK,BJ] at h ⊢;cases g with
   | none=>exact fX hh d nt x xs hk h
   | some p =>
    obtain ⟨t,want⟩:=p;simp only at h ⊢;cases hv:(s.env t).v with
    | bool b =>
     rw [hv] at h;simp only at h ⊢;by_cases hb:b=want
     ·rw [if_pos hb] at h;simp only [if_pos hb];exact fX hh d nt x xs hk h
     ·rw [if_neg hb] at h;simp only [if_neg hb];exact hk _ _ h
    | tup l=>rw [hv] at h; cases l with
     | nil=>exact hk _ _ h
     | cons=>cases h
    | _=>rw [hv] at h; cases h
  | nxt x =>
   simp only [TA.stepK,BJ] at h ⊢;cases g with
   | none=>exact HX d x hk h
   | some p =>
    obtain ⟨t,want⟩:=p;simp only at h ⊢;cases hv:(s.env t).v with
    | bool b =>
     rw [hv] at h;simp only at h ⊢;by_cases hb:b=want
     ·rw [if_pos hb] at h;simp only [if_pos hb];exact HX d x hk h
     ·rw [if_neg hb] at h;simp only [if_neg hb];exact hk _ _ h
    | tup l=>rw [hv] at h; cases l with
     | nil=>exact hk _ _ h
     | cons=>cases h
    | _=>rw [hv] at h; cases h
  | _=>cases fb
 ·have fb:isH op=false:=by simpa using fb
  rw [AI fb] at h;obtain ⟨s1,h1,h2⟩:=ye.1 h;exact ((step_late hc ⟨d,op,g⟩ h1).and (hk _ _ h2)).imp fun m hm=>by rw [AI fb,hm.1]; exact hm.2
theorem X7 {callA:JB} {callB:Nat->JB} {lhA:LH} {lhB:Nat->LH} (hc:∀ f args S r,callA f args S=some r->BB fun m=>callB m f args S=some r) (hh:uV lhA.h fun m=>(lhB m).h):∀ (ops:List TA) {s:aA} {k:aA->Option RV} {r:RV} {km:Nat->aA->Option RV},(∀ s' r',k s'=some r'->BB fun m=>km m s'=some r')->OG callA lhA ops s k=some r->BB fun m=>OG (callB m) (lhB m) ops s (km m)=some r
 | [],s,k,r,km,hk,h=>hk _ _ h
 | o :: l,s,k,r,km,hk,h=>stepK_late hc hh o (km:=fun m s=>OG (callB m) (lhB m) l s (km m)) (fun s' r' h'=>X7 hc hh l hk h') h
theorem XD {callA:JB} {lpA:LH} {callB:Nat->JB} {lpB:Nat->LH} (hc:∀ f args S r,callA f args S=some r->BB fun m=>callB m f args S=some r) (hh:uV lpA.h fun m=>(lpB m).h)
  (hl:∀ b s k r (km:Nat->Ex->aA->Option RV),(∀ e s' r',k e s'=some r'->BB fun m=>km m e s'=some r')->lpA b s k=some r->BB fun m=>lpB m b s (km m)=some r) :
  ∀ (c:C) (s:aA) (k:Ex->aA->Option RV) (r:RV) (km:Nat->Ex->aA->Option RV),(∀ e s' r',k e s'=some r'->BB fun m=>km m e s'=some r')->c.run callA lpA s k=some r->BB fun m=>c.run (callB m) (lpB m) s (km m)=some r
 | .skip,s,k,r,km,hk,h=>hk _ _ _ h
 | .exit id,s,k,r,km,hk,h=>hk _ _ _ h
 | .ret,s,k,r,km,hk,h=>hk _ _ _ h
 | .seq a b,s,k,r,km,hk,h=>by
  refine XD hc hh hl a s _ r (fun m e s'=>match e with | .nrm=>b.run (callB m) (lpB m) s' (km m) | e=>km m e s') (fun e s' r' h'=>?_) h;cases e with
  | nrm=>exact XD hc hh hl b s' k r' km hk h'
  | exit id=>exact hk _ _ _ h'
  | ret=>exact hk _ _ _ h'
 | .reg ops,s,k,r,km,hk,h=>by
  simp only [C.run] at h ⊢;exact X7 hc hh ops (km:=fun m s=>km m .nrm { s with next:=s.next + 1 }) (fun s' r' h'=>hk _ _ _ h') h
 | .cond x t e,s,k,r,km,hk,h=>by
  simp only [C.run] at h ⊢;cases hv:x.get s with
  | bool b =>
   rw [hv] at h;cases b with
   | true=>exact XD hc hh hl t s k r km hk (by simpa using h)
   | false=>exact XD hc hh hl e s k r km hk (by simpa using h)
  | _=>rw [hv] at h; cases h
 | .block id b,s,k,r,km,hk,h=>by
  refine XD hc hh hl b s _ r (fun m e s'=>match e with | .exit j=>if j=id then km m .nrm s' else km m (.exit j) s' | e=>km m e s') (fun e s' r' h'=>?_) h;cases e with
  | nrm=>exact hk _ _ _ h'
  | ret=>exact hk _ _ _ h'
  | exit j =>
   simp only at h' ⊢;by_cases e:j=id
   ·rw [if_pos e] at h'; simp only [if_pos e]; exact hk _ _ _ h'
   ·rw [if_neg e] at h'; simp only [if_neg e]; exact hk _ _ _ h'
 | .loop b,s,k,r,km,hk,h=>hl b s k r km hk h
variable {T:Nat->Option MA} {ext:JB}
theorem N_mono {ext':JB} (hx:∀ f args S r,ext f args S=some r->ext' f args S=some r):∀ N,(∀ f args S r,uE T ext N f args S=some r->BB fun m=>uE T ext' m f args S=some r) ∧
  (∀ b s k r (km:Nat->Ex->aA->Option RV),(∀ e s' r',k e s'=some r'->BB fun m=>km m e s'=some r')->BK T ext N b s k=some r->BB fun m=>BK T ext' m b s (km m)=some r) ∧
  uV (kM T ext N) (kM T ext')
 | 0=>by
  refine ⟨fun f args S r h=>⟨0,fun m _=>?_⟩,fun b s k r km _ h=>(by cases h),fun f xs s k r km _ h=>(by cases h)⟩;unfold uE at h;cases hT:T f with
  | none=>rw [hT] at h; cases m <;> (unfold uE; rw [hT]; exact hx _ _ _ _ h)
  | some c=>rw [hT] at h; cases h
 | N + 1=>by
  obtain ⟨kq,eo,lq⟩:=N_mono hx N;refine ⟨?_,?_,?_⟩
  ·intro f args S0 r h;unfold uE at h;cases hT:T f with
   | none=>rw [hT] at h; exact ⟨0,fun m _=>by cases m <;> (unfold uE; rw [hT]; exact hx _ _ _ _ h)⟩
   | some c =>
    rw [hT] at h;cases hm:qR args with
    | some rest =>
     cases S0 with
     | none=>rw [hm] at h; cases h
     | some S =>
      cases S with
      | agg cs =>
       rw [hm] at h;simp only at h;split at h
       ·rename_i hl;refine BB.pred ((XD (lpA:=⟨BK T ext N,kM T ext N⟩) (lpB:=fun m=>⟨BK T ext' m,kM T ext' m⟩) kq lq eo c.code _ _ r (fun _=>iG c cs.length) (fun e s' r' h'=>BB.now h') h).imp fun m tc=>?_);unfold uE;rw [hT];simp only [hm];rw [if_pos hl];exact tc
       ·cases h
      | _=>rw [hm] at h; cases h
    | none =>
     rw [hm] at h;simp only at h;split at h
     ·rename_i hl;refine BB.pred ((XD (lpA:=⟨BK T ext N,kM T ext N⟩) (lpB:=fun m=>⟨BK T ext' m,kM T ext' m⟩) kq lq eo c.code _ _ r (fun _=>fin c S0) (fun e s' r' h'=>BB.now h') h).imp fun m tc=>?_);unfold uE;rw [hT];simp only [hm];rw [if_pos hl];exact tc
     ·cases h
  ·intro b s k r km hk h;unfold BK at h;refine BB.pred ((XD (lpA:=⟨BK T ext N,kM T ext N⟩) (lpB:=fun m=>⟨BK T ext' m,kM T ext' m⟩) kq lq eo b s _ r (fun m=>tL (BK T ext' m) b (km (m + 1))) (fun e s' r' h'=>?_) h).imp fun m hm=>?_)
   ·cases e with
    | nrm=>exact eo b s' k r' (fun m=>km (m + 1)) (fun e s'' r'' h''=>(hk e s'' r'' h'').succ) h'
    | exit id=>exact (hk _ _ _ h').succ
    | ret=>exact (hk _ _ _ h').succ
   ·unfold BK;exact hm
  ·intro f xs s k r km hk h;unfold kM at h;cases hT:T f with
   | none=>rw [hT] at h; cases h
   | some c =>
    rw [hT] at h;simp only at h;split at h
    ·rename_i hl;refine BB.pred ((XD (lpA:=⟨BK T ext N,kM T ext N⟩) (lpB:=fun m=>⟨BK T ext' m,kM T ext' m⟩) kq lq eo c.code _ _ r (fun m=>mP c (km (m + 1))) (fun e s' r' h'=>?_) h).imp fun m hm=>?_)
     ·cases e with
      | exit id=>cases h'
      | nrm =>
       simp only [mP] at h' ⊢;obtain ⟨y,hy,h'⟩:=ye.1 h';simp only [hy,J];exact (hk _ _ _ h').succ
      | ret =>
       simp only [mP] at h' ⊢;obtain ⟨y,hy,h'⟩:=ye.1 h';simp only [hy,J];exact (hk _ _ _ h').succ
     ·unfold kM;rw [hT];simp only;rw [if_pos hl];exact hm
    ·cases h
theorem HL:∀ N,(∀ f args S r,uE T ext N f args S=some r->BB fun m=>uE T ext m f args S=some r) ∧
  (∀ b s k r (km:Nat->Ex->aA->Option RV),(∀ e s' r',k e s'=some r'->BB fun m=>km m e s'=some r')->BK T ext N b s k=some r->BB fun m=>BK T ext m b s (km m)=some r)/\uV (kM T ext N) (kM T ext):=N_mono fun _ _ _ _ h=>h
open Classical in
noncomputable def dF (T:Nat->Option MA) (ext:JB) (f:Nat) (args:List AV) (S0:Option AV):Option RV:=if h:∃ r n,uE T ext n f args S0=some r then some h.choose else none
open Classical in
noncomputable def WI (T:Nat->Option MA) (ext:JB):LpT:=fun b s k=>if h:∃ r n,BK T ext n b s k=some r then some h.choose else none
open Classical in
noncomputable def evH (T:Nat->Option MA) (ext:JB):HpT:=fun f xs s k=>if h:∃ r n,kM T ext n f xs s k=some r then some h.choose else none
noncomputable def RJ (T:Nat->Option MA) (ext:JB):LH:=⟨WI T ext,evH T ext⟩
theorem eM {f:Nat} {args:List AV} {S0:Option AV} {r:RV}:dF T ext f args S0=some r ↔ ∃ n,uE T ext n f args S0=some r:=by
 unfold dF;constructor
 ·intro h;split at h
  ·rename_i hh; injection h with h; exact h ▸ hh.choose_spec
  ·cases h
 ·rintro ⟨n,hn⟩;have hh:∃ r n,uE T ext n f args S0=some r:=⟨r,n,hn⟩;rw [dif_pos hh];obtain ⟨n',zf⟩:=hh.choose_spec;obtain ⟨m,h1,h2⟩:=(((HL n).1 f args S0 r hn).and ((HL n').1 f args S0 _ zf)).some;rw [h1] at h2;exact h2.symm
theorem rX {b:C} {s:aA} {k:Ex->aA->Option RV} {r:RV}:WI T ext b s k=some r ↔ ∃ n,BK T ext n b s k=some r:=by
 unfold WI;constructor
 ·intro h;split at h
  ·rename_i hh; injection h with h; exact h ▸ hh.choose_spec
  ·cases h
 ·rintro ⟨n,hn⟩;have hh:∃ r n,BK T ext n b s k=some r:=⟨r,n,hn⟩;rw [dif_pos hh];obtain ⟨n',zf⟩:=hh.choose_spec;obtain ⟨m,h1,h2⟩:=(((HL n).2.1 b s k r (fun _=>k) (fun e s' r' h=>BB.now h) hn).and ((HL n').2.1 b s k _ (fun _=>k) (fun e s' r' h=>BB.now h) zf)).some;rw [h1] at h2;exact h2.symm
theorem wX {f:Nat} {xs:List wA} {s:aA} {k:wA->aA->Option RV} {r:RV}:evH T ext f xs s k=some r ↔ ∃ n,kM T ext n f xs s k=some r:=by
 unfold evH;constructor
 ·intro h;split at h
  ·rename_i hh; injection h with h; exact h ▸ hh.choose_spec
  ·cases h
 ·rintro ⟨n,hn⟩;have hh:∃ r n,kM T ext n f xs s k=some r:=⟨r,n,hn⟩;rw [dif_pos hh];obtain ⟨n',zf⟩:=hh.choose_spec;obtain ⟨m,h1,h2⟩:=(((HL n).2.2 f xs s k r (fun _=>k) (fun e s' r' h=>BB.now h) hn).and ((HL n').2.2 f xs s k _ (fun _=>k) (fun e s' r' h=>BB.now h) zf)).some;rw [h1] at h2;exact h2.symm
theorem J6 (f:Nat) (args:List AV) (S0:Option AV) (r:RV) (h:dF T ext f args S0=some r):BB fun m=>uE T ext m f args S0=some r:=by
 obtain ⟨n,hn⟩:=eM.1 h;exact (HL n).1 f args S0 r hn
theorem K6 (b:C) (s:aA) (k:Ex->aA->Option RV) (r:RV) (km:Nat->Ex->aA->Option RV) (hk:∀ e s' r',k e s'=some r'->BB fun m=>km m e s'=some r') (h:WI T ext b s k=some r):BB fun m=>BK T ext m b s (km m)=some r:=by
 obtain ⟨n,hn⟩:=rX.1 h;exact (HL n).2.1 b s k r km hk hn
theorem ev_late3:uV (evH T ext) (kM T ext):=fun f xs s k r km hk h=>by
 obtain ⟨n,hn⟩:=wX.1 h;exact (HL n).2.2 f xs s k r km hk hn
theorem xS (c:C) (s:aA) (k:Ex->aA->Option RV) (r:RV) (km:Nat->Ex->aA->Option RV) (hk:∀ e s' r',k e s'=some r'->BB fun m=>km m e s'=some r') (h:c.run (dF T ext) (RJ T ext) s k=some r):BB fun m=>c.run (uE T ext m) ⟨BK T ext m,kM T ext m⟩ s (km m)=some r :=
 XD (lpA:=RJ T ext) (lpB:=fun m=>⟨BK T ext m,kM T ext m⟩) J6 ev_late3 K6 c s k r km hk h
theorem gQ {f:Nat} {args:List AV} {S0:Option AV} {r:RV} (c:MA) (hT:T f=some c) (hl:args.length=c.np) (h:c.code.run (dF T ext) (RJ T ext) (aA.init args S0) (fin c S0)=some r) (hm:gJ args=false:=by rfl) (hS:noItO S0=true:=by rfl):dF T ext f args S0=some r:=by
 obtain ⟨m,tc⟩:=(xS c.code _ _ r (fun _=>fin c S0) (fun e s' r' h'=>BB.now h') h).some;refine eM.2 ⟨m + 1,?_⟩;have hR:qR args=none:=by
  unfold qR;split
  ·cases hm
  ·rfl
 unfold uE;rw [hT];simp only [hR];rw [if_pos ⟨hl,hm,hS⟩];exact tc
theorem mD {f:Nat} {args cs:List AV} {r:RV} (c:MA) (hT:T f=some c) (hl:args.length=c.np) (h:c.code.run (dF T ext) (RJ T ext) (aA.initR args cs) (iG c cs.length)=some r) (hm:gJ args=false:=by rfl):dF T ext f (.undef :: .undef :: args) (some (.agg cs))=some r:=by
 obtain ⟨m,tc⟩:=(xS c.code _ _ r (fun _=>iG c cs.length) (fun e s' r' h'=>BB.now h') h).some;refine eM.2 ⟨m + 1,?_⟩;unfold uE;rw [hT];simp only [qR];rw [if_pos ⟨hl,hm⟩];exact tc
theorem KT {f:Nat} {xs:List wA} {s:aA} {k:wA->aA->Option RV} {r:RV} (c:MA) (hT:T f=some c) (hl:xs.length=c.np) (h:c.code.run (dF T ext) (RJ T ext) (s.initH xs) (mP c k)=some r):evH T ext f xs s k=some r:=by
 obtain ⟨m,tc⟩:=(xS c.code _ _ r (fun _=>mP c k) (fun e s' r' h'=>BB.now h') h).some;refine wX.2 ⟨m + 1,?_⟩;unfold kM;rw [hT];simp only;rw [if_pos hl];exact tc
theorem evC_ext {f:Nat} {args:List AV} {S0:Option AV} {r:RV} (hT:T f=none) (h:ext f args S0=some r):dF T ext f args S0=some r:=by
 refine eM.2 ⟨0,?_⟩;unfold uE;rw [hT];exact h
theorem iA {b:C} {s:aA} {k:Ex->aA->Option RV} {r:RV} (h:b.run (dF T ext) (RJ T ext) s (tL (WI T ext) b k)=some r):WI T ext b s k=some r:=by
 have:=xS b s _ r (fun m=>tL (BK T ext m) b k) (fun e s' r' h'=>by
  cases e with
  | nrm=>exact K6 b s' k r' (fun _=>k) (fun e s'' r'' h''=>BB.now h'') h'
  | exit id=>exact BB.now h'
  | ret=>exact BB.now h') h
 obtain ⟨m,hm⟩:=this.some;refine rX.2 ⟨m + 1,?_⟩;unfold BK;exact hm
theorem L6 {P:Program} {O:PH} (hm:P.follows .mixedOrders=true) (hT:∀ f c,T f=some c->cA P f c) (xt:∀ f args S r,ext f args S=some r->DD P O f args S r) {f:Nat} {args:List AV} {S0:Option AV} {r:RV} (h:dF T ext f args S0=some r):DD P O f args S0 r:=by
 obtain ⟨n,hn⟩:=eM.1 h;exact (GW hm hT xt n).1 f args S0 r hn
end
end
section
open Go Go.RowKit Go.ChangeShapes Go.WideShapes Go.Deep
section
variable {H:Type} {enc:TypeId × Value->H} {P:Program} {w:World} {base:Nat} {spare:Nat->Bool} {held:Bool}
theorem Rows_of {av:Av} {b sz:Nat}:∀ {els:List (List AV)} {off:Nat},(∀ wc∈els,wc.length=sz)->(∀ (i:Nat) (wc:List AV),els[i]?=some wc->RE av w wc b (off + i * sz))->Rows av w els b off
 | [],_,_,_=>by simp [Rows]
 | wc :: r,off,hl,h=>by
  simp only [Rows];have h0:=h 0 wc rfl;rw [Nat.zero_mul,Nat.add_zero] at h0;refine ⟨h0,Rows_of (fun x hx=>hl x (yo _ hx)) fun i x hx=>?_⟩;have:=h (i + 1) x (by simpa using hx);rw [hl wc yl,show off + sz + i * sz=off + (i + 1) * sz from by rw [yy]; omega];exact this
abbrev Av0:Av:=fun _ _=>False
end
end
section
open Go Go.RowKit Go.ChangeShapes Go.WideShapes Go.Deep
def jM (P:Program) (t:TypeId):Bool:=match P.underlying t with
 | some (.struct _) | some (.array ..)=>true
 | _=>false
section
variable {H:Type} {enc:TypeId × Value->H} {P:Program} {w:World} {base:Nat} {spare:Nat->Bool} {held:Bool}
theorem G0 (hl:laidOutB P=true) {W W':World} (hb:Below W.heap.size W W'):∀ {ts:List TypeId} {vs:List Value} {ds:List (DataW H)} {p:List MemPlace},DataW.TrodAll enc P W 0 (fun _=>true) true ts vs ds p->ts.all (fun t=>P.readableRec t&&decide (t<P.types.size))=true →
  DataW.TrodAll enc P W' 0 (fun b=>decide (b<W.heap.size)) true ts vs ds p
 | [],vs,ds,p,h,_=>by
  cases vs with
  | nil=>cases ds with
   | nil=>exact h
   | cons=>exact h.elim
  | cons=>cases ds <;> exact h.elim
 | t :: ts,vs,ds,p,h,hs=>by
  have fa:=DataW.TrodAll.lt h;obtain ⟨v,mw,d,ds',p',q',rfl,rfl,rfl,h0,h⟩:=trodAll_cons h;simp only [List.all_cons,y7,decide_eq_true_eq] at hs;exact trodAll_cons_mk (Below.trod hl hs.1.1 hs.1.2 h0 hb fun x hx=>fa x (yS _ hx)) (G0 hl hb h hs.2)
end
end
section
open Go Go.RowKit Go.ChangeShapes Go.WideShapes Go.Deep
def pP (P:Program) (r:TypeId->List AV->Prop):List Field->List AV->Prop
 | [],wc=>wc=[]
 | f :: fs,wc=>∃ a b,wc=a++b/\a.length=P.cellsOf f.type/\r f.type a/\pP P r fs b
def ArrT (P:Program) (r:TypeId->List AV->Prop) (e:TypeId):Nat->List AV->Prop
 | 0,wc=>wc=[]
 | n + 1,wc=>∃ a b,wc=a++b/\a.length=P.cellsOf e/\r e a/\ArrT P r e n b
def lM (P:Program):Nat->TypeId->List AV->Prop
 | 0,_,_=>False
 | n + 1,t,wc=>match P.underlying t with
  | some .bool=>∃ b,wc=[.bool b]
  | some (.int k)=>∃ i,wc=[.int k i]/\(Lit.int k i).wf=true
  | some .string=>∃ s,wc=[.str s]/\s.size<=maxLen
  | some (.slice e)=>∃ nl els,wc=[.sl nl els]/\els.length<=maxLen/\els.length * P.bytesOf e<=reachBytes/\(nl=true->els=[])/\∀ x∈els,x.length=P.cellsOf e/\lM P n e x
  | some (.struct fs)=>pP P (lM P n) fs.toList wc
  | some (.array k e)=>ArrT P (lM P n) e k wc
  | _=>False
def aX (P:Program) (ts:List TypeId):Nat->Nat->List Field->Bool
 | off,total,[]=>decide (off=total)
 | off,total,f :: fs=>decide (f.offset=off)&&ts.contains f.type&&aX P ts (off + P.cellsOf f.type) total fs
def QP (P:Program) (ts:List TypeId) (t:TypeId):Bool:=match P.underlying t with
 | some .bool | some (.int _) | some .string=>decide (P.cellsOf t=1)
 | some (.slice e)=>ts.contains e&&decide (0<P.cellsOf e)&&decide (P.cellsOf t=1)
 | some (.struct fs)=>aX P ts 0 (P.cellsOf t) fs.toList
 | some (.array k e)=>ts.contains e&&decide (0<P.cellsOf e)&&decide (k * P.cellsOf e=P.cellsOf t)
 | _=>false
section
variable {H:Type} {enc:TypeId × Value->H} {P:Program} {w:World} {base:Nat} {spare:Nat->Bool} {held:Bool}
theorem Z7 {t e:TypeId} {fuel:Nat} {cs:List Value} {x:DataW H × List MemPlace} (ht:P.underlying t=some (.slice e)) (h:DataW.trod enc P w base spare held fuel t cs=some x) :
  (∃ n,fuel=n + 1)/\((cs=[.slice none 0 0]) ∨
  ∃ (a:Addr) (len cap n:Nat) (y:Nat->DataW H × List MemPlace) (D sp:List (DataW H)),cs=[.slice (some a) len cap]/\fuel=n + 1/\len<=cap/\cap<=maxLen/\x.1=.slice D sp/\D.length=len/\(∀ i,i<len->(y i).1∈D) ∧
   ∀ i,i<len->∃ ba,w.cells? base (a.add (i * P.cellsOf e)) (P.cellsOf e)=some ba/\DataW.trod enc P w base spare held n e ba=some (y i)):=by
 refine ⟨?_,?_⟩
 ·cases fuel with
  | zero=>simp [DataW.trod] at h
  | succ n=>exact ⟨n,rfl⟩
 rcases DataW.trod_slice ht h with h0 | ⟨a,len,cap,elems,rest,n,tq,rfl,rfl,hb,hl,hm,ia,ac,jv,hns⟩
 ·exact Or.inl h0.1
 right;refine ⟨a,len,cap,n,fun i=>elems.getD i (.nil,[]),elems.map (·.1),rest.map (·.1),rfl,tq,hl,hm,rfl,by simpa using ia,fun i hi=>?_,fun i hi=>?_⟩
 ·have e:elems.getD i (.nil,[])=elems[i]'(by omega):=by simp [List.getD,y5 (show i<elems.length by omega)]
  show (elems.getD i (.nil,[])).1∈_;rw [e];exact Y00 (y8 _)
 have key:=ac i hi;rw [y5 (by omega)] at key;obtain ⟨ba,h1,h2⟩:=ye.1 key;refine ⟨ba,h1,?_⟩;rw [h2];simp [List.getD,y5 (show i<elems.length by omega)]
theorem tQ {e:TypeId}:∀ {D:List (DataW H)} {d:DataW H},d∈D->∀ m∈d.weights P e,m∈DataW.weightsAll P e D
 | d0 :: r,d,h,m,hm=>by
  simp only [DataW.weightsAll,yx];rcases yg.1 h with rfl | h
  ·exact .inl hm
  ·exact .inr (tQ h m hm)
def tM (P:Program) (t:TypeId) (d:DataW H):Prop:=∀ m∈d.weights P t,m<=reachBytes
section
variable {t e:TypeId} {D sp:List (DataW H)} (ht:P.underlying t=some (.slice e)) (h:tM P t (.slice D sp))
include t e D sp ht h
theorem light_elem {d:DataW H} (hd:d∈D):tM P e d:=fun m hm=>h m (by
 simp only [DataW.weights,ht,yg,yx];exact .inr (.inl (tQ hd m hm)))
theorem light_len:D.length * P.bytesOf e<=reachBytes:=by
 have:=h ((D.length + sp.length) * P.bytesOf e) (by simp [DataW.weights,ht]);exact Nat.le_trans (yZ _ (by omega)) this
end
theorem light_arr {t e:TypeId} {k:Nat} {D:List (DataW H)} (ht:P.underlying t=some (.array k e)) (h:tM P t (.agg D)) {d:DataW H} (hd:d∈D):tM P e d:=fun m hm=>h m (by
 simp only [DataW.weights,ht];exact tQ hd m hm)
theorem z7 {t:TypeId} {fs:Array Field} {D:List (DataW H)} (ht:P.underlying t=some (.struct fs)) (h:tM P t (.agg D)) {i:Nat} {f:Field} {d:DataW H} (hf:fs.toList[i]?=some f) (hd:D[i]?=some d):tM P f.type d:=fun m hm=>h m (by
 simp only [DataW.weights,ht];exact DataW.weights_mem_each (j:=i) (by rw [yc,hf]; rfl) hd m hm)
theorem Z6 {ts:List TypeId} {n:Nat} {cs:List Value}
  (ih:∀ (t:TypeId) (cs:List Value) (x:DataW H × List MemPlace),ts.contains t=true->tM P t x.1->DataW.trod enc P w base spare held n t cs=some x->∃ wc,lD Av0 w wc cs/\lM P n t wc/\wc.length=P.cellsOf t) :
  ∀ (fs:List Field) (off:Nat),aX P ts off cs.length fs=true->(∀ f∈fs,∃ x,tM P f.type x.1/\DataW.trod enc P w base spare held n f.type ((cs.drop f.offset).take (P.cellsOf f.type))=some x)->∃ wc,lD Av0 w wc (cs.drop off)/\pP P (lM P n) fs wc
 | [],off,h,_=>by
  simp only [aX,decide_eq_true_eq] at h;refine ⟨[],?_,rfl⟩;rw [yk (by omega)];rfl
 | f :: fs,off,h,hx=>by
  simp only [aX,y7,decide_eq_true_eq] at h;obtain ⟨⟨ho,ht⟩,h⟩:=h;obtain ⟨x,fa,E5⟩:=hx f yl;obtain ⟨wc,h1,h2,pp⟩:=ih _ _ _ ht fa E5;obtain ⟨bs,h3,h4⟩:=Z6 ih fs (off + P.cellsOf f.type) h fun g hg=>hx g (yo _ hg)
  refine ⟨wc++bs,?_,wc,bs,rfl,pp,h2,h4⟩;have:cs.drop off=(cs.drop off).take (P.cellsOf f.type)++cs.drop (off + P.cellsOf f.type):=by rw [<- List.drop_drop,List.take_append_drop]
  rw [this];rw [ho] at h1;exact RM h1 h3
theorem array_T {e:TypeId} {n:Nat} {cs:List Value} (f:∀ i:Nat,i * P.cellsOf e<cs.length->∃ wc,lD Av0 w wc ((cs.drop (i * P.cellsOf e)).take (P.cellsOf e))/\lM P n e wc/\wc.length=P.cellsOf e) (hp:0<P.cellsOf e) :
  ∀ (m i:Nat),(i + m) * P.cellsOf e=cs.length->∃ wc,lD Av0 w wc (cs.drop (i * P.cellsOf e))/\ArrT P (lM P n) e m wc
 | 0,i,h=>by
  refine ⟨[],?_,rfl⟩;rw [yk (by simp at h; omega)];rfl
 | m + 1,i,h=>by
  have h1:(i + 1 + m) * P.cellsOf e=cs.length:=by rw [<- h]; congr 1; omega
  have hs:(i + 1) * P.cellsOf e=i * P.cellsOf e + P.cellsOf e:=yy i _;have fa:i * P.cellsOf e<cs.length:=by
   have:(i + 1) * P.cellsOf e<=(i + (m + 1)) * P.cellsOf e:=yZ _ (by omega);omega
  obtain ⟨wc,g1,g2,g2'⟩:=f i fa;obtain ⟨av2,g3,g4⟩:=array_T f hp m (i + 1) h1;refine ⟨wc++av2,?_,wc,av2,rfl,g2',g2,g4⟩;have:cs.drop (i * P.cellsOf e)=(cs.drop (i * P.cellsOf e)).take (P.cellsOf e)++cs.drop ((i + 1) * P.cellsOf e):=by rw [hs,<- List.drop_drop,List.take_append_drop]
  rw [this];exact RM g1 g3
theorem TM {av:Av}:∀ {l:List AV} {us:List Value},lD av w l us->l.length=us.length
 | [],us,h=>by simp only [lD] at h; subst h; rfl
 | a :: r,us,h=>by
  simp only [lD] at h;obtain ⟨u,ta,rfl,_,_,h⟩:=h;simp [TM h]
theorem W5 {ts:List TypeId} (hg:ts.all (QP P ts)=true):∀ (n:Nat) (t:TypeId) (cs:List Value) (x:DataW H × List MemPlace),ts.contains t=true->tM P t x.1->DataW.trod enc P w base spare held n t cs=some x->∃ wc,lD Av0 w wc cs/\lM P n t wc/\wc.length=P.cellsOf t
 | 0,t,cs,x,_,_,hx=>by simp [DataW.trod] at hx
 | n + 1,t,cs,x,la,hlw,hx=>by
  have h:QP P ts t=true:=y6.1 hg t (by simpa using la);unfold QP at h;split at h
  ·rename_i ht;simp only [decide_eq_true_eq] at h;obtain ⟨b,rfl,_⟩:=DataW.trod_bool ht hx;exact ⟨[.bool b],⟨_,_,rfl,rfl,rfl,rfl⟩,by simp only [lM,ht]; exact ⟨b,rfl⟩,by simp [h]⟩
  ·rename_i kk ht;simp only [decide_eq_true_eq] at h;obtain ⟨b,rfl,_,hw⟩:=DataW.trod_int ht hx;exact ⟨[.int kk b],⟨_,_,rfl,rfl,rfl,rfl⟩,by simp only [lM,ht]; exact ⟨b,rfl,hw⟩,by simp [h]⟩
  ·rename_i ht;simp only [decide_eq_true_eq] at h;obtain ⟨b,rfl,_,hw⟩:=DataW.trod_string ht hx;exact ⟨[.str b],⟨_,_,rfl,rfl,rfl,rfl⟩,by simp only [lM,ht]; exact ⟨b,rfl,hw⟩,by simp [h]⟩
  ·rename_i e ht;simp only [y7,decide_eq_true_eq] at h;obtain ⟨⟨he,lb⟩,pt⟩:=h;rcases (Z7 ht hx).2 with rfl | ⟨a,len,cap,n',y,D,sp,rfl,hn,bc,rq,hxe,hDl,hyD,hi⟩
   ·exact ⟨[.sl true []],⟨_,_,rfl,⟨none,0,rfl,yj _,(fun _ h=>by cases h),fun _=>⟨rfl,rfl,rfl⟩,fun h=>by cases h⟩,rfl,rfl⟩,by simp only [lM,ht]; exact ⟨true,[],rfl,Nat.zero_le _,by simp,fun _=>rfl,(fun _ h=>by cases h)⟩,by simp [pt]⟩
   ·have zf:n'=n:=by omega
    subst zf;rw [hxe] at hlw;have bo:=light_len ht hlw;rw [hDl] at bo;have na:∀ i:Nat,∃ wc:List AV,i<len->((wc.length=P.cellsOf e/\lM P n' e wc)/\∃ us,lD Av0 w wc us/\us.length=P.cellsOf e/\∀ j,j<P.cellsOf e->w.cell? ((a.add (i * P.cellsOf e)).add j)=us[j]?):=fun i=>by
     by_cases fa:i<len
     ·obtain ⟨us,pt,hc2⟩:=hi i (by omega);obtain ⟨wc,h1,h2,pp⟩:=W5 hg n' e us _ he (light_elem ht hlw (hyD i fa)) hc2;obtain ⟨_,g1,g2⟩:=World.cells?_some pt;exact ⟨wc,fun _=>⟨⟨pp,h2⟩,us,h1,g1,g2⟩⟩
     ·exact ⟨[],fun h=>absurd h fa⟩
    have bn:=Classical.axiomOfChoice na;obtain ⟨f,hf⟩:=bn;have pf:∀ wc∈(List.range len).map f,wc.length=P.cellsOf e/\lM P n' e wc:=fun wc ha=>by
     obtain ⟨i,nd,rfl⟩:=yp.1 ha;exact (hf i (List.mem_range.1 nd)).1
    refine ⟨[.sl false ((List.range len).map f)],⟨_,_,rfl,⟨some a,cap,by simp,by simpa using bc,fun x hx y hy=>((pf x hx).1).trans ((pf y hy).1).symm,(fun h=>by cases h),fun _=>⟨fun h=>(by cases h),fun h0=>?_⟩⟩,rfl,rfl⟩,by simp only [lM,ht]; exact ⟨false,_,rfl,by simp; omega,by simpa using bo,(fun h=>by cases h),pf⟩,by simp [pt]⟩;have wh:0<len:=by simpa using h0
    have hspot:∃ b off,a=⟨b,off,none⟩:=by
     obtain ⟨_,us,_,g1,g2⟩:=hf 0 wh;have g3:=g2 0 lb;simp only [Nat.zero_mul,Addr.add,if_true] at g3;rw [y5 (by omega)] at g3;obtain ⟨b,off,sp⟩:=a;cases sp with
     | none=>exact ⟨b,off,rfl⟩
     | some q =>
      simp only [World.cell?] at g3;split at g3
      ·simp at g3
      ·cases g3
    obtain ⟨b,off,rfl⟩:=hspot;refine ⟨b,off,rfl,Rows_of (fun x hx=>(pf x hx).1) fun i wc mj=>?_⟩;rw [yc] at mj;obtain ⟨i',nd,rfl⟩:=yn.1 mj;rw [y9] at nd;obtain ⟨fa,fi⟩:=nd;simp at fa fi;subst fi;obtain ⟨_,us,g0,g1,g2⟩:=hf i fa;refine RK g0 fun j u hu=>⟨?_,fun h=>h⟩
    have hj:j<P.cellsOf e:=by rw [<- g1]; exact (y9.1 hu).1
    have:=g2 j hj;rw [Addr.add_lit,Addr.add_lit,hu] at this;exact this
  ·rename_i fs ht;obtain ⟨xs,n',hn,rfl,ia,lw,hf⟩:=DataW.trod_struct ht hx;have zf:n'=n:=by omega
   subst zf;rw [<- ia] at h;obtain ⟨wc,h1,h2⟩:=Z6 (cs:=cs) (n:=n') (fun t cs x=>W5 hg n' t cs x) fs.toList 0 h fun g hg=>by
    obtain ⟨i,hi,he⟩:=yq hg;have nd:i<fs.size:=by simpa using hi
    have h1:=hf i g (by rw [<- he]; simp [nd]);refine ⟨xs[i]'(by omega),z7 ht hlw (i:=i) (f:=g) (by rw [<- he]; simp [nd]) ?_,by rw [h1]; exact y5 (by omega)⟩;rw [yc,y5 (by omega)];rfl
   rw [List.drop_zero] at h1;exact ⟨wc,h1,by simp only [lM,ht]; exact h2,(TM h1).trans ia⟩
  ·rename_i k e ht;simp only [y7,decide_eq_true_eq] at h;obtain ⟨⟨he,lb⟩,pt⟩:=h;obtain ⟨xs,m,hm,rfl,ia,lw,hf⟩:=DataW.trod_array ht hx;have tc:m=n:=by omega
   subst tc;obtain ⟨wc,h1,h2⟩:=array_T (cs:=cs) (n:=m) (e:=e) (fun i hi=>by
    have hik:i<k:=by
     rw [ia,<- pt] at hi;exact Nat.lt_of_mul_lt_mul_right hi
    have h1:=hf i hik;rw [y5 (by omega)] at h1;exact W5 hg m e _ _ he (light_arr ht hlw (Y00 (y8 _))) h1) lb k 0 (by rw [yK,ia,pt])
   rw [Nat.zero_mul,List.drop_zero] at h1;exact ⟨wc,h1,by simp only [lM,ht]; exact h2,(TM h1).trans ia⟩
  ·cases h
def ParT (P:Program) (t:TypeId) (a:AV):Prop:=∃ n,(jM P t=true/\∃ cs,a=.agg cs/\lM P n t cs)\/(jM P t=false/\lM P n t [a])
def ArgsT (P:Program):List TypeId->List AV->Prop
 | [],xs=>xs=[]
 | t :: ts,xs=>∃ a r,xs=a :: r/\ParT P t a/\ArgsT P ts r
theorem par_T {ts:List TypeId} (hg:ts.all (QP P ts)=true) {t:TypeId} {r:Reach} {b0:Nat} {v:Value} {d:DataW H} {p:List MemPlace} (hs:ts.contains t=true) (hv:Value.okWide P w r b0 t v) (hlw:tM P t d) (h:DataW.Trod enc P w base spare held t v d p) :
  ∃ a,tB Ix.none Av0 Av0 w a v/\ParT P t a:=by
 obtain ⟨fuel,hf⟩:=h;obtain ⟨xs,h1,h2,_⟩:=W5 hg fuel t _ _ hs hlw hf;have one:∀ (u:Value),v=u->v.cells.toList=[u]->jM P t=false->(∀ a,lM P fuel t [a]->a.leaf=true)->∃ a,tB Ix.none Av0 Av0 w a v/\ParT P t a:=fun u hu hc hw lu=>by
  rw [hc] at h1;have hl:=TM h1
  match xs,hl with
  | [a],_ =>
   simp only [lD] at h1;obtain ⟨u',_,e,h0,_,_⟩:=h1;injection e with e;subst e;exact ⟨a,by rw [hu]; exact sV h0 (lu a h2),fuel,.inr ⟨hw,h2⟩⟩
 cases fuel with
 | zero=>exact h2.elim
 | succ k =>
  have sr:QP P ts t=true:=y6.1 hg t (by simpa using hs);unfold QP at sr;split at sr
  ·rename_i ht;obtain ⟨b,rfl⟩:=okWide_bool ht hv;refine one _ rfl rfl (by simp [jM,ht]) fun a ha=>?_
   simp only [lM,ht] at ha;obtain ⟨b',e⟩:=ha;injection e with e;subst e;rfl
  ·rename_i kk ht;obtain ⟨b,rfl⟩:=okWide_int ht hv;refine one _ rfl rfl (by simp [jM,ht]) fun a ha=>?_
   simp only [lM,ht] at ha;obtain ⟨b',e,_⟩:=ha;injection e with e;subst e;rfl
  ·rename_i ht;obtain ⟨b,rfl⟩:=okWide_string ht hv;refine one _ rfl rfl (by simp [jM,ht]) fun a ha=>?_
   simp only [lM,ht] at ha;obtain ⟨b',e,_⟩:=ha;injection e with e;subst e;rfl
  ·rename_i e' ht;obtain ⟨A,n,c,rfl⟩:=okWide_slice ht hv;refine one _ rfl rfl (by simp [jM,ht]) fun a ha=>?_
   simp only [lM,ht] at ha;obtain ⟨nl,els,e,_⟩:=ha;injection e with e;subst e;rfl
  ·rename_i fs ht;have:∃ cs,v=.agg cs:=by
    simp only [Value.okWide,ht] at hv;obtain ⟨cs,hv,_⟩:=hv;exact ⟨cs,hv⟩
   obtain ⟨cs,rfl⟩:=this;exact ⟨.agg xs,⟨cs,rfl,GD h1⟩,k + 1,.inl ⟨by simp [jM,ht],xs,rfl,h2⟩⟩
  ·rename_i n' e' ht;have:∃ cs,v=.agg cs:=by
    simp only [Value.okWide,ht] at hv;obtain ⟨cs,hv,_⟩:=hv;exact ⟨cs,hv⟩
   obtain ⟨cs,rfl⟩:=this;exact ⟨.agg xs,⟨cs,rfl,GD h1⟩,k + 1,.inl ⟨by simp [jM,ht],xs,rfl,h2⟩⟩
  ·cases sr
theorem args_T {T:List TypeId} (hg:T.all (QP P T)=true) {r:Reach} {b0:Nat}:∀ {ts:List TypeId} {vs:List Value} {ds:List (DataW H)} {p:List MemPlace},DataW.TrodAll enc P w base spare held ts vs ds p->(∀ (j:Nat) t v,ts[j]?=some t->vs[j]?=some v->Value.okWide P w r b0 t v)->(∀ m∈DataW.weightsEach P ts ds,m<=reachBytes)->ts.all (fun t=>T.contains t)=true →
  ∃ xs,JL Ix.none Av0 Av0 w xs vs/\ArgsT P ts xs
 | [],vs,ds,p,h,_,_,_=>by
  cases vs with
  | nil=>exact ⟨[],rfl,rfl⟩
  | cons=>cases ds <;> exact h.elim
 | t :: ts,vs,ds,p,h,hv,hw,hs=>by
  obtain ⟨v,mw,d,ds',p',q',rfl,rfl,rfl,h0,h⟩:=trodAll_cons h;simp only [DataW.weightsEach,yx] at hw;simp only [List.all_cons,y7] at hs;obtain ⟨a,h1,h2⟩:=par_T hg hs.1 (hv 0 t v rfl rfl) (fun m hm=>hw m (.inl hm)) h0;obtain ⟨xs,h3,h4⟩:=args_T hg h (fun j t' v' e e'=>hv (j + 1) t' v' (by simpa using e) (by simpa using e')) (fun m hm=>hw m (.inr hm)) hs.2;exact ⟨a :: xs,⟨v,mw,rfl,h1,h3⟩,a,xs,rfl,h2,h4⟩
end
end
section
open Go Go.RowKit
section
variable {P:Program}
end
set_option maxHeartbeats 1000000
end
section
open Go Go.RowKit
variable {O:PH}
end
abbrev oM (d n:Nat):TA:=⟨some d,.mv (.t n),none⟩
abbrev oF (d a n:Nat):TA:=⟨some d,.faddr a (.t n),none⟩
abbrev oL (d n:Nat):TA:=⟨some d,.load .any false 1 (.t n),none⟩
abbrev oA (d z n:Nat):TA:=⟨some d,.load .any true z (.t n),none⟩
abbrev oB (d:Nat)(o:BinOp)(a b:Nat):TA:=⟨some d,.bin o false (.t a) (.t b),none⟩
abbrev oC (d:Nat)(o:BinOp)(a:Nat)(n:Int):TA:=⟨some d,.bin o false (.t a) (.c (.int .i64 n)),none⟩
abbrev oX (d n i:Nat):TA:=⟨some d,.ext (.t n) i,none⟩
abbrev oV (z a b:Nat):TA:=⟨none,.store .any true z (.t a) (.t b),none⟩
abbrev oW (a b:Nat):TA:=⟨none,.store .any false 1 (.t a) (.t b),none⟩
abbrev oI (d z a b:Nat):TA:=⟨some d,.iaddr z (.t a) (.t b),none⟩
abbrev oJ (d:Nat)(n:Int):TA:=⟨some d,.mv (.c (.int .i64 n)),none⟩
abbrev oH (d n:Nat):TA:=⟨some d,.len false (.t n),none⟩
abbrev oU (d n:Nat):TA:=⟨some d,.un .not (.t n),none⟩
abbrev oZ (d:Nat)(b:Bool):TA:=⟨some d,.mv (.c (.bool b)),none⟩
abbrev oK (d n:Nat):TA:=⟨some d,.nilchk (.t n),none⟩
abbrev oY (d:Nat)(l:List AV):TA:=⟨some d,.alloc l,none⟩
abbrev oQ (d z n:Nat):TA:=⟨some d,.box z (.t n),none⟩
abbrev oS (d:Nat)(k:K):TA:=⟨some d,k,none⟩
abbrev oN (k:K):TA:=⟨none,k,none⟩
abbrev oG (d:Nat)(k:K)(g:Nat)(b:Bool):TA:=⟨some d,k,some (g,b)⟩
abbrev oP (d n g:Nat)(b:Bool):TA:=⟨some d,.load .any false 1 (.t n),some (g,b)⟩
abbrev oR (l:List TA)(c:C):C:=.seq (.reg l) c
abbrev oD (n:Nat)(a b:C):C:=.cond (.t n) a b
abbrev oFg (d o n g:Nat)(b:Bool):TA:=⟨some d,.faddr o (.t n),some (g,b)⟩
abbrev oPa (d a b:Nat):TA:=⟨some d,.pick (.t a) (.t b) (.c (.bool false)),none⟩
abbrev oPo (d a b:Nat):TA:=⟨some d,.pick (.t a) (.c (.bool true)) (.t b),none⟩
abbrev oMg (d n g:Nat)(b:Bool):TA:=⟨some d,.mv (.t n),some (g,b)⟩
abbrev oC1 (d f a:Nat):TA:=⟨some d,.call .any f [.t a],none⟩
abbrev oC2 (d f a b:Nat):TA:=⟨some d,.call .any f [.t a,.t b],none⟩
abbrev oC4 (d f a b c e:Nat):TA:=⟨some d,.call .any f [.t a,.t b,.t c,.t e],none⟩
abbrev oLr (d r z n:Nat):TA:=⟨some d,.load (.root r) false z (.t n),none⟩
abbrev oLg (d z n g:Nat)(b:Bool):TA:=⟨some d,.load .any true z (.t n),some (g,b)⟩
abbrev oBg (d:Nat)(o:BinOp)(a b g:Nat)(w:Bool):TA:=⟨some d,.bin o false (.t a) (.t b),some (g,w)⟩
abbrev oCi (d:Nat)(o:BinOp)(a:Nat)(n:Int)(g:Nat)(w:Bool):TA:=⟨some d,.bin o false (.t a) (.c (.int .i64 n)),some (g,w)⟩
abbrev oHg (d n g:Nat)(b:Bool):TA:=⟨some d,.len false (.t n),some (g,b)⟩
abbrev oUg (d n g:Nat)(b:Bool):TA:=⟨some d,.un .not (.t n),some (g,b)⟩
abbrev oIg (d z a b g:Nat)(w:Bool):TA:=⟨some d,.iaddr z (.t a) (.t b),some (g,w)⟩
abbrev oAp (d e z y a b:Nat):TA:=⟨some d,.app .any e z y (.t a) (.t b),none⟩
abbrev oPb (d a b g:Nat)(w:Bool):TA:=⟨some d,.pick (.t a) (.t b) (.c (.bool false)),some (g,w)⟩
abbrev oCg (d f a b g:Nat)(w:Bool):TA:=⟨some d,.call .any f [.t a,.t b],some (g,w)⟩
abbrev zza:List AV:=[(.int .i64 0),(.bool false),(.int .i64 0),(.str (ByteArray.mk #[])),(.int .i64 0),(.sl true []),(.sl true []),(.sl true [])]
abbrev zzb:List AV:=[(.int .i64 0),(.bool false),(.int .i64 0),(.str (ByteArray.mk #[])),(.int .i64 0),(.sl true []),(.sl true []),(.sl true []),(.sl true []),(.bool false)]
abbrev zzc:List AV:=[(.int .i64 0),(.str (ByteArray.mk #[]))]
abbrev zzd:List AV:=[(.int .u8 0),(.int .u8 0),(.int .u8 0),(.int .u8 0),(.sl true [])]
abbrev zze:List AV:=[(.int .i64 0),(.str (ByteArray.mk #[])),(.int .i64 0),(.int .i64 0),(.int .i64 0),(.sl true []),(.sl true []),(.int .i64 0),(.int .i64 0),(.bool false)]
abbrev zzf:List AV:=[(.int .u8 0),(.int .u8 0),(.int .u8 0),(.int .u8 0)]
abbrev zzg:List AV:=[(.int .u8 0),(.int .u8 0),(.int .u8 0)]
abbrev zzh:List AV:=[(.int .i64 0),(.str (ByteArray.mk #[])),(.int .i64 0),(.bool false),(.bool false),(.int .i64 0),(.bool false),(.int .i64 0),(.str (ByteArray.mk #[])),(.int .i64 0),(.sl true []),(.sl true []),(.sl true [])]
abbrev zzi:List AV:=[(.sl true []),(.sl true []),(.sl true []),(.sl true [])]
abbrev zzj:List AV:=[(.sl true []),(.sl true []),(.bool false)]
noncomputable def cF (l:List Nat) (f:Func):MA:=(xV Tryz.prog l f).getD ⟨.skip,[],0,[]⟩
def OB:MA:=⟨(oR [oQ 2 4 0,oZ 4 false] (oR [oA 14 4 2,oC1 15 24 14,oM 13 15,oX 16 13 0,oX 17 13 1,oX 18 13 2,oS 5 (.alloc [(.sl true []),(.int .i64 0)]),oS 6 (.alloc [(.sl true []),(.int .i64 0)]),oV 2 5 16,oV 2 6 17,oM 7 18] (.seq (oR [oS 19 (.call .any 25 []),oU 20 19,oM 21 20,oMg 22 7 21 false,oUg 23 22 21 false,oPo 24 21 23] (oD 24 (oR [oS 25 (.call .any 25 []),oM 4 25] .ret) .skip)) (oR [oF 26 0 5,oA 27 1 26,oF 28 1 5,oL 29 28,oM 30 1,oS 31 (.call .any 26 [(.t 27),(.t 29),(.t 30)]),oY 8 zza,oV 8 8 31] (oR [oA 33 2 5,oA 34 2 6,oC2 35 27 33 34,oM 32 35,oX 36 32 0,oX 37 32 1,oM 9 36,oM 10 37] (.seq (oR [oM 38 10,oC 39 .neq 38 0,oM 40 39,oLg 41 8 8 40 false,oG 42 (.call .any 28 [(.t 41)]) 40 false,oUg 43 42 40 false,oPo 44 40 43] (oD 44 (oR [oM 45 10,oC 46 .eql 45 0,oM 4 46] .ret) .skip)) (oR [oF 48 0 5,oA 49 1 48,oF 50 1 5,oL 51 50,oA 52 8 8,oF 53 0 6,oA 54 1 53,oF 55 1 6,oL 56 55,oS 57 (.call .any 29 [(.t 49),(.t 51),(.t 52),(.t 54),(.t 56)]),oM 47 57,oX 58 47 0,oX 59 47 1,oY 11 zza,oV 8 11 58,oM 12 59] (oR [oM 60 12,oC 61 .eql 60 0,oM 62 61,oMg 63 12 62 false,oCi 64 .eql 63 12 62 false,oMg 65 64 62 false,oMg 66 9 65 true,oUg 67 66 65 true,oPb 68 65 67 62 false,oPo 69 62 68,oM 4 69] .ret)))))))),[(.tmp 4)],2,[]⟩
theorem okF {n:Nat} {f:Func} {c:MA} (h:Tryz.prog.funcs[n]?=some f) (a:∀ xs w,(callFunc n xs).run Tryz.prog w=.ok (.enter n xs) w:=by intro _ _;kernel_rfl) (b:xV Tryz.prog c.mu f=some c:=by kernel_rfl):cA Tryz.prog n c:=⟨a,f,h,b⟩
theorem jJ:cA Tryz.prog 5 OB:=okF Tryz.func5
def HE:MA:=⟨(oR [oQ 1 4 0,oS 2 (.alloc [(.sl true []),(.int .i64 0)]),oS 3 (.alloc [(.sl true []),(.int .i64 0)]),oZ 4 false] (oR [oF 11 0 1,oA 12 1 11,oC1 13 50 12,oM 10 13,oX 14 10 0,oX 15 10 1,oS 5 (.alloc [(.sl true [])]),oV 1 5 14,oM 6 15] (oR [oF 17 0 1,oA 18 1 17,oF 19 1 1,oL 20 19,oC2 21 52 18 20,oC1 22 50 21,oM 16 22,oX 23 16 0,oX 24 16 1,oS 7 (.alloc [(.sl true [])]),oV 1 7 23,oM 8 24] (.seq (oR [oM 25 6,oU 26 25,oM 27 26,oMg 28 8 27 false,oUg 29 28 27 false,oPo 30 27 29,oM 31 30,oFg 32 1 1 31 false,oP 33 32 31 false,oHg 34 33 31 false,oCi 35 .gtr 34 5 31 false,oPo 36 31 35] (oD 36 (oR [oS 37 (.build [(.sl true []),(.int .i64 0)] []),oS 38 (.build [(.sl true []),(.int .i64 0)] []),oV 2 2 37,oV 2 3 38,oZ 4 false] .ret) .skip)) (oR [oS 39 (.load (.root 5) true 1 (.t 5)),oF 40 2 1,oLr 41 1 1 40,oS 42 (.conv (.some .i64) (.t 41)),oF 43 0 5,oLr 44 5 1 43,oH 45 44,oB 46 .rem 42 45,oS 47 (.build [(.sl true []),(.int .i64 0)] [(0,(1,(.t 39))),(1,(1,(.t 46)))]),oS 9 (.alloc [(.sl true []),(.int .i64 0)]),oN (.store (.root 9) true 2 (.t 9) (.t 47))] (oR [oS 48 (.load (.root 9) true 2 (.t 9)),oS 49 (.load (.root 7) true 1 (.t 7)),oF 50 1 9,oLr 51 9 1 50,oF 52 3 1,oLr 53 1 1 52,oS 54 (.conv (.some .i64) (.t 53)),oB 55 .add 51 54,oF 56 0 7,oLr 57 7 1 56,oH 58 57,oB 59 .rem 55 58,oS 60 (.build [(.sl true []),(.int .i64 0)] [(0,(1,(.t 49))),(1,(1,(.t 59)))]),oN (.store (.root 2) true 2 (.t 2) (.t 48)),oN (.store (.root 3) true 2 (.t 3) (.t 60)),oZ 4 true] .ret)))))),[(.cell 2 true 2),(.cell 3 true 2),(.tmp 4)],1,[]⟩
theorem K7:cA Tryz.prog 24 HE:=okF Tryz.func24
noncomputable def LQ:MA:=cF [] Tryz.f25
theorem KX:cA Tryz.prog 25 LQ:=okF Tryz.func25
noncomputable def aS:MA:=cF [] Tryz.f26
theorem WZ:cA Tryz.prog 26 aS:=okF Tryz.func26
def CC:MA:=⟨(oR [oQ 2 2 0,oQ 3 2 1,oZ 4 false,oJ 5 0] (oR [oA 10 2 2,oA 11 2 3,oC2 12 34 10 11,oM 9 12,oX 13 9 0,oX 14 9 1,oX 15 9 2,oM 6 13,oM 7 14,oM 8 15] (.seq (oR [oM 16 8] (.block 0 (oR [oC 18 .eql 16 15,oM 17 18] (oD 17 (oR [oZ 4 true,oJ 5 0] .ret) (oR [oC 20 .eql 16 0,oM 19 20] (oD 19 (oR [oZ 4 false,oJ 5 0] .ret) .skip)))))) (oR [oM 21 8,oZ 4 false,oM 5 21] .ret)))),[(.tmp 4),(.tmp 5)],2,[]⟩
theorem fO:cA Tryz.prog 27 CC:=okF Tryz.func27
def kK:MA:=⟨(oR [oQ 1 8 0,oZ 2 false] (oR [oA 3 8 1,oS 4 (.call .any 57 [(.t 3),(.c (.int .i64 3000))]),oC 5 .geq 4 0,oM 2 5] .ret)),[(.tmp 2)],1,[]⟩
theorem qY:cA Tryz.prog 28 kK:=okF Tryz.func28
def iF:MA:=⟨(oR [oQ 5 1 0,oQ 7 8 2,oQ 8 1 3,oY 10 zza,oJ 11 0] (.seq (oR [oA 14 1 5,oM 15 1,oA 16 8 7,oA 17 1 8,oM 18 4,oS 19 (.call .any 58 [(.t 14),(.t 15),(.t 16),(.t 17),(.t 18)]),oM 12 19] (oR [oM 20 12,oC 21 .neq 20 0] (oD 21 (oR [oS 22 (.build zza []),oM 23 12,oV 8 10 22,oM 11 23] .ret) .skip))) (oR [oA 24 1 5,oM 25 1,oA 26 8 7,oA 27 1 8,oM 28 4,oS 29 (.call .any 59 [(.t 24),(.t 25),(.t 26),(.t 27),(.t 28),(.c (.sl true []))]),oY 13 zzb,oV 10 13 29] (.seq (oR [oF 30 9 13,oL 31 30,oU 32 31] (oD 32 (oR [oS 33 (.build zza []),oV 8 10 33,oJ 11 12] .ret) .skip)) (oR [oF 34 0 13,oA 35 8 34,oV 8 10 35,oJ 11 0] .ret))))),[(.cell 10 true 8),(.tmp 11)],5,[]⟩
theorem PU:cA Tryz.prog 29 iF:=okF Tryz.func29
noncomputable def QN:MA:=cF [] Tryz.f31
theorem sT:cA Tryz.prog 31 QN:=okF Tryz.func31
def nE:C:=.seq (oR [oM 44 10,oC 45 .geq 44 0] (oD 45 .skip (.exit 2))) (.seq (.block 3 (.reg [oM 50 13,oM 51 8,oM 52 10,oI 53 2 51 52,oA 54 2 53,oS 55 (.bsl [(.int .i64 0),(.int .i64 0)] 1 [(0,(.t 54))]),oS 56 (.appm .any 113 2 16 (.t 50) (.t 55)),oM 13 56])) (.reg [oM 46 9,oM 47 10,oI 48 1 46 47,oL 49 48,oM 10 49]))
def RF:C:=oR [oB 29 .lss 28 27] (.seq (oD 29 .skip (.exit 0)) (.seq (.block 1 (oR [oM 30 28,oI 31 2 26 28,oA 32 2 31,oY 11 [(.int .i64 0),(.int .i64 0)],oM 10 30,oV 2 11 32] (oR [oF 33 0 2,oA 34 1 33,oS 35 (.aaddr 2 1 (.t 11) (.c (.int .i64 0))),oL 36 35,oF 37 0 3,oA 38 1 37,oS 39 (.aaddr 2 1 (.t 11) (.c (.int .i64 1))),oL 40 39,oC4 41 62 34 36 38 40,oM 12 41] (.seq (oR [oM 42 12,oC 43 .eql 42 0] (oD 43 (.exit 1) .skip)) (oR [oS 13 (.mv (.c (.sl true [])))] (.seq (.block 2 (.loop nE)) (oR [oM 57 13,oS 58 (.callh 62 (.c (.fn 68 [])) [(.t 57)])] (oR [oM 59 13,oM 60 12,oM 4 59,oM 5 60,oJ 6 0] .ret)))))))) (.reg [oC 61 .add 28 1,oM 28 61])))
def SF:MA:=⟨(oR [oQ 2 2 0,oQ 3 2 1,oS 4 (.mv (.c (.sl true []))),oJ 5 0,oJ 6 0] (.seq (oR [oA 14 2 2,oA 15 2 3,oC2 16 61 14 15,oM 7 16] (oR [oM 17 7,oC 18 .neq 17 0] (oD 18 (oR [oM 19 7,oS 4 (.mv (.c (.sl true []))),oJ 5 0,oM 6 19] .ret) .skip))) (oR [oA 21 2 2,oA 22 2 3,oC2 23 64 21 22,oM 20 23,oX 24 20 0,oX 25 20 1,oM 8 24,oM 9 25] (.seq (oR [oM 26 8,oH 27 26,oJ 28 0] (.block 0 (.loop RF))) (oR [oS 4 (.mv (.c (.sl true []))),oJ 5 0,oJ 6 15] .ret))))),[(.tmp 4),(.tmp 5),(.tmp 6)],2,[113,1000000 + 68]⟩
theorem aT:cA Tryz.prog 34 SF:=okF Tryz.func34
def mF:C:=oR [oB 17 .lss 16 15] (.seq (oD 17 .skip (.exit 0)) (.seq (.block 1 (oR [oI 18 1 14 16,oL 19 18,oM 7 19] (.reg [oM 20 5,oM 21 7,oC 22 .gtr 21 0,oS 23 (.bsl [(.bool false)] 1 [(0,(.t 22))]),oAp 24 4 1 1 20 23,oM 5 24]))) (.reg [oC 25 .add 16 1,oM 16 25])))
def PF:MA:=⟨(oR [oQ 1 1 0,oS 2 (.mv (.c (.sl true []))),oJ 3 0] (.seq (oR [oA 8 1 1,oC1 9 41 8,oM 4 9] (oR [oM 10 4,oC 11 .neq 10 0] (oD 11 (oR [oM 12 4,oS 2 (.mv (.c (.sl true []))),oM 3 12] .ret) .skip))) (oR [oS 5 (.mv (.c (.sl true [])))] (.seq (oR [oA 13 1 1,oC1 14 42 13,oH 15 14,oJ 16 0] (.block 0 (.loop mF))) (oR [oM 26 5,oM 2 26,oJ 3 0] .ret))))),[(.tmp 2),(.tmp 3)],1,[]⟩
theorem ZS:cA Tryz.prog 10 PF:=okF Tryz.func10
noncomputable def zP:MA:=cF [] Tryz.f12
theorem NV:cA Tryz.prog 12 zP:=okF Tryz.func12
noncomputable def xN:MA:=cF [] Tryz.f14
theorem CS:cA Tryz.prog 14 xN:=okF Tryz.func14
noncomputable def zN:MA:=cF [] Tryz.f16
theorem XS:cA Tryz.prog 16 zN:=okF Tryz.func16
noncomputable def WO:MA:=cF [] Tryz.f17
theorem dU:cA Tryz.prog 17 WO:=okF Tryz.func17
noncomputable def XQ:MA:=cF [] Tryz.f19
theorem tY:cA Tryz.prog 19 XQ:=okF Tryz.func19
def NF:C:=oR [oB 18 .lss 17 16] (.seq (oD 18 .skip (.exit 0)) (.seq (.block 1 (oR [oI 19 1 15 17,oL 20 19,oM 6 20] (oR [oM 21 6,oU 22 21] (oD 22 (oR [oJ 2 10] .ret) .skip)))) (.reg [oC 23 .add 17 1,oM 17 23])))
def sG:MA:=⟨(oR [oQ 1 1 0,oJ 2 0] (oR [oA 8 1 1,oC1 9 10 8,oM 7 9,oX 10 7 0,oX 11 7 1,oM 3 10,oM 4 11] (.seq (oR [oM 12 4,oC 13 .neq 12 0] (oD 13 (oR [oM 14 4,oM 2 14] .ret) .skip)) (.seq (oR [oM 15 3,oH 16 15,oJ 17 0] (.block 0 (.loop NF))) (oR [oJ 2 0] .ret))))),[(.tmp 2)],1,[]⟩
theorem fU:cA Tryz.prog 20 sG:=okF Tryz.func20
def gK:MA:=⟨(oR [oQ 2 8 0,oQ 3 8 1,oZ 4 false] (oR [oA 5 8 2,oA 6 8 3,oC2 7 51 5 6,oM 4 7] .ret)),[(.tmp 4)],2,[]⟩
theorem NX:cA Tryz.prog 23 gK:=okF Tryz.func23
def EG:C:=.seq (oR [oM 69 10,oM 70 9,oH 71 70,oB 72 .lss 69 71] (oD 72 .skip (.exit 3))) (.seq (.block 4 (.reg [oF 75 5 8,oLr 76 8 1 75,oM 77 9,oM 78 10,oI 79 1 77 78,oL 80 79,oM 81 9,oM 82 10,oI 83 1 81 82,oL 84 83,oS 85 (.bin .add false (.c (.int .i64 97)) (.t 84)),oS 86 (.conv (.some .i32) (.t 85)),oS 87 (.rstr (.t 86)),oS 88 (.bin .add false (.c (.str (ByteArray.mk #[115]))) (.t 87)),oS 89 (.build zzc [(0,(1,(.t 80))),(1,(1,(.t 88)))]),oS 90 (.bsl zzc 1 [(0,(.t 89))]),oAp 91 152 2 24 76 90,oF 92 5 8,oN (.store (.root 8) false 1 (.t 92) (.t 91))])) (.reg [oM 73 10,oC 74 .add 73 1,oM 10 74]))
def ZQ:C:=.seq (oR [oM 21 6,oM 22 4,oB 23 .lss 21 22] (oD 23 .skip (.exit 0))) (.seq (.block 1 (oR [oF 26 0 1,oL 27 26,oM 28 6,oI 29 5 27 28,oA 30 5 29,oY 7 zzd,oV 5 7 30] (oR [oA 31 1 1,oM 32 6,oC2 33 81 31 32,oS 34 (.build zze [(0,(1,(.t 33)))]),oY 8 zze,oV 10 8 34] (.seq (oR [oF 35 0 8,oL 36 35,oC1 37 82 36] (oD 37 (.reg [oM 38 6,oS 39 (.bin .add false (.c (.int .i64 65)) (.t 38)),oS 40 (.conv (.some .i32) (.t 39)),oS 41 (.rstr (.t 40)),oF 42 1 8,oW 42 41]) .skip)) (.seq (oR [oF 43 0 8,oL 44 43] (.block 2 (oR [oC 46 .eql 44 2,oM 45 46] (oD 45 (.reg [oS 47 (.load (.root 7) true 5 (.t 7)),oC1 48 83 47,oS 49 (.load (.root 7) true 5 (.t 7)),oC1 50 84 49,oF 51 2 8,oN (.store (.root 8) false 1 (.t 51) (.t 48)),oF 52 3 8,oN (.store (.root 8) false 1 (.t 52) (.t 50))]) (oR [oC 54 .eql 44 3,oM 53 54] (oD 53 (.reg [oF 55 1 7,oL 56 55,oS 57 (.bin .rem false (.t 56) (.c (.int .u8 4))),oS 58 (.conv (.some .i64) (.t 57)),oF 59 4 8,oW 59 58]) (oR [oC 61 .eql 44 4,oM 60 61] (oD 60 (oR [oF 62 2 7,oL 63 62,oS 64 (.bin .rem false (.t 63) (.c (.int .u8 2))),oS 65 (.bin .eql false (.t 64) (.c (.int .u8 1))),oF 66 9 8,oW 66 65] (oR [oA 67 5 7,oC1 68 85 67,oM 9 68] (oR [oJ 10 0] (.block 3 (.loop EG))))) (oR [oC 94 .eql 44 5,oM 93 94] (oD 93 (.reg [oA 95 1 1,oM 96 6,oS 97 (.callh 171 (.c (.fn 86 [])) [(.t 95),(.t 96),(.c (.bool true))]),oF 98 6 8,oW 98 97]) (oR [oC 100 .eql 44 6,oM 99 100] (oD 99 (oR [oF 101 2 7,oL 102 101,oS 103 (.bin .rem false (.t 102) (.c (.int .u8 2))),oS 104 (.bin .eql false (.t 103) (.c (.int .u8 1))),oF 105 9 8,oW 105 104] (oR [oA 106 1 1,oM 107 6,oS 108 (.callh 171 (.c (.fn 86 [])) [(.t 106),(.t 107),(.c (.bool false))]),oF 109 6 8,oW 109 108] (oR [oF 110 6 8,oL 111 110,oH 112 111,oC 113 .eql 112 0] (oD 113 (.reg [oF 114 1 8,oL 115 114,oS 116 (.build zze [(0,(1,(.c (.int .i64 5)))),(1,(1,(.t 115)))]),oV 10 8 116]) .skip)))) (oR [oC 118 .eql 44 7,oM 117 118] (oD 117 (.reg [oF 119 1 7,oLr 120 7 1 119,oS 121 (.bin .rem false (.t 120) (.c (.int .u8 4))),oS 122 (.conv (.some .i64) (.t 121)),oF 123 3 7,oLr 124 7 1 123,oS 125 (.conv (.some .i64) (.t 124)),oM 126 4,oB 127 .rem 125 126,oF 128 4 8,oN (.store (.root 8) false 1 (.t 128) (.t 122)),oF 129 8 8,oN (.store (.root 8) false 1 (.t 129) (.t 127))]) (oR [oC 131 .eql 44 8,oM 130 131] (oD 130 (oR [oF 132 1 7,oLr 133 7 1 132,oS 134 (.bin .rem false (.t 133) (.c (.int .u8 4))),oS 135 (.conv (.some .i64) (.t 134)),oS 136 (.load (.root 1) true 1 (.t 1)),oF 137 2 7,oLr 138 7 1 137,oC2 139 87 136 138,oF 140 3 7,oLr 141 7 1 140,oS 142 (.conv (.some .i64) (.t 141)),oM 143 4,oB 144 .rem 142 143,oF 145 4 8,oN (.store (.root 8) false 1 (.t 145) (.t 135)),oF 146 7 8,oN (.store (.root 8) false 1 (.t 146) (.t 139)),oF 147 8 8,oN (.store (.root 8) false 1 (.t 147) (.t 144))] (oR [oF 148 7 8,oL 149 148,oC 150 .lss 149 0] (oD 150 (.reg [oF 151 4 8,oL 152 151,oF 153 8 8,oL 154 153,oS 155 (.build zze [(0,(1,(.c (.int .i64 7)))),(4,(1,(.t 152))),(8,(1,(.t 154)))]),oV 10 8 155]) .skip))) (oR [oC 157 .eql 44 9,oM 156 157] (oD 156 (.reg [oF 158 3 7,oL 159 158,oS 160 (.conv (.some .i64) (.t 159)),oM 161 4,oB 162 .rem 160 161,oF 163 8 8,oW 163 162]) .skip)))))))))))))))))) (.reg [oF 164 0 5,oL 165 164,oA 166 10 8,oS 167 (.bslr 10 zze 1 [(0,(.t 166))]),oS 168 (.appn .any 87 10 120 (.t 165) (.t 167)),oF 169 0 5,oW 169 168])))))) (.reg [oM 24 6,oC 25 .add 24 1,oM 6 25]))
def lF:MA:=⟨(oR [oQ 1 1 0,oS 2 (.alloc [(.sl true [])]),oZ 3 false] (oR [oF 11 0 1,oL 12 11,oH 13 12,oM 4 13] (.seq (oR [oM 14 4,oC 15 .lss 14 1,oM 16 15,oMg 17 4 16 false,oCi 18 .gtr 17 5 16 false,oPo 19 16 18] (oD 19 (oR [oS 20 (.build [(.sl true [])] []),oV 1 2 20,oZ 3 false] .ret) .skip)) (oR [oS 5 (.alloc [(.sl true [])])] (.seq (oR [oJ 6 0] (.block 0 (.loop ZQ))) (oR [oA 170 1 5,oV 1 2 170,oZ 3 true] .ret)))))),[(.cell 2 true 1),(.tmp 3)],1,[5000000,337,334,1000000 + 86]⟩
theorem F7:cA Tryz.prog 50 lF:=okF Tryz.func50
def TC:C:=.seq (oR [oM 15 6,oM 16 1,oH 17 16,oB 18 .lss 15 17,oM 19 18,oFg 20 0 5 19 true,oP 21 20 19 true,oHg 22 21 19 true,oCi 23 .gtr 22 0 19 true,oPa 24 19 23] (oD 24 .skip (.exit 0))) (.seq (.block 1 (oR [oM 27 1,oM 28 6,oI 29 4 27 28,oA 30 4 29,oY 7 zzf,oV 4 7 30] (oR [oF 31 0 5,oLr 32 5 1 31,oF 33 1 7,oLr 34 7 1 33,oS 35 (.conv (.some .i64) (.t 34)),oF 36 0 5,oLr 37 5 1 36,oH 38 37,oB 39 .rem 35 38,oI 40 5 32 39,oM 8 40] (oR [oM 41 8,oS 42 (.bsl zzg 0 []),oM 43 8,oK 44 43,oF 45 4 44,oL 46 45,oS 47 (.appf .any 160 3 3 (.t 42) (.t 46)),oK 48 41,oF 49 4 48,oW 49 47] (oR [oJ 9 0] (.seq (oR [oM 50 8,oK 51 50,oF 52 4 51,oL 53 52,oH 54 53,oC 55 .gtr 54 0] (oD 55 (.reg [oF 56 2 7,oLr 57 7 1 56,oS 58 (.conv (.some .i64) (.t 57)),oM 59 8,oK 60 59,oF 61 4 60,oL 62 61,oH 63 62,oB 64 .rem 58 63,oM 9 64]) .skip)) (oR [oF 65 0 7,oL 66 65,oS 67 (.bin .rem false (.t 66) (.c (.int .u8 8)))] (.block 2 (oR [oS 93 (.bin .eql false (.t 67) (.c (.int .u8 0))),oM 92 93] (oD 92 (.reg [oM 94 8,oM 95 8,oK 96 95,oF 97 1 96,oL 98 97,oF 99 2 7,oLr 100 7 1 99,oS 101 (.bin .rem false (.t 100) (.c (.int .u8 5))),oB 102 .add 98 101,oS 103 (.bin .sub false (.t 102) (.c (.int .u8 2))),oK 104 94,oF 105 1 104,oW 105 103]) (oR [oS 107 (.bin .eql false (.t 67) (.c (.int .u8 1))),oM 106 107] (oD 106 (.reg [oM 108 8,oM 109 8,oK 110 109,oF 111 2 110,oL 112 111,oF 113 3 7,oLr 114 7 1 113,oS 115 (.bin .rem false (.t 114) (.c (.int .u8 5))),oB 116 .add 112 115,oS 117 (.bin .sub false (.t 116) (.c (.int .u8 2))),oK 118 108,oF 119 2 118,oW 119 117]) (oR [oS 121 (.bin .eql false (.t 67) (.c (.int .u8 2))),oM 120 121] (oD 120 (.reg [oM 122 8,oM 123 8,oK 124 123,oF 125 1 124,oL 126 125,oF 127 2 7,oLr 128 7 1 127,oS 129 (.bin .rem false (.t 128) (.c (.int .u8 6))),oS 130 (.bin .shl false (.c (.int .u8 1)) (.t 129)),oB 131 .xor 126 130,oK 132 122,oF 133 1 132,oW 133 131]) (oR [oS 135 (.bin .eql false (.t 67) (.c (.int .u8 3))),oM 134 135] (oD 134 (.reg [oM 136 8,oM 137 8,oK 138 137,oF 139 3 138,oL 140 139,oF 141 2 7,oLr 142 7 1 141,oB 143 .add 140 142,oK 144 136,oF 145 3 144,oW 145 143]) (oR [oS 147 (.bin .eql false (.t 67) (.c (.int .u8 4))),oM 146 147] (oD 146 (oR [oM 148 8,oK 149 148,oF 150 4 149,oL 151 150,oH 152 151,oC 153 .lss 152 8] (oD 153 (.reg [oM 154 8,oM 155 8,oK 156 155,oF 157 4 156,oL 158 157,oF 159 2 7,oLr 160 7 1 159,oF 161 3 7,oLr 162 7 1 161,oF 163 2 7,oLr 164 7 1 163,oS 165 (.bin .quo false (.t 164) (.c (.int .u8 12))),oS 166 (.build zzg [(0,(1,(.t 160))),(1,(1,(.t 162))),(2,(1,(.t 165)))]),oS 167 (.bsl zzg 1 [(0,(.t 166))]),oS 168 (.appm .any 160 3 3 (.t 158) (.t 167)),oK 169 154,oF 170 4 169,oW 170 168]) .skip)) (oR [oS 172 (.bin .eql false (.t 67) (.c (.int .u8 5))),oM 171 172] (oD 171 (oR [oM 173 8,oK 174 173,oF 175 4 174,oL 176 175,oH 177 176,oC 178 .gtr 177 0] (oD 178 (.reg [oM 179 8,oM 180 8,oK 181 180,oF 182 4 181,oL 183 182,oM 184 9,oS 185 (.slc false 3 (.t 183) .none (.some (.t 184)) .none),oM 186 8,oK 187 186,oF 188 4 187,oL 189 188,oM 190 9,oC 191 .add 190 1,oS 192 (.slc false 3 (.t 189) (.some (.t 191)) .none .none),oS 193 (.appm .any 160 3 3 (.t 185) (.t 192)),oK 194 179,oF 195 4 194,oW 195 193]) .skip)) (oR [oS 197 (.bin .eql false (.t 67) (.c (.int .u8 6))),oM 196 197] (oD 196 (oR [oM 198 8,oK 199 198,oF 200 4 199,oL 201 200,oH 202 201,oC 203 .gtr 202 0] (oD 203 (.reg [oM 204 8,oK 205 204,oF 206 4 205,oL 207 206,oM 208 9,oF 209 3 7,oLr 210 7 1 209,oI 211 3 207 208,oF 212 2 211,oW 212 210]) .skip)) (oR [oM 68 8,oK 69 68,oF 70 4 69,oL 71 70,oH 72 71,oC 73 .gtr 72 0] (oD 73 (.reg [oM 74 8,oK 75 74,oF 76 4 75,oL 77 76,oM 78 9,oM 79 8,oK 80 79,oF 81 4 80,oL 82 81,oM 83 9,oI 84 3 82 83,oF 85 1 84,oL 86 85,oF 87 3 7,oLr 88 7 1 87,oB 89 .add 86 88,oI 90 3 77 78,oF 91 1 90,oW 91 89]) .skip)))))))))))))))))))))))) (.reg [oM 25 6,oC 26 .add 25 1,oM 6 26]))
def gE:MA:=⟨(oR [oQ 2 1 0,oS 4 (.alloc [(.sl true [])])] (oR [oS 10 (.bsl zzd 0 []),oF 11 0 2,oL 12 11,oS 13 (.appf .any 146 5 32 (.t 10) (.t 12)),oS 14 (.build [(.sl true [])] [(0,(1,(.t 13)))]),oS 5 (.alloc [(.sl true [])]),oV 1 5 14] (.seq (oR [oJ 6 0] (.block 0 (.loop TC))) (oR [oA 213 1 5,oV 1 4 213] .ret)))),[(.cell 4 true 1)],2,[26,94,337,387]⟩
theorem WU:cA Tryz.prog 52 gE:=okF Tryz.func52
noncomputable def zV:MA:=cF [22] Tryz.f53
theorem O4:cA Tryz.prog 53 zV:=okF Tryz.func53
noncomputable def uS:MA:=cF [] Tryz.f54
theorem cZ:cA Tryz.prog 54 uS:=okF Tryz.func54
noncomputable def CQ:MA:=cF [] Tryz.f55
theorem pY:cA Tryz.prog 55 CQ:=okF Tryz.func55
noncomputable def pL:MA:=cF [] Tryz.f56
theorem HP:cA Tryz.prog 56 pL:=okF Tryz.func56
def gG:C:=.seq (oR [oM 56 7,oF 57 6 2,oL 58 57,oH 59 58,oB 60 .lss 56 59,oM 61 60,oMg 62 1 61 true,oCi 63 .geq 62 0 61 true,oPa 64 61 63] (oD 64 .skip (.exit 4))) (.seq (.block 5 (.reg [oF 67 6 2,oL 68 67,oM 69 7,oI 70 8 68 69,oA 71 8 70,oM 72 1,oC2 73 57 71 72,oM 1 73])) (.reg [oM 65 7,oC 66 .add 65 1,oM 7 66]))
def jG:C:=.seq (oR [oM 38 6,oF 39 5 2,oL 40 39,oH 41 40,oB 42 .lss 38 41,oM 43 42,oMg 44 1 43 true,oCi 45 .geq 44 0 43 true,oPa 46 43 45] (oD 46 .skip (.exit 2))) (.seq (.block 3 (.reg [oF 49 5 2,oL 50 49,oM 51 6,oI 52 8 50 51,oA 53 8 52,oM 54 1,oC2 55 57 53 54,oM 1 55])) (.reg [oM 47 6,oC 48 .add 47 1,oM 6 48]))
def DO:C:=.seq (oR [oM 18 5,oF 19 7 2,oL 20 19,oH 21 20,oB 22 .lss 18 21,oM 23 22,oMg 24 1 23 true,oCi 25 .geq 24 0 23 true,oPa 26 23 25] (oD 26 .skip (.exit 0))) (.seq (.block 1 (.reg [oM 29 1,oF 30 7 2,oL 31 30,oM 32 5,oI 33 2 31 32,oF 34 1 33,oL 35 34,oS 36 (.len true (.t 35)),oB 37 .sub 29 36,oM 1 37])) (.reg [oM 27 5,oC 28 .add 27 1,oM 5 28]))
def xL:MA:=⟨(oR [oQ 2 8 0,oJ 4 0] (oR [oM 8 1,oF 9 3 2,oL 10 9,oS 11 (.len true (.t 10)),oS 12 (.bin .add false (.c (.int .i64 10)) (.t 11)),oF 13 7 2,oL 14 13,oH 15 14,oB 16 .add 12 15,oB 17 .sub 8 16,oM 1 17] (.seq (oR [oJ 5 0] (.block 0 (.loop DO))) (.seq (oR [oJ 6 0] (.block 2 (.loop jG))) (.seq (oR [oJ 7 0] (.block 4 (.loop gG))) (oR [oM 74 1,oM 4 74] .ret)))))),[(.tmp 4)],2,[]⟩
theorem RZ:cA Tryz.prog 57 xL:=okF Tryz.func57
def xK:MA:=⟨(oR [oQ 5 1 0,oQ 7 8 2,oQ 8 1 3,oJ 10 0] (.seq (oR [oA 13 1 5,oM 14 1,oC2 15 95 13 14,oM 11 15] (oR [oM 16 11,oC 17 .neq 16 0] (oD 17 (oR [oM 18 11,oM 10 18] .ret) .skip))) (.seq (oR [oA 19 1 8,oM 20 4,oC2 21 95 19 20,oM 12 21] (oR [oM 22 12,oC 23 .neq 22 0] (oD 23 (oR [oM 24 12,oM 10 24] .ret) .skip))) (.seq (oR [oA 25 1 5,oM 26 1,oA 27 8 7,oS 28 (.call .any 96 [(.t 25),(.t 26),(.t 27)]),oU 29 28] (oD 29 (oR [oJ 10 1] .ret) .skip)) (oR [oJ 10 0] .ret))))),[(.tmp 10)],5,[]⟩
theorem uY:cA Tryz.prog 58 xK:=okF Tryz.func58
def tF:C:=.seq (oR [oM 164 20,oF 165 6 8,oL 166 165,oH 167 166,oB 168 .lss 164 167] (oD 168 .skip (.exit 2))) (.seq (.block 3 (oR [oS 171 (.load (.root 6) true 1 (.t 6)),oF 172 8 13,oLr 173 13 1 172,oF 174 6 8,oLr 175 8 1 174,oM 176 20,oI 177 8 175 176,oS 178 (.load .imm true 8 (.t 177)),oS 179 (.load (.root 9) true 1 (.t 9)),oF 180 8 14,oLr 181 14 1 180,oM 182 5,oM 183 20,oS 184 (.call .imm 101 [(.t 182),(.t 183)]),oS 185 (.call .imm 59 [(.t 171),(.t 173),(.t 178),(.t 179),(.t 181),(.t 184)]),oY 21 zzb,oN (.store (.root 21) true 10 (.t 21) (.t 185))] (.seq (oR [oF 186 9 21,oL 187 186,oU 188 187] (oD 188 (oR [oA 189 10 21,oV 10 12 189] .ret) .skip)) (.reg [oF 190 6 17,oL 191 190,oF 192 0 21,oA 193 8 192,oS 194 (.bsl zza 1 [(0,(.t 193))]),oAp 195 41 8 120 191 194,oF 196 6 17,oW 196 195])))) (.reg [oM 169 20,oC 170 .add 169 1,oM 20 170]))
def uF:C:=.seq (oR [oM 131 18,oF 132 5 8,oL 133 132,oH 134 133,oB 135 .lss 131 134] (oD 135 .skip (.exit 0))) (.seq (.block 1 (oR [oS 138 (.load (.root 6) true 1 (.t 6)),oF 139 7 13,oLr 140 13 1 139,oF 141 5 8,oLr 142 8 1 141,oM 143 18,oI 144 8 142 143,oS 145 (.load .imm true 8 (.t 144)),oS 146 (.load (.root 9) true 1 (.t 9)),oF 147 7 14,oLr 148 14 1 147,oM 149 5,oM 150 18,oS 151 (.call .imm 101 [(.t 149),(.t 150)]),oS 152 (.call .imm 59 [(.t 138),(.t 140),(.t 145),(.t 146),(.t 148),(.t 151)]),oY 19 zzb,oN (.store (.root 19) true 10 (.t 19) (.t 152))] (.seq (oR [oF 153 9 19,oL 154 153,oU 155 154] (oD 155 (oR [oA 156 10 19,oV 10 12 156] .ret) .skip)) (.reg [oF 157 5 17,oL 158 157,oF 159 0 19,oA 160 8 159,oS 161 (.bsl zza 1 [(0,(.t 160))]),oAp 162 41 8 120 158 161,oF 163 5 17,oW 163 162])))) (.reg [oM 136 18,oC 137 .add 136 1,oM 18 137]))
def CA:MA:=⟨(oR [oQ 6 1 0,oQ 8 8 2,oQ 9 1 3,oY 12 zzb] (oR [oF 22 0 6,oLr 23 6 1 22,oM 24 1,oI 25 10 23 24,oS 26 (.load .imm true 10 (.t 25)),oF 27 0 9,oLr 28 9 1 27,oM 29 4,oI 30 10 28 29,oS 31 (.load .imm true 10 (.t 30)),oY 13 zze,oY 14 zze,oN (.store (.root 13) true 10 (.t 13) (.t 26)),oN (.store (.root 14) true 10 (.t 14) (.t 31))] (.seq (oR [oF 32 0 13,oL 33 32,oF 34 0 14,oL 35 34,oB 36 .neq 33 35] (oD 36 (oR [oM 37 5,oC1 38 97 37,oV 10 12 38] .ret) .skip)) (.seq (oR [oF 39 0 13,oL 40 39,oC 41 .eql 40 2,oM 42 41,oFg 43 2 8 42 true,oP 44 43 42 true,oFg 45 2 14 42 true,oP 46 45 42 true,oBg 47 .lss 44 46 42 true,oMg 48 47 42 true,oFg 49 2 8 48 false,oP 50 49 48 false,oFg 51 3 14 48 false,oP 52 51 48 false,oBg 53 .gtr 50 52 48 false,oG 54 (.pick (.t 48) (.c (.bool true)) (.t 53)) 42 true,oPa 55 42 54] (oD 55 (oR [oM 56 5,oC1 57 97 56,oV 10 12 57] .ret) .skip)) (.seq (oR [oF 58 0 13,oL 59 58,oC 60 .eql 59 3,oM 61 60,oFg 62 3 8 61 true,oP 63 62 61 true,oG 64 (.len true (.t 63)) 61 true,oFg 65 4 14 61 true,oP 66 65 61 true,oBg 67 .gtr 64 66 61 true,oPa 68 61 67] (oD 68 (oR [oM 69 5,oC1 70 97 69,oV 10 12 70] .ret) .skip)) (.seq (oR [oF 71 0 13,oL 72 71,oC 73 .eql 72 4] (oD 73 (oR [oA 75 10 14,oF 76 4 8,oL 77 76,oC2 78 98 75 77,oM 74 78,oX 79 74 0,oX 80 74 1,oM 15 79,oM 16 80] (oR [oM 81 16,oU 82 81,oM 83 82,oFg 84 9 14 83 true,oP 85 84 83 true,oUg 86 85 83 true,oPa 87 83 86] (oD 87 (oR [oM 88 5,oC1 89 97 88,oV 10 12 89] .ret) .skip))) .skip)) (.seq (oR [oF 90 0 13,oL 91 90,oC 92 .eql 91 7,oM 93 92,oFg 94 0 13 93 false,oP 95 94 93 false,oCi 96 .eql 95 8 93 false,oPo 97 93 96,oM 98 97,oFg 99 6 8 98 true,oP 100 99 98 true,oHg 101 100 98 true,oFg 102 4 14 98 true,oP 103 102 98 true,oBg 104 .gtr 101 103 98 true,oPa 105 98 104] (oD 105 (oR [oM 106 5,oC1 107 97 106,oV 10 12 107] .ret) .skip)) (.seq (oR [oF 108 0 13,oL 109 108,oC 110 .eql 109 6] (oD 110 (oR [oA 111 1 6,oA 112 10 13,oA 113 8 8,oA 114 1 9,oA 115 10 14,oM 116 5,oS 117 (.call .any 99 [(.t 111),(.t 112),(.t 113),(.t 114),(.t 115),(.t 116)]),oV 10 12 117] .ret) .skip)) (.seq (oR [oF 118 0 13,oL 119 118,oC 120 .eql 119 5] (oD 120 (oR [oA 121 1 6,oA 122 10 13,oA 123 8 8,oA 124 1 9,oA 125 10 14,oM 126 5,oS 127 (.call .any 100 [(.t 121),(.t 122),(.t 123),(.t 124),(.t 125),(.t 126)]),oV 10 12 127] .ret) .skip)) (oR [oA 128 8 8,oY 17 zza,oV 8 17 128] (oR [oF 129 5 17,oN (.store .any false 1 (.t 129) (.c (.sl true []))),oF 130 6 17,oN (.store .any false 1 (.t 130) (.c (.sl true [])))] (.seq (oR [oJ 18 0] (.block 0 (.loop uF))) (.seq (oR [oJ 20 0] (.block 2 (.loop tF))) (oR [oA 197 8 17,oC1 198 102 197,oV 10 12 198] .ret)))))))))))))),[(.cell 12 true 10)],6,[]⟩
theorem OZ:cA Tryz.prog 59 CA:=okF Tryz.func59
def kG:MA:=⟨(oR [oQ 2 2 0,oQ 3 2 1,oJ 4 0] (.seq (oR [oF 6 0 2,oA 7 1 6,oF 8 1 2,oL 9 8,oC2 10 103 7 9,oM 5 10] (oR [oM 11 5,oC 12 .neq 11 0] (oD 12 (oR [oM 13 5,oM 4 13] .ret) .skip))) (oR [oF 14 0 3,oA 15 1 14,oF 16 1 3,oL 17 16,oC2 18 103 15 17,oM 4 18] .ret))),[(.tmp 4)],2,[]⟩
theorem FU:cA Tryz.prog 61 kG:=okF Tryz.func61
def AA:MA:=⟨(oR [oQ 4 1 0,oQ 6 1 2,oJ 8 0] (oR [oF 11 0 4,oLr 12 4 1 11,oM 13 1,oI 14 10 12 13,oS 15 (.load .imm true 10 (.t 14)),oF 16 0 6,oLr 17 6 1 16,oM 18 3,oI 19 10 17 18,oS 20 (.load .imm true 10 (.t 19)),oY 9 zze,oY 10 zze,oN (.store (.root 9) true 10 (.t 9) (.t 15)),oN (.store (.root 10) true 10 (.t 10) (.t 20))] (.seq (oR [oF 21 0 9,oL 22 21,oF 23 0 10,oL 24 23,oB 25 .neq 22 24] (oD 25 (oR [oJ 8 9] .ret) .skip)) (.seq (.block 0 (oR [oF 27 0 9,oL 28 27,oC 29 .eql 28 2,oM 30 29,oFg 31 2 9 30 true,oP 32 31 30 true,oFg 33 2 10 30 true,oP 34 33 30 true,oBg 35 .lss 32 34 30 true,oMg 36 35 30 true,oFg 37 3 9 36 false,oP 38 37 36 false,oFg 39 3 10 36 false,oP 40 39 36 false,oBg 41 .gtr 38 40 36 false,oG 42 (.pick (.t 36) (.c (.bool true)) (.t 41)) 30 true,oPa 43 30 42,oM 26 43] (oD 26 (oR [oJ 8 2] .ret) (oR [oF 45 0 9,oL 46 45,oC 47 .eql 46 3,oM 48 47,oFg 49 0 9 48 false,oP 50 49 48 false,oCi 51 .eql 50 7 48 false,oPo 52 48 51,oM 53 52,oFg 54 4 9 53 true,oP 55 54 53 true,oFg 56 4 10 53 true,oP 57 56 53 true,oBg 58 .gtr 55 57 53 true,oPa 59 53 58,oM 44 59] (oD 44 (oR [oJ 8 3] .ret) (oR [oF 61 0 9,oL 62 61,oC 63 .eql 62 8,oM 64 63,oFg 65 4 9 64 true,oP 66 65 64 true,oFg 67 0 4 64 true,oP 68 67 64 true,oFg 69 7 9 64 true,oP 70 69 64 true,oIg 71 10 68 70 64 true,oLg 72 10 71 64 true,oG 73 (.call .any 104 [(.t 72)]) 64 true,oG 74 (.mm false (.t 66) (.t 73)) 64 true,oFg 75 4 10 64 true,oP 76 75 64 true,oBg 77 .gtr 74 76 64 true,oPa 78 64 77,oM 60 78] (oD 60 (oR [oJ 8 3] .ret) (oR [oF 80 0 9,oL 81 80,oC 82 .eql 81 4,oM 83 82,oLg 84 10 9 83 true,oLg 85 10 10 83 true,oCg 86 105 84 85 83 true,oUg 87 86 83 true,oPa 88 83 87,oM 79 88] (oD 79 (oR [oJ 8 4] .ret) (oR [oF 90 0 9,oL 91 90,oC 92 .eql 91 6,oM 93 92,oLg 94 10 9 93 true,oLg 95 10 10 93 true,oCg 96 105 94 95 93 true,oUg 97 96 93 true,oPa 98 93 97,oM 89 98] (oD 89 (oR [oJ 8 5] .ret) (oR [oF 100 0 9,oL 101 100,oC 102 .eql 101 5,oM 99 102] (oD 99 (oR [oA 103 1 4,oA 104 10 9,oA 105 1 6,oA 106 10 10,oC4 107 106 103 104 105 106,oM 8 107] .ret) .skip))))))))))))) (oR [oJ 8 0] .ret))))),[(.tmp 8)],4,[]⟩
theorem AR:cA Tryz.prog 62 AA:=okF Tryz.func62
def qE:C:=oR [oB 38 .lss 37 36] (.seq (oD 38 .skip (.exit 0)) (.seq (.block 1 (oR [oI 39 13 35 37,oA 40 13 39,oY 14 zzh,oV 13 14 40] (oR [oA 42 10 10,oF 43 0 14,oL 44 43,oC2 45 109 42 44,oM 41 45,oX 46 41 0,oX 47 41 1,oM 15 46,oM 16 47] (oR [oM 48 16] (oD 48 (.reg [oM 49 12,oF 50 2 14,oLr 51 14 1 50,oF 52 6 10,oLr 53 10 1 52,oM 54 15,oI 55 13 53 54,oF 56 2 55,oL 57 56,oS 58 (.callh 99 (.t 49) [(.t 51),(.t 57)])]) .skip))))) (.reg [oC 59 .add 37 1,oM 37 59])))
def AD:MA:=⟨(oR [oQ 4 1 0,oQ 6 1 2,oS 8 (.mv (.c (.sl true [])))] (oR [oF 17 0 4,oLr 18 4 1 17,oM 19 1,oI 20 10 18 19,oS 21 (.load .imm true 10 (.t 20)),oF 22 0 6,oLr 23 6 1 22,oM 24 3,oI 25 10 23 24,oS 26 (.load .imm true 10 (.t 25)),oY 9 zze,oY 10 zze,oN (.store (.root 9) true 10 (.t 9) (.t 21)),oN (.store (.root 10) true 10 (.t 10) (.t 26))] (oR [oS 11 (.alloc [(.sl true [])])] (.seq (oR [oF 27 0 9,oL 28 27,oF 29 0 10,oL 30 29,oB 31 .neq 28 30] (oD 31 (oR [oL 32 11,oM 8 32] .ret) .skip)) (oR [oS 33 (.mkf 107 [(.t 11)]),oM 12 33] (.seq (oR [oF 34 6 9,oL 35 34,oH 36 35,oJ 37 0] (.block 0 (.loop qE))) (.seq (oR [oF 60 0 9,oL 61 60,oC 62 .eql 61 8,oM 63 62,oFg 64 4 9 63 true,oP 65 64 63 true,oCi 66 .gtr 65 0 63 true,oPa 67 63 66] (oD 67 (.reg [oM 68 12,oF 69 7 9,oL 70 69,oF 71 7 10,oL 72 71,oS 73 (.callh 99 (.t 68) [(.t 70),(.t 72)])]) .skip)) (.seq (oR [oF 74 0 9,oL 75 74,oC 76 .eql 75 9,oM 77 76,oFg 78 0 9 77 false,oP 79 78 77 false,oCi 80 .eql 79 7 77 false,oMg 81 80 77 false,oFg 82 0 9 81 false,oP 83 82 81 false,oCi 84 .eql 83 8 81 false,oG 85 (.pick (.t 81) (.c (.bool true)) (.t 84)) 77 false,oMg 86 85 77 false,oFg 87 4 9 86 true,oP 88 87 86 true,oCi 89 .gtr 88 0 86 true,oPb 90 86 89 77 false,oPo 91 77 90] (oD 91 (.reg [oM 92 12,oF 93 8 9,oL 94 93,oF 95 8 10,oL 96 95,oS 97 (.callh 99 (.t 92) [(.t 94),(.t 96)])]) .skip)) (oR [oL 98 11,oM 8 98] .ret))))))))),[(.tmp 8)],4,[2000049,2000068,2000092]⟩
theorem gO:cA Tryz.prog 63 AD:=okF Tryz.func63
def PD:C:=oR [oB 47 .lss 46 45] (.seq (oD 47 .skip (.exit 2)) (.seq (.block 3 (oR [oI 48 2 44 46,oA 49 2 48,oY 11 [(.int .i64 0),(.int .i64 0)],oV 2 11 49] (oR [oM 50 8,oA 51 2 11,oS 52 (.mget false (.agg [(.some .i64),(.some .i64)]) (.bool false) (.t 50) (.t 51)),oU 53 52] (oD 53 (oR [oM 54 8,oA 55 2 11,oN (.mset (.agg [(.some .i64),(.some .i64)]) (.t 54) (.t 55) (.c (.bool true)))] (.reg [oM 56 6,oA 57 2 11,oS 58 (.bsl [(.int .i64 0),(.int .i64 0)] 1 [(0,(.t 57))]),oAp 59 113 2 16 56 58,oM 60 7,oM 61 9,oS 62 (.bsl [(.int .i64 0)] 1 [(0,(.t 61))]),oAp 63 3 1 8 60 62,oM 6 59,oM 7 63])) .skip)))) (.reg [oC 64 .add 46 1,oM 46 64])))
def TG:C:=.seq (oR [oM 24 9,oM 25 6,oH 26 25,oB 27 .lss 24 26] (oD 27 .skip (.exit 0))) (.seq (.block 1 (oR [oF 30 0 2,oA 31 1 30,oM 32 6,oM 33 9,oI 34 2 32 33,oS 35 (.aaddr 2 1 (.t 34) (.c (.int .i64 0))),oL 36 35,oF 37 0 3,oA 38 1 37,oM 39 6,oM 40 9,oI 41 2 39 40,oS 42 (.aaddr 2 1 (.t 41) (.c (.int .i64 1))),oL 43 42,oC4 44 63 31 36 38 43,oH 45 44,oJ 46 0] (.block 2 (.loop PD)))) (.reg [oM 28 9,oC 29 .add 28 1,oM 9 29]))
def rG:MA:=⟨(oR [oQ 2 2 0,oQ 3 2 1,oS 4 (.mv (.c (.sl true []))),oS 5 (.mv (.c (.sl true [])))] (oR [oF 12 1 2,oL 13 12,oF 14 1 3,oL 15 14,oS 16 (.build [(.int .i64 0),(.int .i64 0)] [(0,(1,(.t 13))),(1,(1,(.t 15)))]),oS 17 (.bsl [(.int .i64 0),(.int .i64 0)] 1 [(0,(.t 16))]),oS 18 (.bsl [(.int .i64 0)] 1 [(0,(.c (.int .i64 (-1))))]),oM 6 17,oM 7 18] (oR [oS 19 (.mkm),oM 20 6,oS 21 (.iaddr 2 (.t 20) (.c (.int .i64 0))),oA 22 2 21,oN (.mset (.agg [(.some .i64),(.some .i64)]) (.t 19) (.t 22) (.c (.bool true))),oM 23 19,oM 8 23] (.seq (oR [oJ 9 0] (.block 0 (.loop TG))) (oR [oM 65 6,oM 66 7,oM 4 65,oM 5 66] .ret))))),[(.tmp 4),(.tmp 5)],2,[]⟩
theorem DQ:cA Tryz.prog 64 rG:=okF Tryz.func64
def LE:C:=.seq (oR [oM 7 2,oM 8 3,oB 9 .lss 7 8] (oD 9 .skip (.exit 0))) (.seq (.block 1 (.reg [oM 14 0,oM 15 2,oM 16 0,oM 17 3,oM 18 0,oM 19 3,oI 20 2 18 19,oA 21 2 20,oM 22 0,oM 23 2,oI 24 2 22 23,oA 25 2 24,oI 26 2 14 15,oV 2 26 21,oI 27 2 16 17,oV 2 27 25])) (.reg [oM 10 2,oC 11 .add 10 1,oM 12 3,oC 13 .sub 12 1,oM 2 11,oM 3 13]))
def aE:MA:=⟨(oR [oM 4 0,oH 5 4,oC 6 .sub 5 1,oJ 2 0,oM 3 6] (.block 0 (.loop LE))),[],1,[8000000]⟩
theorem iN:cA Tryz.prog 68 aE:=okF Tryz.func68
noncomputable def OO:MA:=cF [] Tryz.f37
theorem cU:cA Tryz.prog 37 OO:=okF Tryz.func37
noncomputable def pS:MA:=cF [] Tryz.f38
theorem bZ:cA Tryz.prog 38 pS:=okF Tryz.func38
def dG:MA:=⟨(oR [oQ 1 1 0,oJ 2 0] (.seq (oR [oA 7 1 1,oC1 8 74 7,oM 3 8] (oR [oM 9 3,oC 10 .neq 9 0] (oD 10 (oR [oM 11 3,oM 2 11] .ret) .skip))) (oR [oA 13 1 1,oC1 14 75 13,oM 12 14,oX 15 12 0,oX 16 12 1,oX 17 12 2,oM 4 15,oM 5 16,oM 6 17] (oR [oM 18 6,oM 2 18] .ret)))),[(.tmp 2)],1,[]⟩
theorem zU:cA Tryz.prog 41 dG:=okF Tryz.func41
def cE:C:=oR [oB 17 .lss 16 15] (.seq (oD 17 .skip (.exit 2)) (.seq (.block 3 (oR [oM 18 16,oI 19 10 14 16,oA 20 10 19,oY 6 zze,oM 5 18,oV 10 6 20] (oR [oA 21 10 6,oM 22 3,oC2 23 76 21 22,oS 24 (.mm false (.c (.int .i64 2)) (.t 23)),oM 7 24] (oR [oM 25 7,oM 26 3,oM 27 5,oI 28 1 26 27,oL 29 28,oB 30 .neq 25 29] (oD 30 (.reg [oM 31 3,oM 32 5,oM 33 7,oI 34 1 31 32,oW 34 33,oZ 4 true]) .skip))))) (.reg [oC 35 .add 16 1,oM 16 35])))
def IH:C:=.seq (oR [oM 12 4] (oD 12 .skip (.exit 0))) (.block 1 (oR [oZ 4 false] (oR [oF 13 0 1,oL 14 13,oH 15 14,oJ 16 0] (.block 2 (.loop cE)))))
def sH:MA:=⟨(oR [oQ 1 1 0,oS 2 (.mv (.c (.sl true [])))] (oR [oF 8 0 1,oL 9 8,oH 10 9,oS 11 (.mks 1 8 [(.int .i64 0)] (.t 10) (.t 10)),oM 3 11] (.seq (oR [oZ 4 true] (.block 0 (.loop IH))) (oR [oM 36 3,oM 2 36] .ret)))),[(.tmp 2)],1,[]⟩
theorem NS:cA Tryz.prog 42 sH:=okF Tryz.func42
noncomputable def RO:MA:=cF [] Tryz.f44
theorem kU:cA Tryz.prog 44 RO:=okF Tryz.func44
noncomputable def TO:MA:=cF [] Tryz.f45
theorem lU:cA Tryz.prog 45 TO:=okF Tryz.func45
end Go.Proofs.YtbhbeakhognieaaGreat
